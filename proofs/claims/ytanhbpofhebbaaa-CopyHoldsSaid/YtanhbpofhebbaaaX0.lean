/-
  Facts on the types and functions of this program, by reckoning.
-/
import Derived.Test.YtanhbpofhebbaaaRows
import Derived.Test.YtanhbpofhebbaaaS6
namespace Go.Proofs.Ytanhbpofhebbaaa
open Go.RowKit
set_option linter.unusedSimpArgs false
set_option linter.unusedVariables false
theorem ti_3 : tyI Try.prog 3 = some (false, 1, 8, [.int .i64 0]) := by kernel_rfl
theorem ti_4 : tyI Try.prog 4 = some (false, 1, 1, [.bool false]) := by kernel_rfl
theorem ti_22 : tyI Try.prog 22 = some (false, 1, 8, [.int .i64 0]) := by kernel_rfl
theorem ti_24 : tyI Try.prog 24 = some (false, 1, 24, [.slice none 0 0]) := by kernel_rfl
theorem sl_24 : slI Try.prog 24 = some 3 := by kernel_rfl
theorem ti_26 : tyI Try.prog 26 = some (false, 1, 24, [.slice none 0 0]) := by kernel_rfl
theorem sl_26 : slI Try.prog 26 = some 64 := by kernel_rfl
theorem ti_28 : tyI Try.prog 28 = some (true, 4, 64, [.slice none 0 0, .slice none 0 0, .int .i64 0, .int .i64 0]) := by kernel_rfl
theorem fl_28_0 : flI Try.prog 28 0 = some 0 := by kernel_rfl
theorem fl_28_1 : flI Try.prog 28 1 = some 1 := by kernel_rfl
theorem fl_28_2 : flI Try.prog 28 2 = some 2 := by kernel_rfl
theorem fl_28_3 : flI Try.prog 28 3 = some 3 := by kernel_rfl
theorem ti_31 : tyI Try.prog 31 = some (true, 3, 24, [.int .i64 0, .int .i64 0, .int .i64 0]) := by kernel_rfl
theorem fl_31_0 : flI Try.prog 31 0 = some 0 := by kernel_rfl
theorem ti_45 : tyI Try.prog 45 = some (false, 1, 24, [.slice none 0 0]) := by kernel_rfl
theorem sl_45 : slI Try.prog 45 = some 94 := by kernel_rfl
theorem ti_46 : tyI Try.prog 46 = some (false, 1, 24, [.slice none 0 0]) := by kernel_rfl
theorem sl_46 : slI Try.prog 46 = some 24 := by kernel_rfl
theorem ti_47 : tyI Try.prog 47 = some (false, 1, 24, [.slice none 0 0]) := by kernel_rfl
theorem sl_47 : slI Try.prog 47 = some 56 := by kernel_rfl
theorem fl_49_0 : flI Try.prog 49 0 = some 0 := by kernel_rfl
theorem fl_49_1 : flI Try.prog 49 1 = some 1 := by kernel_rfl
theorem fl_49_2 : flI Try.prog 49 2 = some 2 := by kernel_rfl
theorem fl_49_3 : flI Try.prog 49 3 = some 3 := by kernel_rfl
theorem fl_49_4 : flI Try.prog 49 4 = some 4 := by kernel_rfl
theorem fl_49_5 : flI Try.prog 49 5 = some 5 := by kernel_rfl
theorem ti_56 : tyI Try.prog 56 = some (true, 3, 56, [.int .i64 0, .slice none 0 0, .slice none 0 0]) := by kernel_rfl
theorem fl_56_0 : flI Try.prog 56 0 = some 0 := by kernel_rfl
theorem fl_56_1 : flI Try.prog 56 1 = some 1 := by kernel_rfl
theorem fl_56_2 : flI Try.prog 56 2 = some 2 := by kernel_rfl
theorem ti_64 : tyI Try.prog 64 = some (false, 1, 24, [.slice none 0 0]) := by kernel_rfl
theorem sl_64 : slI Try.prog 64 = some 73 := by kernel_rfl
theorem ti_73 : tyI Try.prog 73 = some (true, 4, 32, [.int .i64 0, .int .i64 0, .int .i64 0, .int .i64 0]) := by kernel_rfl
theorem fl_73_0 : flI Try.prog 73 0 = some 0 := by kernel_rfl
theorem fl_73_1 : flI Try.prog 73 1 = some 1 := by kernel_rfl
theorem fl_73_2 : flI Try.prog 73 2 = some 2 := by kernel_rfl
theorem fl_73_3 : flI Try.prog 73 3 = some 3 := by kernel_rfl
theorem ti_94 : tyI Try.prog 94 = some (false, 1, 8, [.pointer none]) := by kernel_rfl
theorem ti_99 : tyI Try.prog 99 = some (false, 1, 24, [.slice none 0 0]) := by kernel_rfl
theorem sl_99 : slI Try.prog 99 = some 139 := by kernel_rfl
theorem ti_101 : tyI Try.prog 101 = some (true, 3, 56, [.int .i64 0, .slice none 0 0, .slice none 0 0]) := by kernel_rfl
theorem fl_101_0 : flI Try.prog 101 0 = some 0 := by kernel_rfl
theorem fl_101_1 : flI Try.prog 101 1 = some 1 := by kernel_rfl
theorem fl_101_2 : flI Try.prog 101 2 = some 2 := by kernel_rfl
theorem ti_102 : tyI Try.prog 102 = some (false, 1, 24, [.slice none 0 0]) := by kernel_rfl
theorem sl_102 : slI Try.prog 102 = some 101 := by kernel_rfl
theorem fl_104_0 : flI Try.prog 104 0 = some 0 := by kernel_rfl
theorem fl_104_1 : flI Try.prog 104 1 = some 4 := by kernel_rfl
theorem fl_104_2 : flI Try.prog 104 2 = some 5 := by kernel_rfl
theorem fl_104_3 : flI Try.prog 104 3 = some 6 := by kernel_rfl
theorem fl_104_4 : flI Try.prog 104 4 = some 7 := by kernel_rfl
theorem fl_104_5 : flI Try.prog 104 5 = some 8 := by kernel_rfl
theorem fl_104_6 : flI Try.prog 104 6 = some 9 := by kernel_rfl
theorem sl_126 : slI Try.prog 126 = some 130 := by kernel_rfl
theorem ti_130 : tyI Try.prog 130 = some (false, 1, 8, [.map none]) := by kernel_rfl
theorem ti_139 : tyI Try.prog 139 = some (true, 3, 24, [.bool false, .int .i64 0, .int .i64 0]) := by kernel_rfl
theorem fl_139_0 : flI Try.prog 139 0 = some 0 := by kernel_rfl
theorem fl_139_1 : flI Try.prog 139 1 = some 1 := by kernel_rfl
theorem fl_139_2 : flI Try.prog 139 2 = some 2 := by kernel_rfl
theorem ti_150 : tyI Try.prog 150 = some (false, 1, 8, [.pointer none]) := by kernel_rfl
theorem sl_151 : slI Try.prog 151 = some 150 := by kernel_rfl
theorem bd_18 : bodyI Try.prog 18 = true := by kernel_rfl
theorem bd_19 : bodyI Try.prog 19 = true := by kernel_rfl
theorem bd_20 : bodyI Try.prog 20 = true := by kernel_rfl
theorem bd_25 : bodyI Try.prog 25 = true := by kernel_rfl
theorem bd_30 : bodyI Try.prog 30 = true := by kernel_rfl
theorem bd_41 : bodyI Try.prog 41 = true := by kernel_rfl
theorem bd_45 : bodyI Try.prog 45 = true := by kernel_rfl
theorem bd_51 : bodyI Try.prog 51 = true := by kernel_rfl
theorem bd_58 : bodyI Try.prog 58 = true := by kernel_rfl
theorem bd_59 : bodyI Try.prog 59 = true := by kernel_rfl
theorem bd_60 : bodyI Try.prog 60 = true := by kernel_rfl
theorem bd_61 : bodyI Try.prog 61 = true := by kernel_rfl
theorem bd_62 : bodyI Try.prog 62 = true := by kernel_rfl
theorem bd_67 : bodyI Try.prog 67 = true := by kernel_rfl
theorem bd_68 : bodyI Try.prog 68 = true := by kernel_rfl
theorem bd_75 : bodyI Try.prog 75 = true := by kernel_rfl
theorem bd_80 : bodyI Try.prog 80 = true := by kernel_rfl
theorem bd_81 : bodyI Try.prog 81 = true := by kernel_rfl
theorem bd_86 : bodyI Try.prog 86 = true := by kernel_rfl
theorem bd_87 : bodyI Try.prog 87 = true := by kernel_rfl
theorem bd_95 : bodyI Try.prog 95 = true := by kernel_rfl
theorem bd_96 : bodyI Try.prog 96 = true := by kernel_rfl
theorem bd_97 : bodyI Try.prog 97 = true := by kernel_rfl
theorem bd_98 : bodyI Try.prog 98 = true := by kernel_rfl
theorem bd_99 : bodyI Try.prog 99 = true := by kernel_rfl
theorem bd_100 : bodyI Try.prog 100 = true := by kernel_rfl
theorem bd_101 : bodyI Try.prog 101 = true := by kernel_rfl
theorem bd_103 : bodyI Try.prog 103 = true := by kernel_rfl
theorem bd_104 : bodyI Try.prog 104 = true := by kernel_rfl
theorem bd_105 : bodyI Try.prog 105 = true := by kernel_rfl
theorem bd_106 : bodyI Try.prog 106 = true := by kernel_rfl
theorem bd_107 : bodyI Try.prog 107 = true := by kernel_rfl
theorem bd_110 : bodyI Try.prog 110 = true := by kernel_rfl
theorem bd_111 : bodyI Try.prog 111 = true := by kernel_rfl
theorem bd_112 : bodyI Try.prog 112 = true := by kernel_rfl
theorem bd_113 : bodyI Try.prog 113 = true := by kernel_rfl
theorem bd_114 : bodyI Try.prog 114 = true := by kernel_rfl
theorem bd_117 : bodyI Try.prog 117 = true := by kernel_rfl
theorem bd_118 : bodyI Try.prog 118 = true := by kernel_rfl
theorem bd_119 : bodyI Try.prog 119 = true := by kernel_rfl
theorem bd_121 : bodyI Try.prog 121 = true := by kernel_rfl
/-- How long rows are. -/
theorem lens9 : (∀ {α : Type} (l m : List α), (l ++ m).length = l.length + m.length) ∧ (∀ {α : Type} (a : α) (l : List α), (a :: l).length = l.length + 1) ∧ (∀ {α : Type}, ([] : List α).length = 0) ∧ (∀ {α : Type} (l : List α) (i : Nat) (a : α), (l.set i a).length = l.length) ∧ (∀ {α : Type} (n : Nat) (a : α), (List.replicate n a).length = n) ∧ (∀ {α β : Type} (f : α → β) (l : List α), (l.map f).length = l.length) ∧ (∀ n : Nat, (List.range n).length = n) :=
  ⟨fun l m => List.length_append, fun a l => List.length_cons, List.length_nil, fun l i a => List.length_set, fun n a => List.length_replicate, fun f l => List.length_map f, fun n => List.length_range⟩

end Go.Proofs.Ytanhbpofhebbaaa
