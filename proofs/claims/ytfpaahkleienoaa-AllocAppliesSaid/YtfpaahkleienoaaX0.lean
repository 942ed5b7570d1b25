/-
  Facts on the types and functions of this program, by reckoning.
-/
import Derived.Test.YtfpaahkleienoaaRows
import Derived.Test.YtfpaahkleienoaaS6
namespace Go.Proofs.Ytfpaahkleienoaa
open Go.RowKit
set_option linter.unusedSimpArgs false
set_option linter.unusedVariables false
theorem ti_3 : tyI Try.prog 3 = some (false, 1, 8, [.int .i64 0]) := by kernel_rfl
theorem ti_4 : tyI Try.prog 4 = some (false, 1, 1, [.bool false]) := by kernel_rfl
theorem ti_22 : tyI Try.prog 22 = some (false, 1, 24, [.slice none 0 0]) := by kernel_rfl
theorem sl_22 : slI Try.prog 22 = some 33 := by kernel_rfl
theorem ti_23 : tyI Try.prog 23 = some (false, 1, 24, [.slice none 0 0]) := by kernel_rfl
theorem sl_23 : slI Try.prog 23 = some 3 := by kernel_rfl
theorem ti_25 : tyI Try.prog 25 = some (true, 4, 64, [.slice none 0 0, .slice none 0 0, .int .i64 0, .int .i64 0]) := by kernel_rfl
theorem fl_25_0 : flI Try.prog 25 0 = some 0 := by kernel_rfl
theorem fl_25_1 : flI Try.prog 25 1 = some 1 := by kernel_rfl
theorem fl_25_2 : flI Try.prog 25 2 = some 2 := by kernel_rfl
theorem fl_25_3 : flI Try.prog 25 3 = some 3 := by kernel_rfl
theorem ti_26 : tyI Try.prog 26 = some (false, 1, 8, [.int .i64 0]) := by kernel_rfl
theorem ti_28 : tyI Try.prog 28 = some (true, 3, 24, [.int .i64 0, .int .i64 0, .int .i64 0]) := by kernel_rfl
theorem fl_28_0 : flI Try.prog 28 0 = some 0 := by kernel_rfl
theorem ti_32 : tyI Try.prog 32 = some (true, 4, 32, [.int .i64 0, .int .i64 0, .int .i64 0, .int .i64 0]) := by kernel_rfl
theorem fl_32_0 : flI Try.prog 32 0 = some 0 := by kernel_rfl
theorem fl_32_1 : flI Try.prog 32 1 = some 1 := by kernel_rfl
theorem fl_32_2 : flI Try.prog 32 2 = some 2 := by kernel_rfl
theorem fl_32_3 : flI Try.prog 32 3 = some 3 := by kernel_rfl
theorem ti_33 : tyI Try.prog 33 = some (false, 1, 24, [.slice none 0 0]) := by kernel_rfl
theorem sl_33 : slI Try.prog 33 = some 32 := by kernel_rfl
theorem ti_35 : tyI Try.prog 35 = some (false, 1, 24, [.slice none 0 0]) := by kernel_rfl
theorem sl_35 : slI Try.prog 35 = some 23 := by kernel_rfl
theorem ti_80 : tyI Try.prog 80 = some (false, 1, 8, [.map none]) := by kernel_rfl
theorem sl_82 : slI Try.prog 82 = some 80 := by kernel_rfl
theorem fl_85_0 : flI Try.prog 85 0 = some 0 := by kernel_rfl
theorem fl_85_1 : flI Try.prog 85 1 = some 1 := by kernel_rfl
theorem sl_90 : slI Try.prog 90 = some 92 := by kernel_rfl
theorem ti_92 : tyI Try.prog 92 = some (false, 1, 24, [.slice none 0 0]) := by kernel_rfl
theorem sl_92 : slI Try.prog 92 = some 4 := by kernel_rfl
theorem sl_98 : slI Try.prog 98 = some 101 := by kernel_rfl
theorem ti_101 : tyI Try.prog 101 = some (true, 200, 200, [.bool false, .bool false, .bool false, .bool false, .bool false, .bool false, .bool false, .bool false, .bool false, .bool false, .bool false, .bool false, .bool false, .bool false, .bool false, .bool false, .bool false, .bool false, .bool false, .bool false, .bool false, .bool false, .bool false, .bool false, .bool false, .bool false, .bool false, .bool false, .bool false, .bool false, .bool false, .bool false, .bool false, .bool false, .bool false, .bool false, .bool false, .bool false, .bool false, .bool false, .bool false, .bool false, .bool false, .bool false, .bool false, .bool false, .bool false, .bool false, .bool false, .bool false, .bool false, .bool false, .bool false, .bool false, .bool false, .bool false, .bool false, .bool false, .bool false, .bool false, .bool false, .bool false, .bool false, .bool false, .bool false, .bool false, .bool false, .bool false, .bool false, .bool false, .bool false, .bool false, .bool false, .bool false, .bool false, .bool false, .bool false, .bool false, .bool false, .bool false, .bool false, .bool false, .bool false, .bool false, .bool false, .bool false, .bool false, .bool false, .bool false, .bool false, .bool false, .bool false, .bool false, .bool false, .bool false, .bool false, .bool false, .bool false, .bool false, .bool false, .bool false, .bool false, .bool false, .bool false, .bool false, .bool false, .bool false, .bool false, .bool false, .bool false, .bool false, .bool false, .bool false, .bool false, .bool false, .bool false, .bool false, .bool false, .bool false, .bool false, .bool false, .bool false, .bool false, .bool false, .bool false, .bool false, .bool false, .bool false, .bool false, .bool false, .bool false, .bool false, .bool false, .bool false, .bool false, .bool false, .bool false, .bool false, .bool false, .bool false, .bool false, .bool false, .bool false, .bool false, .bool false, .bool false, .bool false, .bool false, .bool false, .bool false, .bool false, .bool false, .bool false, .bool false, .bool false, .bool false, .bool false, .bool false, .bool false, .bool false, .bool false, .bool false, .bool false, .bool false, .bool false, .bool false, .bool false, .bool false, .bool false, .bool false, .bool false, .bool false, .bool false, .bool false, .bool false, .bool false, .bool false, .bool false, .bool false, .bool false, .bool false, .bool false, .bool false, .bool false, .bool false, .bool false, .bool false, .bool false, .bool false, .bool false, .bool false, .bool false, .bool false, .bool false, .bool false, .bool false, .bool false, .bool false, .bool false, .bool false]) := by kernel_rfl
theorem sl_131 : slI Try.prog 131 = some 35 := by kernel_rfl
theorem ti_171 : tyI Try.prog 171 = some (false, 1, 8, [.pointer none]) := by kernel_rfl
theorem sl_172 : slI Try.prog 172 = some 171 := by kernel_rfl
theorem bd_18 : bodyI Try.prog 18 = true := by kernel_rfl
theorem bd_19 : bodyI Try.prog 19 = true := by kernel_rfl
theorem bd_20 : bodyI Try.prog 20 = true := by kernel_rfl
theorem bd_21 : bodyI Try.prog 21 = true := by kernel_rfl
theorem bd_22 : bodyI Try.prog 22 = true := by kernel_rfl
theorem bd_23 : bodyI Try.prog 23 = true := by kernel_rfl
theorem bd_24 : bodyI Try.prog 24 = true := by kernel_rfl
theorem bd_46 : bodyI Try.prog 46 = true := by kernel_rfl
theorem bd_47 : bodyI Try.prog 47 = true := by kernel_rfl
theorem bd_50 : bodyI Try.prog 50 = true := by kernel_rfl
theorem bd_54 : bodyI Try.prog 54 = true := by kernel_rfl
theorem bd_55 : bodyI Try.prog 55 = true := by kernel_rfl
theorem bd_56 : bodyI Try.prog 56 = true := by kernel_rfl
theorem bd_57 : bodyI Try.prog 57 = true := by kernel_rfl
theorem bd_59 : bodyI Try.prog 59 = true := by kernel_rfl
theorem bd_60 : bodyI Try.prog 60 = true := by kernel_rfl
theorem bd_61 : bodyI Try.prog 61 = true := by kernel_rfl
theorem bd_62 : bodyI Try.prog 62 = true := by kernel_rfl
theorem bd_68 : bodyI Try.prog 68 = true := by kernel_rfl
theorem bd_73 : bodyI Try.prog 73 = true := by kernel_rfl
theorem bd_83 : bodyI Try.prog 83 = true := by kernel_rfl
theorem bd_92 : bodyI Try.prog 92 = true := by kernel_rfl
theorem bd_96 : bodyI Try.prog 96 = true := by kernel_rfl
theorem bd_100 : bodyI Try.prog 100 = true := by kernel_rfl
theorem bd_101 : bodyI Try.prog 101 = true := by kernel_rfl
theorem bd_102 : bodyI Try.prog 102 = true := by kernel_rfl
theorem bd_103 : bodyI Try.prog 103 = true := by kernel_rfl
theorem bd_104 : bodyI Try.prog 104 = true := by kernel_rfl
theorem bd_105 : bodyI Try.prog 105 = true := by kernel_rfl
theorem bd_106 : bodyI Try.prog 106 = true := by kernel_rfl
theorem bd_107 : bodyI Try.prog 107 = true := by kernel_rfl
theorem bd_108 : bodyI Try.prog 108 = true := by kernel_rfl
theorem bd_109 : bodyI Try.prog 109 = true := by kernel_rfl
theorem bd_115 : bodyI Try.prog 115 = true := by kernel_rfl
theorem bd_132 : bodyI Try.prog 132 = true := by kernel_rfl
theorem bd_133 : bodyI Try.prog 133 = true := by kernel_rfl
theorem bd_141 : bodyI Try.prog 141 = true := by kernel_rfl
/-- How long rows are. -/
theorem lens9 : (∀ {α : Type} (l m : List α), (l ++ m).length = l.length + m.length) ∧ (∀ {α : Type} (a : α) (l : List α), (a :: l).length = l.length + 1) ∧ (∀ {α : Type}, ([] : List α).length = 0) ∧ (∀ {α : Type} (l : List α) (i : Nat) (a : α), (l.set i a).length = l.length) ∧ (∀ {α : Type} (n : Nat) (a : α), (List.replicate n a).length = n) ∧ (∀ {α β : Type} (f : α → β) (l : List α), (l.map f).length = l.length) ∧ (∀ n : Nat, (List.range n).length = n) :=
  ⟨fun l m => List.length_append, fun a l => List.length_cons, List.length_nil, fun l i a => List.length_set, fun n a => List.length_replicate, fun f l => List.length_map f, fun n => List.length_range⟩

end Go.Proofs.Ytfpaahkleienoaa
