/-
  Facts on the types and functions of this program, by reckoning.
-/
import Derived.Test.YtanhbpofhebbaaaRows
import Derived.Test.YtanhbpofhebbaaaS6
namespace Go.Proofs.Ytanhbpofhebbaaa
open Go.RowKit
set_option linter.unusedSimpArgs false
set_option linter.unusedVariables false
theorem ti_3 : tyI Try.prog 3 = some (false, 1, 8, [.int .i64 0]) := by kernel_rfl
theorem ti_4 : tyI Try.prog 4 = some (false, 1, 1, [.bool false]) := by kernel_rfl
theorem ti_22 : tyI Try.prog 22 = some (false, 1, 8, [.int .i64 0]) := by kernel_rfl
theorem ti_24 : tyI Try.prog 24 = some (false, 1, 24, [.slice none 0 0]) := by kernel_rfl
theorem sl_24 : slI Try.prog 24 = some 3 := by kernel_rfl
theorem ti_26 : tyI Try.prog 26 = some (false, 1, 24, [.slice none 0 0]) := by kernel_rfl
theorem sl_26 : slI Try.prog 26 = some 64 := by kernel_rfl
theorem ti_28 : tyI Try.prog 28 = some (true, 4, 64, [.slice none 0 0, .slice none 0 0, .int .i64 0, .int .i64 0]) := by kernel_rfl
theorem fl_28_0 : flI Try.prog 28 0 = some 0 := by kernel_rfl
theorem fl_28_1 : flI Try.prog 28 1 = some 1 := by kernel_rfl
theorem fl_28_2 : flI Try.prog 28 2 = some 2 := by kernel_rfl
theorem fl_28_3 : flI Try.prog 28 3 = some 3 := by kernel_rfl
theorem ti_31 : tyI Try.prog 31 = some (true, 3, 24, [.int .i64 0, .int .i64 0, .int .i64 0]) := by kernel_rfl
theorem fl_31_0 : flI Try.prog 31 0 = some 0 := by kernel_rfl
theorem sl_46 : slI Try.prog 46 = some 24 := by kernel_rfl
theorem ti_64 : tyI Try.prog 64 = some (false, 1, 24, [.slice none 0 0]) := by kernel_rfl
theorem sl_64 : slI Try.prog 64 = some 73 := by kernel_rfl
theorem sl_66 : slI Try.prog 66 = some 4 := by kernel_rfl
theorem ti_73 : tyI Try.prog 73 = some (true, 4, 32, [.int .i64 0, .int .i64 0, .int .i64 0, .int .i64 0]) := by kernel_rfl
theorem fl_73_0 : flI Try.prog 73 0 = some 0 := by kernel_rfl
theorem fl_73_1 : flI Try.prog 73 1 = some 1 := by kernel_rfl
theorem fl_73_2 : flI Try.prog 73 2 = some 2 := by kernel_rfl
theorem fl_73_3 : flI Try.prog 73 3 = some 3 := by kernel_rfl
theorem sl_126 : slI Try.prog 126 = some 130 := by kernel_rfl
theorem ti_130 : tyI Try.prog 130 = some (false, 1, 8, [.map none]) := by kernel_rfl
theorem ti_150 : tyI Try.prog 150 = some (false, 1, 8, [.pointer none]) := by kernel_rfl
theorem sl_151 : slI Try.prog 151 = some 150 := by kernel_rfl
theorem bd_18 : bodyI Try.prog 18 = true := by kernel_rfl
theorem bd_19 : bodyI Try.prog 19 = true := by kernel_rfl
theorem bd_20 : bodyI Try.prog 20 = true := by kernel_rfl
theorem bd_27 : bodyI Try.prog 27 = true := by kernel_rfl
theorem bd_29 : bodyI Try.prog 29 = true := by kernel_rfl
theorem bd_41 : bodyI Try.prog 41 = true := by kernel_rfl
theorem bd_45 : bodyI Try.prog 45 = true := by kernel_rfl
theorem bd_46 : bodyI Try.prog 46 = true := by kernel_rfl
theorem bd_51 : bodyI Try.prog 51 = true := by kernel_rfl
theorem bd_54 : bodyI Try.prog 54 = true := by kernel_rfl
theorem bd_55 : bodyI Try.prog 55 = true := by kernel_rfl
theorem bd_58 : bodyI Try.prog 58 = true := by kernel_rfl
theorem bd_68 : bodyI Try.prog 68 = true := by kernel_rfl
theorem bd_80 : bodyI Try.prog 80 = true := by kernel_rfl
theorem bd_81 : bodyI Try.prog 81 = true := by kernel_rfl
theorem bd_84 : bodyI Try.prog 84 = true := by kernel_rfl
theorem bd_85 : bodyI Try.prog 85 = true := by kernel_rfl
theorem bd_86 : bodyI Try.prog 86 = true := by kernel_rfl
theorem bd_87 : bodyI Try.prog 87 = true := by kernel_rfl
theorem bd_88 : bodyI Try.prog 88 = true := by kernel_rfl
theorem bd_89 : bodyI Try.prog 89 = true := by kernel_rfl
theorem bd_110 : bodyI Try.prog 110 = true := by kernel_rfl
theorem bd_111 : bodyI Try.prog 111 = true := by kernel_rfl
theorem bd_112 : bodyI Try.prog 112 = true := by kernel_rfl
theorem bd_113 : bodyI Try.prog 113 = true := by kernel_rfl
theorem bd_114 : bodyI Try.prog 114 = true := by kernel_rfl
theorem bd_115 : bodyI Try.prog 115 = true := by kernel_rfl
theorem bd_119 : bodyI Try.prog 119 = true := by kernel_rfl
theorem bd_121 : bodyI Try.prog 121 = true := by kernel_rfl
/-- How long rows are. -/
theorem lens9 : (∀ {α : Type} (l m : List α), (l ++ m).length = l.length + m.length) ∧ (∀ {α : Type} (a : α) (l : List α), (a :: l).length = l.length + 1) ∧ (∀ {α : Type}, ([] : List α).length = 0) ∧ (∀ {α : Type} (l : List α) (i : Nat) (a : α), (l.set i a).length = l.length) ∧ (∀ {α : Type} (n : Nat) (a : α), (List.replicate n a).length = n) ∧ (∀ {α β : Type} (f : α → β) (l : List α), (l.map f).length = l.length) ∧ (∀ n : Nat, (List.range n).length = n) :=
  ⟨fun l m => List.length_append, fun a l => List.length_cons, List.length_nil, fun l i a => List.length_set, fun n a => List.length_replicate, fun f l => List.length_map f, fun n => List.length_range⟩

end Go.Proofs.Ytanhbpofhebbaaa
