/-
  Facts on the types and functions of this program, by reckoning.
-/
import Derived.Test.YtfpaahkleienoaaRows
import Derived.Test.YtfpaahkleienoaaS6
namespace Go.Proofs.Ytfpaahkleienoaa
open Go.RowKit
set_option linter.unusedSimpArgs false
set_option linter.unusedVariables false
theorem ti_3 : tyI Try.prog 3 = some (false, 1, 8, [.int .i64 0]) := by kernel_rfl
theorem ti_22 : tyI Try.prog 22 = some (false, 1, 24, [.slice none 0 0]) := by kernel_rfl
theorem sl_22 : slI Try.prog 22 = some 33 := by kernel_rfl
theorem ti_23 : tyI Try.prog 23 = some (false, 1, 24, [.slice none 0 0]) := by kernel_rfl
theorem sl_23 : slI Try.prog 23 = some 3 := by kernel_rfl
theorem ti_25 : tyI Try.prog 25 = some (true, 4, 64, [.slice none 0 0, .slice none 0 0, .int .i64 0, .int .i64 0]) := by kernel_rfl
theorem fl_25_0 : flI Try.prog 25 0 = some 0 := by kernel_rfl
theorem fl_25_1 : flI Try.prog 25 1 = some 1 := by kernel_rfl
theorem ti_26 : tyI Try.prog 26 = some (false, 1, 8, [.int .i64 0]) := by kernel_rfl
theorem ti_28 : tyI Try.prog 28 = some (true, 3, 24, [.int .i64 0, .int .i64 0, .int .i64 0]) := by kernel_rfl
theorem fl_28_0 : flI Try.prog 28 0 = some 0 := by kernel_rfl
theorem ti_32 : tyI Try.prog 32 = some (true, 4, 32, [.int .i64 0, .int .i64 0, .int .i64 0, .int .i64 0]) := by kernel_rfl
theorem fl_32_0 : flI Try.prog 32 0 = some 0 := by kernel_rfl
theorem fl_32_1 : flI Try.prog 32 1 = some 1 := by kernel_rfl
theorem fl_32_2 : flI Try.prog 32 2 = some 2 := by kernel_rfl
theorem fl_32_3 : flI Try.prog 32 3 = some 3 := by kernel_rfl
theorem ti_33 : tyI Try.prog 33 = some (false, 1, 24, [.slice none 0 0]) := by kernel_rfl
theorem sl_33 : slI Try.prog 33 = some 32 := by kernel_rfl
theorem sl_77 : slI Try.prog 77 = some 81 := by kernel_rfl
theorem ti_81 : tyI Try.prog 81 = some (false, 1, 8, [.map none]) := by kernel_rfl
theorem ti_171 : tyI Try.prog 171 = some (false, 1, 8, [.pointer none]) := by kernel_rfl
theorem sl_172 : slI Try.prog 172 = some 171 := by kernel_rfl
theorem bd_15 : bodyI Try.prog 15 = true := by kernel_rfl
theorem bd_16 : bodyI Try.prog 16 = true := by kernel_rfl
theorem bd_17 : bodyI Try.prog 17 = true := by kernel_rfl
theorem bd_46 : bodyI Try.prog 46 = true := by kernel_rfl
theorem bd_47 : bodyI Try.prog 47 = true := by kernel_rfl
theorem bd_48 : bodyI Try.prog 48 = true := by kernel_rfl
theorem bd_49 : bodyI Try.prog 49 = true := by kernel_rfl
theorem bd_50 : bodyI Try.prog 50 = true := by kernel_rfl
theorem bd_51 : bodyI Try.prog 51 = true := by kernel_rfl
theorem bd_52 : bodyI Try.prog 52 = true := by kernel_rfl
theorem bd_53 : bodyI Try.prog 53 = true := by kernel_rfl
theorem bd_92 : bodyI Try.prog 92 = true := by kernel_rfl
theorem bd_95 : bodyI Try.prog 95 = true := by kernel_rfl
theorem bd_96 : bodyI Try.prog 96 = true := by kernel_rfl
theorem bd_97 : bodyI Try.prog 97 = true := by kernel_rfl
theorem bd_98 : bodyI Try.prog 98 = true := by kernel_rfl
theorem bd_99 : bodyI Try.prog 99 = true := by kernel_rfl
theorem bd_100 : bodyI Try.prog 100 = true := by kernel_rfl
theorem bd_101 : bodyI Try.prog 101 = true := by kernel_rfl
theorem bd_139 : bodyI Try.prog 139 = true := by kernel_rfl
theorem bd_159 : bodyI Try.prog 159 = true := by kernel_rfl
/-- How long rows are. -/
theorem lens9 : (∀ {α : Type} (l m : List α), (l ++ m).length = l.length + m.length) ∧ (∀ {α : Type} (a : α) (l : List α), (a :: l).length = l.length + 1) ∧ (∀ {α : Type}, ([] : List α).length = 0) ∧ (∀ {α : Type} (l : List α) (i : Nat) (a : α), (l.set i a).length = l.length) ∧ (∀ {α : Type} (n : Nat) (a : α), (List.replicate n a).length = n) ∧ (∀ {α β : Type} (f : α → β) (l : List α), (l.map f).length = l.length) ∧ (∀ n : Nat, (List.range n).length = n) :=
  ⟨fun l m => List.length_append, fun a l => List.length_cons, List.length_nil, fun l i a => List.length_set, fun n a => List.length_replicate, fun f l => List.length_map f, fun n => List.length_range⟩

end Go.Proofs.Ytfpaahkleienoaa
