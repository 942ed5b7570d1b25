/-
  Facts on the types and functions of this program, by reckoning.
-/
import Derived.Test.YtfpaahkleienoaaRows
import Derived.Test.YtfpaahkleienoaaS6
namespace Go.Proofs.Ytfpaahkleienoaa
open Go.RowKit
set_option linter.unusedSimpArgs false
set_option linter.unusedVariables false
theorem ti_3 : tyI Try.prog 3 = some (false, 1, 8, [.int .i64 0]) := by kernel_rfl
theorem ti_4 : tyI Try.prog 4 = some (false, 1, 1, [.bool false]) := by kernel_rfl
theorem ti_22 : tyI Try.prog 22 = some (false, 1, 24, [.slice none 0 0]) := by kernel_rfl
theorem sl_22 : slI Try.prog 22 = some 33 := by kernel_rfl
theorem ti_23 : tyI Try.prog 23 = some (false, 1, 24, [.slice none 0 0]) := by kernel_rfl
theorem sl_23 : slI Try.prog 23 = some 3 := by kernel_rfl
theorem ti_25 : tyI Try.prog 25 = some (true, 4, 64, [.slice none 0 0, .slice none 0 0, .int .i64 0, .int .i64 0]) := by kernel_rfl
theorem fl_25_0 : flI Try.prog 25 0 = some 0 := by kernel_rfl
theorem fl_25_1 : flI Try.prog 25 1 = some 1 := by kernel_rfl
theorem fl_25_2 : flI Try.prog 25 2 = some 2 := by kernel_rfl
theorem fl_25_3 : flI Try.prog 25 3 = some 3 := by kernel_rfl
theorem ti_26 : tyI Try.prog 26 = some (false, 1, 8, [.int .i64 0]) := by kernel_rfl
theorem ti_28 : tyI Try.prog 28 = some (true, 3, 24, [.int .i64 0, .int .i64 0, .int .i64 0]) := by kernel_rfl
theorem fl_28_0 : flI Try.prog 28 0 = some 0 := by kernel_rfl
theorem ti_32 : tyI Try.prog 32 = some (true, 4, 32, [.int .i64 0, .int .i64 0, .int .i64 0, .int .i64 0]) := by kernel_rfl
theorem fl_32_0 : flI Try.prog 32 0 = some 0 := by kernel_rfl
theorem fl_32_1 : flI Try.prog 32 1 = some 1 := by kernel_rfl
theorem fl_32_2 : flI Try.prog 32 2 = some 2 := by kernel_rfl
theorem fl_32_3 : flI Try.prog 32 3 = some 3 := by kernel_rfl
theorem ti_33 : tyI Try.prog 33 = some (false, 1, 24, [.slice none 0 0]) := by kernel_rfl
theorem sl_33 : slI Try.prog 33 = some 32 := by kernel_rfl
theorem ti_49 : tyI Try.prog 49 = some (true, 4, 64, [.slice none 0 0, .int .i64 0, .slice none 0 0, .int .i64 0]) := by kernel_rfl
theorem fl_49_0 : flI Try.prog 49 0 = some 0 := by kernel_rfl
theorem fl_49_1 : flI Try.prog 49 1 = some 1 := by kernel_rfl
theorem fl_49_2 : flI Try.prog 49 2 = some 2 := by kernel_rfl
theorem ti_116 : tyI Try.prog 116 = some (false, 1, 8, [.pointer none]) := by kernel_rfl
theorem ti_192 : tyI Try.prog 192 = some (false, 1, 8, [.pointer none]) := by kernel_rfl
theorem ti_194 : tyI Try.prog 194 = some (false, 1, 8, [.pointer none]) := by kernel_rfl
theorem ti_195 : tyI Try.prog 195 = some (false, 1, 24, [.slice none 0 0]) := by kernel_rfl
theorem sl_195 : slI Try.prog 195 = some 234 := by kernel_rfl
theorem fl_197_0 : flI Try.prog 197 0 = some 0 := by kernel_rfl
theorem fl_197_1 : flI Try.prog 197 1 = some 1 := by kernel_rfl
theorem fl_197_2 : flI Try.prog 197 2 = some 2 := by kernel_rfl
theorem fl_197_3 : flI Try.prog 197 3 = some 3 := by kernel_rfl
theorem fl_197_4 : flI Try.prog 197 4 = some 4 := by kernel_rfl
theorem sl_199 : slI Try.prog 199 = some 203 := by kernel_rfl
theorem ti_203 : tyI Try.prog 203 = some (true, 2, 16, [.int .i64 0, .int .i64 0]) := by kernel_rfl
theorem fl_203_0 : flI Try.prog 203 0 = some 0 := by kernel_rfl
theorem fl_203_1 : flI Try.prog 203 1 = some 1 := by kernel_rfl
theorem fl_205_0 : flI Try.prog 205 0 = some 0 := by kernel_rfl
theorem fl_205_1 : flI Try.prog 205 1 = some 1 := by kernel_rfl
theorem ti_212 : tyI Try.prog 212 = some (false, 1, 24, [.slice none 0 0]) := by kernel_rfl
theorem sl_212 : slI Try.prog 212 = some 268 := by kernel_rfl
theorem fl_214_0 : flI Try.prog 214 0 = some 0 := by kernel_rfl
theorem fl_214_1 : flI Try.prog 214 1 = some 1 := by kernel_rfl
theorem ti_234 : tyI Try.prog 234 = some (true, 2, 32, [.int .i64 0, .slice none 0 0]) := by kernel_rfl
theorem fl_234_0 : flI Try.prog 234 0 = some 0 := by kernel_rfl
theorem fl_234_1 : flI Try.prog 234 1 = some 1 := by kernel_rfl
theorem ti_267 : tyI Try.prog 267 = some (true, 3, 24, [.bool false, .int .i64 0, .int .i64 0]) := by kernel_rfl
theorem fl_267_0 : flI Try.prog 267 0 = some 0 := by kernel_rfl
theorem fl_267_1 : flI Try.prog 267 1 = some 1 := by kernel_rfl
theorem fl_267_2 : flI Try.prog 267 2 = some 2 := by kernel_rfl
theorem ti_268 : tyI Try.prog 268 = some (false, 1, 24, [.slice none 0 0]) := by kernel_rfl
theorem sl_268 : slI Try.prog 268 = some 267 := by kernel_rfl
theorem bd_16 : bodyI Try.prog 16 = true := by kernel_rfl
theorem bd_31 : bodyI Try.prog 31 = true := by kernel_rfl
theorem bd_35 : bodyI Try.prog 35 = true := by kernel_rfl
theorem bd_36 : bodyI Try.prog 36 = true := by kernel_rfl
theorem bd_37 : bodyI Try.prog 37 = true := by kernel_rfl
theorem bd_46 : bodyI Try.prog 46 = true := by kernel_rfl
theorem bd_47 : bodyI Try.prog 47 = true := by kernel_rfl
theorem bd_75 : bodyI Try.prog 75 = true := by kernel_rfl
theorem bd_76 : bodyI Try.prog 76 = true := by kernel_rfl
theorem bd_81 : bodyI Try.prog 81 = true := by kernel_rfl
theorem bd_84 : bodyI Try.prog 84 = true := by kernel_rfl
theorem bd_119 : bodyI Try.prog 119 = true := by kernel_rfl
theorem bd_120 : bodyI Try.prog 120 = true := by kernel_rfl
theorem bd_121 : bodyI Try.prog 121 = true := by kernel_rfl
theorem bd_122 : bodyI Try.prog 122 = true := by kernel_rfl
theorem bd_123 : bodyI Try.prog 123 = true := by kernel_rfl
theorem bd_124 : bodyI Try.prog 124 = true := by kernel_rfl
theorem bd_134 : bodyI Try.prog 134 = true := by kernel_rfl
theorem bd_150 : bodyI Try.prog 150 = true := by kernel_rfl
theorem bd_151 : bodyI Try.prog 151 = true := by kernel_rfl
theorem bd_152 : bodyI Try.prog 152 = true := by kernel_rfl
theorem bd_153 : bodyI Try.prog 153 = true := by kernel_rfl
theorem bd_155 : bodyI Try.prog 155 = true := by kernel_rfl
theorem bd_161 : bodyI Try.prog 161 = true := by kernel_rfl
theorem bd_179 : bodyI Try.prog 179 = true := by kernel_rfl
theorem bd_181 : bodyI Try.prog 181 = true := by kernel_rfl
theorem bd_182 : bodyI Try.prog 182 = true := by kernel_rfl
theorem bd_183 : bodyI Try.prog 183 = true := by kernel_rfl
theorem bd_184 : bodyI Try.prog 184 = true := by kernel_rfl
theorem bd_185 : bodyI Try.prog 185 = true := by kernel_rfl
theorem bd_186 : bodyI Try.prog 186 = true := by kernel_rfl
theorem bd_187 : bodyI Try.prog 187 = true := by kernel_rfl
theorem bd_188 : bodyI Try.prog 188 = true := by kernel_rfl
theorem bd_189 : bodyI Try.prog 189 = true := by kernel_rfl
theorem bd_190 : bodyI Try.prog 190 = true := by kernel_rfl
theorem bd_191 : bodyI Try.prog 191 = true := by kernel_rfl
theorem bd_192 : bodyI Try.prog 192 = true := by kernel_rfl
theorem bd_193 : bodyI Try.prog 193 = true := by kernel_rfl
theorem bd_194 : bodyI Try.prog 194 = true := by kernel_rfl
theorem bd_195 : bodyI Try.prog 195 = true := by kernel_rfl
theorem bd_196 : bodyI Try.prog 196 = true := by kernel_rfl
/-- How long rows are. -/
theorem lens9 : (∀ {α : Type} (l m : List α), (l ++ m).length = l.length + m.length) ∧ (∀ {α : Type} (a : α) (l : List α), (a :: l).length = l.length + 1) ∧ (∀ {α : Type}, ([] : List α).length = 0) ∧ (∀ {α : Type} (l : List α) (i : Nat) (a : α), (l.set i a).length = l.length) ∧ (∀ {α : Type} (n : Nat) (a : α), (List.replicate n a).length = n) ∧ (∀ {α β : Type} (f : α → β) (l : List α), (l.map f).length = l.length) ∧ (∀ n : Nat, (List.range n).length = n) :=
  ⟨fun l m => List.length_append, fun a l => List.length_cons, List.length_nil, fun l i a => List.length_set, fun n a => List.length_replicate, fun f l => List.length_map f, fun n => List.length_range⟩

end Go.Proofs.Ytfpaahkleienoaa
