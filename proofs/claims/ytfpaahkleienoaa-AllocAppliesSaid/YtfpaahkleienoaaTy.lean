/- The types of this program, as the readers want them. -/
import Derived.Test.YtfpaahkleienoaaRows
import Derived.Test.YtfpaahkleienoaaRead
namespace Go.Proofs.Ytfpaahkleienoaa
open Go.ChangeShapes Go.WideShapes Go.ChangeAt Go.RowKit
set_option linter.unusedSimpArgs false
set_option linter.unusedVariables false

theorem own : ownKnob Try.prog.godebug = none := by kernel_rfl
theorem laidOut : laidOutB Try.prog = true := by kernel_rfl
theorem ty_int : Rd.ty Int Try.prog 3 := Try.underlying3
theorem ty_ins : Rd.ty Ins Try.prog 32 := by
  refine ⟨_, Try.underlying32, ⟨rfl, fun j f hf => ?_⟩, by kernel_rfl⟩
  rcases j with _ | _ | _ | _ | j <;> simp at hf <;> subst hf <;> exact ⟨rfl, Try.underlying3, by kernel_rfl⟩
theorem ty_ints : Rd.ty (Sl Int) Try.prog 23 := ⟨_, Try.underlying23, by kernel_rfl, of_decide_eq_true (by kernel_rfl), by decide, ty_int⟩
theorem ty_code : Rd.ty (Sl Ins) Try.prog 33 := ⟨_, Try.underlying33, by kernel_rfl, of_decide_eq_true (by kernel_rfl), by decide, ty_ins⟩
theorem ty_codes : Rd.ty (Sl (Sl Ins)) Try.prog 22 := ⟨_, Try.underlying22, by kernel_rfl, of_decide_eq_true (by kernel_rfl), by decide, ty_code⟩
theorem ty_pr : ∃ fs, Try.prog.underlying 25 = some (.struct fs) ∧ prFields Try.prog fs :=
  ⟨_, Try.underlying25, _, _, _, _, rfl, ⟨rfl, by kernel_rfl, ty_codes⟩, ⟨rfl, by kernel_rfl, ty_ints⟩, ⟨rfl, by kernel_rfl, ty_int⟩, ⟨rfl, by kernel_rfl, ty_int⟩⟩
end Go.Proofs.Ytfpaahkleienoaa
