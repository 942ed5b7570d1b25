/-
  Contracts of functions of this program and of the references, each walked once.
-/
import Derived.Test.YtfpaahkleienoaaX0
import Derived.Test.YtfpaahkleienoaaX2
import Derived.Test.YtfpaahkleienoaaS7
namespace Go.Proofs.Ytfpaahkleienoaa
open Go.RowKit
set_option linter.unusedSimpArgs false
set_option linter.unusedVariables false


theorem and_t' {p : Prop} [Decidable p] {b c : Bool} (h : p) (e : b = c) : b = (decide p && c) := by rw [decide_eq_true h, e]; rfl
theorem and_f' {p : Prop} [Decidable p] {c : Bool} (h : ¬ p) : false = (decide p && c) := by rw [decide_eq_false h]; rfl
end Go.Proofs.Ytfpaahkleienoaa
