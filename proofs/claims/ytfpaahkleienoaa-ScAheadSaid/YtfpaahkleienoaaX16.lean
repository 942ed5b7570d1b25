/-
  Contracts of functions of this program and of the references, each walked once.
-/
import Derived.Test.YtfpaahkleienoaaX15
import Derived.Test.YtfpaahkleienoaaS8
namespace Go.Proofs.Ytfpaahkleienoaa
open Go.RowKit
set_option linter.unusedSimpArgs false
set_option linter.unusedVariables false


theorem findsL_none {l : List Wt} {words : List Int} {w : Int} (ha : ∀ j, j < l.length → ¬ ((nth l j).lock = false ∧ (nth l j).wh = w)) : findsL l words w = nth words w.toNat := by
  have e : l.reverse.find? (fun x => !x.lock && decide (x.wh = w)) = none := by
    rw [List.find?_eq_none]
    intro x hx
    rw [List.mem_reverse] at hx
    obtain ⟨k, hk, rfl⟩ := List.mem_iff_getElem.1 hx
    have := ha k hk
    rw [show nth l k = l[k] from by simp [nth, hk]] at this
    intro hc
    simp only [Bool.and_eq_true, Bool.not_eq_true', decide_eq_true_eq] at hc
    exact this hc
  unfold findsL
  rw [e]

end Go.Proofs.Ytfpaahkleienoaa
