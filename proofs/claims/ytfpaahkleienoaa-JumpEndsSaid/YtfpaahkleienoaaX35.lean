/-
  Contracts of functions of this program and of the references, each walked once.
-/
import Derived.Test.YtfpaahkleienoaaX33
namespace Go.Proofs.Ytfpaahkleienoaa
open Go.RowKit
set_option linter.unusedSimpArgs false
set_option linter.unusedVariables false


theorem fit114 {p : Pg} {size : Int} {x : Ins} {k : Nat} (h : okNumG p size x k = true) (hk : kAt (kindsB x.op) k = 114) : 0 ≤ x.num k ∧ x.num k < p.regs := by
  unfold okNumG at h
  unfold kAt at hk
  split at h
  · rename_i hlt
    rw [dif_pos hlt] at hk
    rw [hk] at h
    unfold fitsG at h
    simp only [Int.reduceEq, if_false, if_true, Bool.and_eq_true, decide_eq_true_eq] at h
    exact h
  · rename_i hlt
    rw [dif_neg hlt] at hk
    cases hk
end Go.Proofs.Ytfpaahkleienoaa
