/-
  Contracts of functions of this program and of the references, each walked once.
-/
import Derived.Test.YtanhbpofhebbaaaX4
namespace Go.Proofs.Ytanhbpofhebbaaa
open Go.RowKit
set_option linter.unusedSimpArgs false
set_option linter.unusedVariables false


def Asn.tt : Asn := ⟨fun _ => False, fun _ => False, fun _ => True, fun _ _ _ _ => trivial, fun _ _ _ h => by rcases h with h | h <;> exact h.elim⟩
theorem eq_toL (code ou : List Ins) (hl : ou.length = code.length) (h : ∀ j, j < code.length → nth ou j = straightIns code (nth code j)) : ou = toL code := by
  apply ext_nth
  · simpa [toL] using hl
  · intro i hi
    rw [h i (by omega)]
    exact (nth_map' _ _ _ (by omega)).symm

end Go.Proofs.Ytanhbpofhebbaaa
