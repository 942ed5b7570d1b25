/-
  Contracts of functions of this program and of the references, each walked once.
-/
import Derived.Test.YtmgikmjmdppfmaaX4
namespace Go.Proofs.Ytmgikmjmdppfmaa
open Go.RowKit
set_option linter.unusedSimpArgs false
set_option linter.unusedVariables false


def Asn.tt : Asn := ⟨fun _ => False, fun _ => False, fun _ => True, fun _ _ _ _ => trivial, fun _ _ _ h => by rcases h with h | h <;> exact h.elim⟩
end Go.Proofs.Ytmgikmjmdppfmaa
