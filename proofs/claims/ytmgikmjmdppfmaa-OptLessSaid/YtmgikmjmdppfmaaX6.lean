/-
  Contracts of functions of this program and of the references, each walked once.
-/
import Derived.Test.YtmgikmjmdppfmaaX5
namespace Go.Proofs.Ytmgikmjmdppfmaa
open Go.RowKit
set_option linter.unusedSimpArgs false
set_option linter.unusedVariables false


theorem nil_at {α : Type} [Enc α] (w : World) : (⟨.slice none 0 0, []⟩ : Ls α).At w := (((Sh0.start w).nil (α := α) 0).own 0 rfl)
theorem Sh.nilAt {α : Type} [Enc α] {K : Nat → Prop} {W w : World} {L : List Asn} (h : Sh K W w L) : (⟨.slice none 0 0, []⟩ : Ls α).At w := nil_at w
end Go.Proofs.Ytmgikmjmdppfmaa
