/-
  Arrays of numbers, as data; rows of rows that grow; maps whose keys are arrays of numbers, which hold rows. It imports nothing of the dump.
-/
import Derived.Test.YtmgikmjmdppfmaaS14
import Derived.Test.YtmgikmjmdppfmaaMaps
namespace Go.Proofs.Ytmgikmjmdppfmaa
open Go.RowKit
set_option linter.unusedSimpArgs false
set_option linter.unusedVariables false

section
variable {P : Program} {o : Oper} {N : Nat} {K : Nat → Prop} {W w : World} {a : Act} {F : List (Nat × Value)} {L : List Asn}
theorem Sh.front {i : Nat} {A : Asn} (h : Sh K W w L) (hi : L[i]? = some A) : Sh K W w (A :: L.eraseIdx i) := by
  obtain ⟨hl, he⟩ := List.getElem?_eq_some_iff.1 hi
  have := perm_erase L i hl
  rw [he] at this
  exact h.perm this
section
variable {α : Type} [Enc α] {E IE : TypeId} {v : Value} {M : List (Ls α)}
end
end
end Go.Proofs.Ytmgikmjmdppfmaa
