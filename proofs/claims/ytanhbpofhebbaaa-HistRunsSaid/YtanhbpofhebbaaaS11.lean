/-
  Parts of rows, read as rows. It imports nothing of the dump.
-/
import Derived.Test.YtanhbpofhebbaaaS10
namespace Go.Proofs.Ytanhbpofhebbaaa
open Go.RowKit
set_option linter.unusedSimpArgs false
set_option linter.unusedVariables false

section
variable {α : Type} [Enc α] {s : Ls α} {w : World}
end
section
variable {P : Program} {o : Oper} {N : Nat} {K : Nat → Prop} {W w : World} {a : Act} {F : List (Nat × Value)} {L : List Asn} {α : Type} [Enc α]
end
end Go.Proofs.Ytanhbpofhebbaaa
