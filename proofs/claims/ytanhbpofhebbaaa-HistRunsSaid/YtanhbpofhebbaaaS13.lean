/-
  Walks over strings: an iterator is a block of the call's own. It imports nothing of the dump.
-/
import Derived.Test.YtanhbpofhebbaaaS12
import Derived.Laws.RangeString
namespace Go.Proofs.Ytanhbpofhebbaaa
open Go.RowKit
set_option linter.unusedSimpArgs false
set_option linter.unusedVariables false

section
variable {P : Program} {o : Oper} {N : Nat} {K : Nat → Prop} {W w : World} {a : Act} {F : List (Nat × Value)} {L : List Asn}
end
end Go.Proofs.Ytanhbpofhebbaaa
