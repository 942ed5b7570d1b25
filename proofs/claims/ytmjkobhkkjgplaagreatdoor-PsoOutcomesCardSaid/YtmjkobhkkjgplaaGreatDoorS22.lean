/- Rows of maps as resources; the maps' clone. It imports nothing of the dump. -/
import Derived.Test.YtmjkobhkkjgplaaGreatDoorS20
import Derived.Laws.Externs
namespace Go.Proofs.YtmjkobhkkjgplaaGreatDoor
open Go.RowKit
set_option linter.unusedSimpArgs false
set_option linter.unusedVariables false
structure MP where
 p:Option Nat
 l:List (Int×Int)
instance : Inhabited MP:=⟨⟨none, []⟩⟩
section
variable {P:Program} {o:Oper} {N:Nat} {K:Nat→Prop} {W w:World} {a:Act} {F:List (Nat×Value)} {L:List Asn} {T kT eT E:TypeId} {v:Value} {M:List MP} {l:List (Int×Int)} {p:Option Nat} {g:Nat}
end
end Go.Proofs.YtmjkobhkkjgplaaGreatDoor
