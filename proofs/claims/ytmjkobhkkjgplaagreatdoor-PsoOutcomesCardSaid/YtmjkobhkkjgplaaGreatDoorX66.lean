/- The memory in which nothing waits does as the document says; runs of the program in it. -/
import Derived.Test.YtmjkobhkkjgplaaGreatDoorX61
import Derived.Test.YtmjkobhkkjgplaaGreatDoorX64
import Derived.Test.YtmjkobhkkjgplaaGreatDoorX6
import Derived.Test.YtmjkobhkkjgplaaGreatDoorS24
namespace Go.Proofs.YtmjkobhkkjgplaaGreatDoor
open Go.RowKit
set_option linter.unusedSimpArgs false
set_option linter.unusedVariables false
set_option maxRecDepth 100000
set_option maxHeartbeats 20000000
def Asn.emp :Asn:=⟨fun _=>False,fun _=>False,fun _=>True,fun _ _ _ _=>trivial,fun _ _ _ h=>by rcases h with h|h<;>exact h.elim⟩
theorem Sh.emp {K:Nat→Prop} {W w:World} {L:List Asn} (h:Sh K W w L):Sh K W w (Asn.emp::L):=h.push (Chg.refl _ _) trivial (fun b hb=>hb.elim) (fun b hb=>hb.elim) (fun b hb=>hb.elim)
end Go.Proofs.YtmjkobhkkjgplaaGreatDoor
