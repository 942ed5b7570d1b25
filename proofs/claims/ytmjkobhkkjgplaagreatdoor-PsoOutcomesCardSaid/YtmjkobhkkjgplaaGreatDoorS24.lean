/- Methods called through an interface value; a row that is read, cut at its front. It imports nothing of the dump. -/
import Derived.Test.YtmjkobhkkjgplaaGreatDoorS11
import Derived.Test.YtmjkobhkkjgplaaGreatDoorS8
namespace Go.Proofs.YtmjkobhkkjgplaaGreatDoor
open Go.RowKit
set_option linter.unusedSimpArgs false
set_option linter.unusedVariables false
section
variable {P:Program} {o:Oper} {N:Nat} {K:Nat→Prop} {W w:World} {a:Act} {F:List (Nat×Value)} {L:List Asn}
theorem r_mkIfP {T e:TypeId} {x:Operand} {u:Value} (hT:P.underlying T=some (.pointer e)) (ho:o.op= .makeInterface T x) (hx:ev F x=some u):Rn P o N K W F L (.iface T u):=fun a w h=>by
 have key:(Instr.makeInterface T u).run P w= .ok (.iface T u) w:=by simp [Instr.makeInterface,run_underlying hT]
 unfold execOp
 simp only [ho,h.fr.ev hx,Sem.run_bind,key,Result.andThen_ok,Sem.run_pure]
end
end Go.Proofs.YtmjkobhkkjgplaaGreatDoor
