/-
  States of the machine as resources: each thread's rows; a call's state opened at a thread. It imports nothing of the dump.
-/
import Derived.Test.YtmgikmjmdppfmaaS8
namespace Go.Proofs.Ytmgikmjmdppfmaa
open Go.RowKit
set_option linter.unusedSimpArgs false
set_option linter.unusedVariables false

section
variable {P : Program} {N : Nat} {K : Nat → Prop} {W w : World} {a : Act} {F F' : List (Nat × Value)} {L L' : List Asn} {o : Oper} {ops : Array Oper} {rest : List Oper} {Q : Exit → Act → World → Prop}
section
variable {α : Type} [Enc α]
end
theorem Sh.perm (h : Sh K W w L) (hp : L.Perm L') : Sh K W w L' :=
  ⟨h.chg, fun A hA => h.ok A (hp.mem_iff.2 hA), fun A hA => h.mine A (hp.mem_iff.2 hA), fun A hA => h.self A (hp.mem_iff.2 hA), (List.Perm.pairwise_iff (fun {x y} hxy => hxy.symm) hp).1 h.apart⟩
end
end Go.Proofs.Ytmgikmjmdppfmaa
