/-
  Methods called through an interface value; a row that is read, cut at its front. It imports nothing of the dump.
-/
import Derived.Test.YtfpaahkleienoaaS11
import Derived.Test.YtfpaahkleienoaaS8
namespace Go.Proofs.Ytfpaahkleienoaa
open Go.RowKit
set_option linter.unusedSimpArgs false
set_option linter.unusedVariables false

section
variable {P : Program} {o : Oper} {N : Nat} {K : Nat → Prop} {W w : World} {a : Act} {F : List (Nat × Value)} {L : List Asn}
theorem r_mkIfP {T e : TypeId} {x : Operand} {u : Value} (hT : P.underlying T = some (.pointer e)) (ho : o.op = .makeInterface T x) (hx : ev F x = some u) : Rn P o N K W F L (.iface T u) := fun a w h => by
  have key : (Instr.makeInterface T u).run P w = .ok (.iface T u) w := by simp [Instr.makeInterface, run_underlying hT]
  unfold execOp
  simp only [ho, h.fr.ev hx, Sem.run_bind, key, Result.andThen_ok, Sem.run_pure]
/-- A row that is read is read at a part of it from now on. -/
theorem St.atSub {α : Type} [Enc α] (i : Nat) {s t : Ls α} (h : St N K W a w F L) (hi : L[i]? = some (.at_ s)) (ht : t.At w) (hon : ∀ b, t.on b → s.on b) : St N K W a w F (L.set i (.at_ t)) :=
  ⟨h.fr, h.sh.put hi (Chg.refl _ _) ht (fun b hb => hb.elim) (fun b hb => .inr (.inl (hon b hb))) (fun b hb _ => hb.elim)⟩
theorem St.atDrop {α : Type} [Enc α] (i : Nat) {s : Ls α} (h : St N K W a w F L) (hi : L[i]? = some (.at_ s)) (k : Nat) (hk : k ≤ s.l.length) : St N K W a w F (L.set i (.at_ (⟨vdrop s.v (Enc.sz α) k, s.l.drop k⟩ : Ls α))) :=
  h.atSub i hi (drop_at (h.sh.at i hi) hk) fun b hb => drop_on (h.sh.at i hi) hb
end
end Go.Proofs.Ytfpaahkleienoaa
