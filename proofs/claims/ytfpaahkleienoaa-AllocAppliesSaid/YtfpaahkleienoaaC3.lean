/-
  The map of the orders' shapes as a resource; looking an order up in it.
-/
import Derived.Test.YtfpaahkleienoaaC1
import Derived.Test.YtfpaahkleienoaaS14
namespace Go.Proofs.Ytfpaahkleienoaa
open Go.RowKit
set_option linter.unusedSimpArgs false
set_option linter.unusedVariables false

def Asn.shp (g : Nat) : Asn where
  fp b := b = g
  rd _ := False
  ok w := MapI w g shapesL
  keep w w' h hb := h.of_block (hb g (.inl rfl))
  lt w h b hb := by rcases hb with rfl | hb; exact h.lt; exact hb.elim
theorem shapes_c (W : World) : Rets Try.prog 92 [] W (fun v w' => ∃ g : Nat, v = .map (some g) ∧ Sh0 W w' [.shp g]) :=
  Calls.mono (shapes_any W) fun e w' ⟨g, hg, he, hM, hb⟩ => ⟨_, he, g, rfl, Chg.below hb, fun A hA => (by rw [List.mem_singleton] at hA; subst hA; exact hM), fun A hA b hb => (by rw [List.mem_singleton] at hA; subst hA; exact .inr (by rw [show b = g from hb]; exact hg)), fun A hA b hb hr => (by rw [List.mem_singleton] at hA; subst hA; exact hr), List.pairwise_singleton _ _⟩
section
variable {o : Oper} {N : Nat} {K : Nat → Prop} {W w : World} {a : Act} {F : List (Nat × Value)} {L : List Asn}
theorem r_lookShp {x y : Operand} {g i : Nat} {op : Int} (ho : o.op = .lookup 159 x y false) (hx : ev F x = some (.map (some g))) (hy : ev F y = some (.int .i64 op)) (hi : L[i]? = some (.shp g)) : Rn Try.prog o N K W F L (.agg #[.string (nameB op), .string (kindsB op)]) := fun a w h => by
  have e1 := shapes_lookup1 w g op (h.sh.ok _ (List.mem_of_getElem? hi))
  unfold execOp
  simp only [ho, h.fr.ev hx, h.fr.ev hy, Sem.run_bind, e1, Result.andThen_ok, Sem.run_pure]
theorem r_fieldK {x : Operand} {s t : ByteArray} (ho : o.op = .field 157 x 1) (hx : ev F x = some (.agg #[.string s, .string t])) : Rn Try.prog o N K W F L (.string t) := fun a w h => by
  have hfd : (Instr.field 157 (.agg #[.string s, .string t]) 1).run Try.prog w = .ok (.string t) w := by kernel_rfl
  unfold execOp
  simp only [ho, h.fr.ev hx, Sem.run_bind, hfd, Result.andThen_ok, Sem.run_pure]
end
end Go.Proofs.Ytfpaahkleienoaa
