/-
  Contracts of functions of this program and of the references, each walked once.
-/
import Derived.Test.YtfpaahkleienoaaC1
import Derived.Test.YtfpaahkleienoaaS14
import Derived.Test.YtfpaahkleienoaaV1
section
namespace Go.Proofs.Ytfpaahkleienoaa
open Go.RowKit
set_option linter.unusedSimpArgs false
set_option linter.unusedVariables false

def Asn.shp (g : Nat) : Asn where
  fp b := b = g
  rd _ := False
  ok w := MapI w g shapesL
  keep w w' h hb := h.of_block (hb g (.inl rfl))
  lt w h b hb := by rcases hb with rfl | hb; exact h.lt; exact hb.elim
theorem shapes_c (W : World) : Rets Try.prog 92 [] W (fun v w' => ∃ g : Nat, v = .map (some g) ∧ Sh0 W w' [.shp g]) :=
  Calls.mono (shapes_any W) fun e w' ⟨g, hg, he, hM, hb⟩ => ⟨_, he, g, rfl, Chg.below hb, fun A hA => (by rw [List.mem_singleton] at hA; subst hA; exact hM), fun A hA b hb => (by rw [List.mem_singleton] at hA; subst hA; exact .inr (by rw [show b = g from hb]; exact hg)), fun A hA b hb hr => (by rw [List.mem_singleton] at hA; subst hA; exact hr), List.pairwise_singleton _ _⟩
section
variable {o : Oper} {N : Nat} {K : Nat → Prop} {W w : World} {a : Act} {F : List (Nat × Value)} {L : List Asn}
theorem r_lookShp {x y : Operand} {g i : Nat} {op : Int} (ho : o.op = .lookup 159 x y false) (hx : ev F x = some (.map (some g))) (hy : ev F y = some (.int .i64 op)) (hi : L[i]? = some (.shp g)) : Rn Try.prog o N K W F L (.agg #[.string (nameB op), .string (kindsB op)]) := fun a w h => by
  have e1 := shapes_lookup1 w g op (h.sh.ok _ (List.mem_of_getElem? hi))
  unfold execOp
  simp only [ho, h.fr.ev hx, h.fr.ev hy, Sem.run_bind, e1, Result.andThen_ok, Sem.run_pure]
theorem r_fieldK {x : Operand} {s t : ByteArray} (ho : o.op = .field 157 x 1) (hx : ev F x = some (.agg #[.string s, .string t])) : Rn Try.prog o N K W F L (.string t) := fun a w h => by
  have hfd : (Instr.field 157 (.agg #[.string s, .string t]) 1).run Try.prog w = .ok (.string t) w := by kernel_rfl
  unfold execOp
  simp only [ho, h.fr.ev hx, Sem.run_bind, hfd, Result.andThen_ok, Sem.run_pure]
end
end Go.Proofs.Ytfpaahkleienoaa
end
namespace Go.Proofs.Ytfpaahkleienoaa
open Go.RowKit
set_option linter.unusedSimpArgs false
set_option linter.unusedVariables false


def kAt (s : ByteArray) (k : Nat) : Int := if h : k < s.size then ((s[k]'h).toNat : Int) else 0
theorem kAt_at {s : ByteArray} {k : Nat} (h : k < s.size) : kAt s k = ((s[k]'h).toNat : Int) := dif_pos h
theorem kinds_small (op : Int) : (kindsB op).size ≤ 3 ∧ ∀ k (h : k < (kindsB op).size), ((kindsB op)[k]'h).toNat < 128 := by
  by_cases h : 1 ≤ op ∧ op ≤ 18
  · rcases cases18 op h with h | h | h | h | h | h | h | h | h | h | h | h | h | h | h | h | h | h <;> subst h <;> decide +kernel
  · rw [kindsB_none op h]
    exact ⟨by decide +kernel, fun k hk => absurd hk (Nat.not_lt_zero k)⟩
set_option maxRecDepth 100000 in
set_option maxHeartbeats 1000000 in
theorem kinds_c (op : Int) (W : World) :
    Rets Try.prog 101 [.int .i64 op] W (fun v w' => v = .string (kindsB op) ∧ Sh0 W w' []) := by
 refine x_enter (N := 7) Try.func101 rfl Try.ntmps101 (Nat.le_of_ble_eq_true rfl) fun a1 hf1 => ?_
 have h1 : St 7 (fun _ => False) W a1 W [(0, .int .i64 op)] [] := ⟨hf1.sub ⟨rfl, trivial⟩, Sh0.start W⟩
 clear hf1
 refine wp_seq_k fun K2 hK2 => wp_region_lit ?_
 refine wms 1 h1 rfl fun a3 h3 => ?_; clear h1
 refine wpList_nil (hK2 _ _ ?_)
 refine wp_seq_k fun K4 hK4 => wp_region_lit ?_
 refine wl_ex (x_call h3 bd_92 rfl rfl rfl rfl rfl (shapes_c _)) (wanted_none rfl _) ?_
 rintro a5 w5 ⟨_, ⟨g5, rfl, hs5⟩, hf5⟩
 have h5 := (⟨hf5, h3.sh.call hs5 (by intro A hA b hb; first | (simp at hA; done) | (simp at hA; subst hA; first | exact Flat.noRd hb | exact (hb : False).elim) | (simp at hA; rcases hA with rfl | rfl <;> first | exact Flat.noRd hb | exact (hb : False).elim))⟩ : St 7 (fun _ => False) W a5 w5 _ _)
 clear hf5 hs5
 clear h3
 refine wms 1 h5 rfl fun a6 h6 => ?_; clear h5
 refine wv h6 (r_lookShp (i := 0) rfl rfl rfl rfl) rfl rfl fun a7 h7 => ?_; clear h6
 refine wv h7 (r_fieldK rfl rfl) rfl rfl fun a8 h8 => ?_; clear h7
 refine wms 1 h8 rfl fun a9 h9 => ?_; clear h8
 refine wpList_nil (hK4 _ _ ?_)
 refine wp_ret ?_
 try simp only [Exit.then, Exit.inBlock]
 refine x_ret1 (fn := Try.f101) (t := 2) rfl h9 rfl ?_
 exact ⟨rfl, (h9.sh.sel [] (by decide) trivial)⟩

end Go.Proofs.Ytfpaahkleienoaa
