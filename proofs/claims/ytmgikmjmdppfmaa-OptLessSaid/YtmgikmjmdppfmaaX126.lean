/-
  What is ahead of each order: going on from one.
-/
import Derived.Test.YtmgikmjmdppfmaaX125
import Derived.Test.YtmgikmjmdppfmaaX35
section
namespace Go.Proofs.Ytmgikmjmdppfmaa
open Go.RowKit
set_option linter.unusedSimpArgs false
set_option linter.unusedVariables false

section
variable {code : List Ins} {R t T : Nat} {c : List (KA VV)} {x : Ins} {e : List VV} {A : AF} {C : List (KA MA)} {n : Nat}
theorem out_1 (he : EnvC R c) (h : decide (1 ≤ x.op ∧ x.op ≤ 7) = true) (ha : 0 ≤ x.a) (ha2 : x.a < (R : Int)) : EnvC R (putKv x.a (rkD x R c) t c) ∧ envL R (putKv x.a (rkD x R c) t c) = outE x (envL R c) := by
  have h' := of_decide_eq_true h
  refine ⟨he.put ⟨ha, ha2⟩, ?_⟩
  rw [envL_put ⟨ha, ha2⟩]
  unfold outE rkD
  rw [if_pos h', if_pos h']
theorem out_2 (he : EnvC R c) (h : decide (1 ≤ x.op ∧ x.op ≤ 7) = false) (hw : 0 ≤ wrG x) (hw2 : wrG x < (R : Int)) : EnvC R (putKv (wrG x) ⟨2, 0⟩ t c) ∧ envL R (putKv (wrG x) ⟨2, 0⟩ t c) = outE x (envL R c) := by
  refine ⟨he.put ⟨hw, hw2⟩, ?_⟩
  rw [envL_put ⟨hw, hw2⟩]
  unfold outE
  rw [if_neg (of_decide_eq_false h), if_pos hw]
theorem out_3 (he : EnvC R c) (h : decide (1 ≤ x.op ∧ x.op ≤ 7) = false) (hw : ¬ 0 ≤ wrG x) : EnvC R c ∧ envL R c = outE x (envL R c) := by
  refine ⟨he, ?_⟩
  unfold outE
  rw [if_neg (of_decide_eq_false h), if_neg hw]
theorem nx_le (hj : JumpsOK code) (ht : t < code.length) : ∀ y ∈ nextsL code t, 0 ≤ y ∧ y ≤ (code.length : Int) := by
  intro y hy
  have h1 := hj t ht
  unfold nextsL at hy
  split at hy
  · rename_i h; rw [List.mem_singleton.1 hy]; exact h1.1 h
  · split at hy
    · rename_i h
      rcases List.mem_cons.1 hy with rfl | hy
      · omega
      · rw [List.mem_singleton.1 hy]; exact h1.2 h
    · rw [List.mem_singleton.1 hy]; omega
theorem nxtE_no (h : (nth code t).op ≠ 15) : nxtE code t e = (nextsL code t).map Int.toNat := by unfold nxtE; rw [if_neg h]
theorem nxtE_15 {d : Nat} (h : (nth code t).op = 15) : d ∈ nxtE code t e ↔ (((nth e (nth code t).a.toNat).s = 2 ∨ ((nth e (nth code t).a.toNat).s = 1 ∧ (nth e (nth code t).a.toNat).n ≠ 0)) ∧ d = t + 1) ∨ (((nth e (nth code t).a.toNat).s = 2 ∨ ((nth e (nth code t).a.toNat).s = 1 ∧ (nth e (nth code t).a.toNat).n = 0)) ∧ d = (nth code t).b.toNat) := by
  unfold nxtE
  rw [if_pos h, List.mem_append]
  refine or_congr ?_ ?_
  · split
    · rename_i h2; rw [List.mem_singleton]; exact ⟨fun h3 => ⟨h2, h3⟩, fun h3 => h3.2⟩
    · rename_i h2; exact ⟨fun h3 => (by cases h3), fun h3 => absurd h3.1 h2⟩
  · split
    · rename_i h2; rw [List.mem_singleton]; exact ⟨fun h3 => ⟨h2, h3⟩, fun h3 => h3.2⟩
    · rename_i h2; exact ⟨fun h3 => (by cases h3), fun h3 => absurd h3.1 h2⟩
/-- The next one that is led to. -/
theorem nx_mem (hj : JumpsOK code) (ht : t < code.length) (h : (nth code t).op ≠ 15) {k d : Nat} (hk : k < (nextsL code t).length) (hd : nth (nextsL code t) k = ((d : Nat) : Int)) : d ∈ nxtE code t e ∧ d ≤ code.length ∧ ((nextsL code t).take (k + 1)).map Int.toNat = ((nextsL code t).take k).map Int.toNat ++ [d] := by
  have h1 := nth_mem _ _ hk
  have h2 := nx_le hj ht _ h1
  rw [hd] at h1 h2
  refine ⟨?_, by omega, ?_⟩
  · rw [nxtE_no h]; exact List.mem_map.2 ⟨_, h1, by omega⟩
  · rw [take_succ_nth _ _ hk, List.map_append, hd]; rfl
theorem was_some (hC : WfC R C) (h : absA R C t ≠ none) : wasP (getK ((t : Nat) : Int) C) ≠ none ∧ EnvC R (wasC (getK ((t : Nat) : Int) C)) ∧ absA R C t = some (envL R (wasC (getK ((t : Nat) : Int) C))) := by
  unfold absA at h ⊢
  cases hk : getK ((t : Nat) : Int) C with
  | none => rw [hk] at h; exact absurd rfl h
  | some m => exact ⟨fun h9 => (by cases h9), hC _ _ hk, rfl⟩
/-- How much there is to rise. -/
theorem hA_le (hA' : OkA R n A) : hA R A t ≤ 2 * R + 1 := by
  unfold hA
  split
  · exact Nat.le_refl _
  · rename_i e h
    have := sum_cE 2 (fun r => rankV (nth e r)) R fun r _ => rank_2 ((hA' _ _ h).2.2 r)
    omega
theorem mu_max (hA' : OkA R n A) : ∀ k, muA R A k ≤ k * (2 * R + 1)
  | 0 => Nat.zero_le _
  | k + 1 => by
    have h1 := mu_max hA' k
    have h2 := hA_le (t := k) hA'
    rw [muA, Nat.succ_mul]
    omega
end
end Go.Proofs.Ytmgikmjmdppfmaa
end
namespace Go.Proofs.Ytmgikmjmdppfmaa
open Go.RowKit
set_option linter.unusedSimpArgs false
set_option linter.unusedVariables false
set_option maxRecDepth 100000
set_option maxHeartbeats 16000000


theorem rk_b {code : List Ins} {R t : Nat} (h : OkV code (R : Int)) (ht : t < code.length) : 2 ≤ (nth code t).op ∧ (nth code t).op ≤ 7 → 0 ≤ (nth code t).b ∧ (nth code t).b < (R : Int) := fun h2 =>
  (h t ht).2.2.2 _ (by unfold rdG; (repeat' split) <;> first | (exfalso; omega) | simp)
theorem rk_c {code : List Ins} {R t : Nat} (h : OkV code (R : Int)) (ht : t < code.length) : 3 ≤ (nth code t).op ∧ (nth code t).op ≤ 7 → 0 ≤ (nth code t).c ∧ (nth code t).c < (R : Int) := fun h2 =>
  (h t ht).2.2.2 _ (by unfold rdG; (repeat' split) <;> first | (exfalso; omega) | simp)
theorem rk_a {code : List Ins} {R t : Nat} (h : OkV code (R : Int)) (ht : t < code.length) : (1 ≤ (nth code t).op ∧ (nth code t).op ≤ 7) ∨ (nth code t).op = 15 → 0 ≤ (nth code t).a ∧ (nth code t).a < (R : Int) := fun h2 => by
  rcases h2 with h2 | h2
  · have h3 := (h t ht).2.1 (by omega)
    have h4 := (h t ht).2.2.1.2
    unfold wrG at h4
    rw [if_neg (by omega), if_pos (by omega)] at h4
    exact ⟨h3, h4⟩
  · exact (h t ht).2.2.2 _ (by unfold rdG; (repeat' split) <;> first | (exfalso; omega) | simp)

theorem order_c (K : Nat → Prop) (gl ga R t : Nat) (code : Ls Ins) (C : List (KA MA)) (tC : Nat) (wk : Ls Int) (wn : List Nat) (W : World) (hS : Sh K W W [.blk gl 89 [code.v, .map (some ga), wk.v], .big (ahX (some ga) C tC), .own 3 wk, .at_ code]) (hC : WfC R C) (hW : WkI code.l R (absA R C) (wn ++ [t])) (ht : t < code.l.length) (hov : OkV code.l (R : Int)) (hj : JumpsOK code.l) (hwl : wk.l = nI wn) (hln : wn.length + muA R (absA R C) (code.l.length + 1) ≤ 900000) (hcl : code.l.length ≤ 5000) :
    Rets Try.prog 41 [.pointer (some ⟨gl, 0, none⟩), .int .i64 ((t : Nat) : Int)] W (fun v w' => ∃ (C' : List (KA MA)) (tC' : Nat) (wk' : Ls Int) (wn' : List Nat), v = .tuple #[] ∧ wk'.l = nI wn' ∧ WfC R C' ∧ WkI code.l R (absA R C') wn' ∧ wn'.length + muA R (absA R C') (code.l.length + 1) ≤ wn.length + muA R (absA R C) (code.l.length + 1) ∧ Sh K W w' [.blk gl 89 [code.v, .map (some ga), wk'.v], .big (ahX (some ga) C' tC'), .own 3 wk', .at_ code]) := by
 obtain ⟨hne, hce0, hat⟩ := was_some hC (hW.wk t (List.mem_append.2 (.inr (List.mem_singleton.2 rfl))))
 have hmid := hW.pop ht hat
 have hnl : wk.l.length = wn.length := by rw [hwl]; exact nI_len
 clear hW
 refine gen Try.func41 Try.ntmps41 hS rfl fun a10 h10 => gG h10<|sK fun _ k11 => gNl (aA 3 rfl) fun hl12 => gRn (oM 1 rfl<|onfl 0 fl_89_0 ti_45 rfl rfl<|oM 1 rfl<|oxN sl_45 ti_44 (aA 3 rfl) _ om9 rfl<|olw2 [.int .i64 ((nth code.l t).op), .int .i64 ((nth code.l t).a), .int .i64 ((nth code.l t).b), .int .i64 ((nth code.l t).c)] ti_44 (aA 3 rfl) om9 rfl<|.nl)<|gal ti_44 rfl fun b13 => gsw 0 ti_44 rfl rfl rfl<|nK k11<|sK fun _ k15 => gRn (oM 1 rfl<|onfl 1 fl_89_1 ti_87 rfl rfl<|oM 1 rfl<|oV (r_lookAh0 (i := 2) (k := ((t : Nat) : Int)) (C := C) (tC := tC) mt_87 rfl rfl rfl rfl) rfl<|.nl)<|gC (fun _ _ h_ => xCl h_ bd_58 rfl (cloneA_o (wasP (getK ((t : Nat) : Int) C)) (wasC (getK ((t : Nat) : Int) C)) (wasT (getK ((t : Nat) : Int) C)) _ (ah_ok (h_.sh.ok _ (List.mem_of_getElem? (i := 2) rfl)) ((t : Nat) : Int)) hne)) rfl<|?_; clear h10
 rintro _ _ w16 ⟨g16, rfl, hs16⟩
 refine gWk hs16 rfl<|gU<|gRn (oM 1 rfl<|.nl)<|nK k15<|fun a17 w17 h17 => ?_; clear hs16
 refine x_seq (fun a w => ∃ (ce2 : List (KA VV)) (te2 : Nat), (EnvC R ce2 ∧ envL R ce2 = endV code.l t (envL R (wasC (getK ((t : Nat) : Int) C)))) ∧ St 103 K W a w [(0, .pointer (some ⟨gl, 0, none⟩)), (1, .int .i64 ((t : Nat) : Int)), (4, .pointer (some ⟨b13, 0, none⟩)), (5, .map (some g16))] [.mapA encV (some g16) ce2 te2, .blk b13 44 [.int .i64 ((nth code.l t).op), .int .i64 ((nth code.l t).a), .int .i64 ((nth code.l t).b), .int .i64 ((nth code.l t).c)], .blk gl 89 [code.v, .map (some ga), wk.v], .big (ahX (some ga) C tC), .own 3 wk, .at_ code]) ?_ ?_
 ·refine gG h17<|sK fun _ k18 => gRn (olw 1 ti_44 rfl rfl<|oM 1 rfl<|.nl)<|gP (fun _ _ h_ => xCl h_ bd_42 rfl (reckon_c (nth code.l t) R (some g16) (wasC (getK ((t : Nat) : Int) C)) (wasT (getK ((t : Nat) : Int) C)) _ (h_.sh.ok _ (List.mem_of_getElem? (i := 0) rfl)) hce0 (rk_b hov ht) (rk_c hov ht))) rfl<|gRn (oM 1 rfl<|oxt rfl<|oxt rfl<|.nl)<|gal ti_92 rfl fun b20 => gsw 0 ti_92 rfl rfl rfl<|gRn (oM 1 rfl<|.nl)<|nK k18<|sG (oM 1 rfl<|.nl)<|?_; clear h17
  refine gCb rfl (fun hb23 => ?_) fun hb23 => ?_
  ·have hp23 := of_decide_eq_true hb23
   refine gL<|gRn (oM 1 rfl<|ofB fl_44_1 rfl<|olB 2 ti_3 rfl rfl<|olw 0 ti_92 rfl rfl<|.nl)<|gE (fun _ _ h_ => x_updA (enc := encV) (i := 1) (k := ((nth code.l t).a)) (v := (rkD (nth code.l t) R (wasC (getK ((t : Nat) : Int) C)))) h_ mt_90 rfl rfl rfl rfl rfl rfl rfl) rfl<|nN<|fun a25 w25 h25 => x_join ⟨(putKv ((nth code.l t).a) (rkD (nth code.l t) R (wasC (getK ((t : Nat) : Int) C))) (wasT (getK ((t : Nat) : Int) C)) (wasC (getK ((t : Nat) : Int) C))), (putT ((nth code.l t).a) (wasT (getK ((t : Nat) : Int) C)) (wasC (getK ((t : Nat) : Int) C))), ?_, h25.nrm ⟨rfl, rfl, rfl, rfl, trivial⟩ [1, 2, 3, 4, 5, 6] rfl⟩
   · first | exact out_1 hce0 (by assumption) (rk_a hov ht (.inl (of_decide_eq_true (by assumption)))).1 (rk_a hov ht (.inl (of_decide_eq_true (by assumption)))).2 | exact out_2 hce0 (by assumption) (by omega) (hov t ht).2.2.1.2 | exact out_3 hce0 (by assumption) (by omega)
  have hp23 := of_decide_eq_false hb23
  refine sK fun _ k26 => gRn (olw 2 ti_44 rfl rfl<|.nl)<|gP (fun _ _ h_ => xCl h_ bd_44 rfl (writes_c (nth code.l t) _ (hov t ht).1.1)) rfl<|gRn (oM 1 rfl<|.nl)<|nK k26<|gF [0, 1, 4, 5, 8] rfl<|sG (oM 1 rfl<|ogeI _ _ rfl<|.nl)<|gcd rfl (fun hb29 hp29 => ?_) fun hb29 hp29 => ?_
  ·skip
   refine gL<|gRn (oM 2 rfl<|oV (r_build (cs := [.int .i64 2, .int .i64 0]) rfl rfl (by kernel_rfl)) rfl<|.nl)<|gE (fun _ _ h_ => x_updA (enc := encV) (i := 1) (k := (wrG (nth code.l t))) (v := (⟨2, 0⟩ : VV)) h_ mt_90 rfl rfl rfl rfl rfl rfl rfl) rfl<|nN<|fun a31 w31 h31 => x_join ⟨(putKv (wrG (nth code.l t)) (⟨2, 0⟩ : VV) (wasT (getK ((t : Nat) : Int) C)) (wasC (getK ((t : Nat) : Int) C))), (putT (wrG (nth code.l t)) (wasT (getK ((t : Nat) : Int) C)) (wasC (getK ((t : Nat) : Int) C))), ?_, h31.nrm ⟨rfl, rfl, rfl, rfl, trivial⟩ [1, 2, 3, 4, 5, 6] rfl⟩
   · first | exact out_1 hce0 (by assumption) (rk_a hov ht (.inl (of_decide_eq_true (by assumption)))).1 (rk_a hov ht (.inl (of_decide_eq_true (by assumption)))).2 | exact out_2 hce0 (by assumption) (by omega) (hov t ht).2.2.1.2 | exact out_3 hce0 (by assumption) (by omega)
  refine gS<|fun a32 w32 h32 => x_join ⟨(wasC (getK ((t : Nat) : Int) C)), (wasT (getK ((t : Nat) : Int) C)), ?_, h32.nrm ⟨rfl, rfl, rfl, rfl, trivial⟩ [1, 2, 3, 4, 5, 6] rfl⟩
  · first | exact out_1 hce0 (by assumption) (rk_a hov ht (.inl (of_decide_eq_true (by assumption)))).1 (rk_a hov ht (.inl (of_decide_eq_true (by assumption)))).2 | exact out_2 hce0 (by assumption) (by omega) (hov t ht).2.2.1.2 | exact out_3 hce0 (by assumption) (by omega)
 clear h17
 rintro a33 w33 ⟨ce2, te2, hce, h33⟩
 refine gG h33<|gK fun _ k34 => sG (ofB fl_44_0 rfl<|olB 1 ti_3 rfl rfl<|oneI _ _ rfl<|.nl)<|?_; clear h33
 refine gcd rfl (fun hb36 hp36 => ?_) fun hb36 hp36 => ?_
 ·skip
  refine gK fun _ k37 => sK fun _ k38 => gRn (oM 1 rfl<|onfl 2 fl_89_0 ti_45 rfl rfl<|oM 1 rfl<|.nl)<|gC (fun _ _ h_ => xCl h_ bd_43 rfl (nexts_c code t _ (h_.sh.at 5 rfl) (by omega) (by omega))) rfl<|?_
  rintro _ _ w39 ⟨s39, rfl, hs39⟩
  refine gWk hs39 rfl<|gU<|gNl (aO 0 rfl) fun (hl40 : (nextsL code.l t).length ≤ 140737488355328) => gRn (oln (n := (nextsL code.l t).length) sl_23 (aO 0 rfl) rfl<|oM 1 rfl<|.nl)<|nK k38<|gB<|fun a42 w42 h42 => ?_; clear hs39
  refine x_loop (fun m a w => ∃ (k : Nat) (C2 : List (KA MA)) (tC2 : Nat) (wk2 : Ls Int) (wn2 : List Nat), (k ≤ (nextsL code.l t).length) ∧ (MidI code.l R (absA R C2) wn2 t (envL R (wasC (getK ((t : Nat) : Int) C))) (((nextsL code.l t).take k).map Int.toNat)) ∧ (wk2.l = nI wn2) ∧ (WfC R C2) ∧ (wn2.length + muA R (absA R C2) (code.l.length + 1) ≤ wn.length + muA R (absA R C) (code.l.length + 1)) ∧ St 103 K W a w [(0, .pointer (some ⟨gl, 0, none⟩)), (5, .map (some g16)), (52, s39.v), (53, .int .i64 (((nextsL code.l t).length : Nat) : Int)), (54, .int .i64 ((k : Nat) : Int))] [.own 3 (⟨s39.v, nextsL code.l t⟩ : Ls Int), .mapA encV (some g16) ce2 te2, .blk b13 44 [.int .i64 ((nth code.l t).op), .int .i64 ((nth code.l t).a), .int .i64 ((nth code.l t).b), .int .i64 ((nth code.l t).c)], .blk gl 89 [code.v, .map (some ga), wk2.v], .big (ahX (some ga) C2 tC2), .own 3 wk2, .at_ code] ∧ m = (nextsL code.l t).length - k) ⟨_, 0, C, tC, wk, wn, (by omega), (hmid), (hwl), (hC), (Nat.le_refl _), h42.nf ⟨rfl, rfl, rfl, rfl, rfl, trivial⟩, rfl⟩ ?_
  clear h42
  rintro m41 a41 w41 ⟨k, C2, tC2, wk2, wn2, hk, hmid, hwl, hC, hmu, h41, hm41⟩
  have hmx2 := mu_max hmid.low.ok (code.l.length + 1)
  have hnl2 : wk2.l.length = wn2.length := by rw [hwl]; exact nI_len
  refine gG h41<|sG (oltN _ _ rfl<|.nl)<|gK fun _ k44 => gcd rfl (fun hb45 hp45 => ?_) fun hb45 hp45 => ?_; clear h41
  ·skip
   refine gS<|hK k44<|gK fun _ k46 => gB<|sG (oxN sl_23 ti_3 (aO 0 rfl) _ om9 rfl<|olE (.int .i64 (nth (nextsL code.l t) k)) ti_3 (aO 0 rfl) om9 rfl<|oM 1 rfl<|.nl)<|?_
   have hnn := nx_le hj ht _ (nth_mem _ _ (show k < (nextsL code.l t).length by omega))
   obtain ⟨d, hd⟩ := Int.eq_ofNat_of_zero_le hnn.1
   have hnm3 := nx_mem (e := endV code.l t (envL R (wasC (getK ((t : Nat) : Int) C)))) hj ht (by omega) (by omega) hd
   have hnm := And.intro hnm3.1 hnm3.2.1
   have hnm2 := hnm3.2.2
   intro a49 w49 h49
   have h48 := h49.same (d := 57) (v' := .int .i64 ((d : Nat) : Int)) rfl (by rw [hd])
   clear h49
   have h50 := h48.same (d := 10) (v' := .int .i64 ((d : Nat) : Int)) rfl (by rw [hd])
   clear h48
   refine gG h50<|gL<|gRn (oM 3 rfl<|.nl)<|gO [3, 4, 5, 1, 0, 2, 6] rfl<|fun a56 w56 h56 => ?_; clear h50
   have hp55 := h56.sh.passL (Lp := [_, _, _, _])
   refine wl_ex (x_call h56 bd_40 rfl rfl rfl rfl rfl (lead_c _ gl ga g16 R d code C2 tC2 wk2 wn2 ce2 te2 _ hp55 hC hce.1 hwl (by omega))) (wanted_none rfl _) ?_
   rintro a57 w57 ⟨_, ⟨C57, T57, wq57, rfl, hlw57, hla57, hlC57, hs57⟩, hf57⟩
   have hmid57 : MidI code.l R (absA R C57) (leadF (absA R C2) wn2 d (envL R ce2)).2 t (envL R (wasC (getK ((t : Nat) : Int) C))) ((((nextsL code.l t).take k).map Int.toNat) ++ [d]) := by rw [hla57, hce.2]; exact hmid.lead hnm.1 hnm.2
   have hmu57 : (leadF (absA R C2) wn2 d (envL R ce2)).2.length + muA R (absA R C57) (code.l.length + 1) ≤ wn2.length + muA R (absA R C2) (code.l.length + 1) := by rw [hla57]; exact lead_mu hmid.low.ok (by rw [hce.2]; exact outE_ok hmid.oe) hnm.2
   have h57 : St _ K W a57 w57 _ [_, _, _, _, _, _, _] := ⟨hf57, h56.sh.backI (Lp := [_, _, _, _]) hs57⟩
   clear hf57 hs57
   clear h56
   refine gG h57<|nK k46<|gL<|gRn (oadN _ 1 om9 rfl<|oM 1 rfl<|.nl)<|nN<|?_; clear h57
   have hmidN := hmid57
   have hmuN := hmu57
   intro a58 w58 h58
   refine x_again ⟨_, ?_, (k + 1), C57, T57, wq57, (leadF (absA R C2) wn2 d (envL R ce2)).2, ?_, ?_, ?_, ?_, ?_, h58.nrm ⟨rfl, rfl, rfl, rfl, rfl, trivial⟩ [4, 3, 5, 0, 1, 2, 6] rfl, rfl⟩
   · rw [hm41]; first | omega | (simp only [lens9]; omega)
   · omega
   · rw [hnm2]; exact hmidN
   · assumption
   · assumption
   · exact Nat.le_trans hmuN hmu
  refine gX<|hK k37<|gR<|uT<|fun a59 w59 h59 => x_ret0 (fn := Try.f41) rfl h59 ?_
  exact ⟨C2, tC2, wk2, wn2, rfl, hwl, hC, hmid.fin (fun d hd => by rw [nxtE_no (show (nth code.l t).op ≠ 15 by omega)] at hd; rw [List.take_of_length_le (by omega)]; exact hd), hmu, (h59.sh.sel [3, 4, 5, 6] rfl)⟩
 refine gS<|hK k34<|sK fun _ k60 => gRn (oM 1 rfl<|ofB fl_44_1 rfl<|olB 1 ti_3 rfl rfl<|oV (r_lookA0v (k := ((nth code.l t).a)) (c := ce2) mt_90 rfl rfl rfl (fun w h => (h.ok _ (List.mem_of_getElem? (i := 0) rfl)))) rfl<|.nl)<|gal ti_92 rfl fun b61 => gsw 0 ti_92 rfl rfl rfl<|nK k60<|?_
 have hva : gvD (nth code.l t).a ce2 = (nth (endV code.l t (envL R (wasC (getK ((t : Nat) : Int) C)))) (nth code.l t).a.toNat) := by rw [gv_nth (rk_a hov ht (.inr (by omega))), hce.2]
 intro a63 w63 h63
 refine x_seq (fun a w => ∃ (C2 : List (KA MA)) (tC2 : Nat) (wk2 : Ls Int) (wn2 : List Nat) (ds : List Nat), (MidI code.l R (absA R C2) wn2 t (envL R (wasC (getK ((t : Nat) : Int) C))) ds) ∧ (((nth (endV code.l t (envL R (wasC (getK ((t : Nat) : Int) C)))) (nth code.l t).a.toNat).s = 2 ∨ ((nth (endV code.l t (envL R (wasC (getK ((t : Nat) : Int) C)))) (nth code.l t).a.toNat).s = 1 ∧ (nth (endV code.l t (envL R (wasC (getK ((t : Nat) : Int) C)))) (nth code.l t).a.toNat).n ≠ 0)) → (t + 1) ∈ ds) ∧ (wk2.l = nI wn2) ∧ (WfC R C2) ∧ (wn2.length + muA R (absA R C2) (code.l.length + 1) ≤ wn.length + muA R (absA R C) (code.l.length + 1)) ∧ St 103 K W a w [(0, .pointer (some ⟨gl, 0, none⟩)), (4, .pointer (some ⟨b13, 0, none⟩)), (5, .map (some g16)), (11, .pointer (some ⟨b61, 0, none⟩))] [.blk b61 92 [.int .i64 ((gvD ((nth code.l t).a) ce2).s), .int .i64 ((gvD ((nth code.l t).a) ce2).n)], .mapA encV (some g16) ce2 te2, .blk b13 44 [.int .i64 ((nth code.l t).op), .int .i64 ((nth code.l t).a), .int .i64 ((nth code.l t).b), .int .i64 ((nth code.l t).c)], .blk gl 89 [code.v, .map (some ga), wk2.v], .big (ahX (some ga) C2 tC2), .own 3 wk2, .at_ code]) ?_ ?_
 ·refine gG h63<|sK fun _ k64 => gRn (ofB fl_92_0 rfl<|olB 0 ti_3 rfl rfl<|oeqI _ _ rfl<|oM 1 rfl<|.nl)<|?_; clear h63
  rcases dsp ((gvD ((nth code.l t).a) ce2).s = 2) with ⟨hb65, hp65⟩ | ⟨hb65, hp65⟩
  ·skip
   refine gRn (oKs 4 hb65 rfl rfl<|oK2 rfl<|oK2 rfl<|oK2 rfl<|oK hb65 rfl<|opT hb65 rfl<|.nl)<|nK k64<|gcT rfl rfl<|gL<|gRn (oM 2 rfl<|.nl)<|?_
   have hnm : (t + 1) ∈ nxtE code.l t (endV code.l t (envL R (wasC (getK ((t : Nat) : Int) C)))) ∧ t + 1 ≤ code.l.length := ⟨(nxtE_15 (show (nth code.l t).op = 15 by omega)).2 (.inl ⟨by rw [← hva]; omega, rfl⟩), by omega⟩
   refine gRn (oadN _ 1 om9 rfl<|oM 1 rfl<|.nl)<|gO [3, 4, 5, 1, 0, 2, 6] rfl<|fun a71 w71 h71 => ?_
   have hp70 := h71.sh.passL (Lp := [_, _, _, _])
   refine wl_ex (x_call h71 bd_40 rfl rfl rfl rfl rfl (lead_c _ gl ga g16 R (t + 1) code C tC wk wn ce2 te2 _ hp70 hC hce.1 hwl (by omega))) (wanted_none rfl _) ?_
   rintro a72 w72 ⟨_, ⟨C72, T72, wq72, rfl, hlw72, hla72, hlC72, hs72⟩, hf72⟩
   have hmid72 : MidI code.l R (absA R C72) (leadF (absA R C) wn (t + 1) (envL R ce2)).2 t (envL R (wasC (getK ((t : Nat) : Int) C))) ([] ++ [t + 1]) := by rw [hla72, hce.2]; exact hmid.lead hnm.1 hnm.2
   have hmu72 : (leadF (absA R C) wn (t + 1) (envL R ce2)).2.length + muA R (absA R C72) (code.l.length + 1) ≤ wn.length + muA R (absA R C) (code.l.length + 1) := by rw [hla72]; exact lead_mu hmid.low.ok (by rw [hce.2]; exact outE_ok hmid.oe) hnm.2
   have h72 : St _ K W a72 w72 _ [_, _, _, _, _, _, _] := ⟨hf72, h71.sh.backI (Lp := [_, _, _, _]) hs72⟩
   clear hf72 hs72
   clear h71
   refine gG h72<|nN<|fun a73 w73 h73 => x_join ⟨C72, T72, wq72, (leadF (absA R C) wn (t + 1) (envL R ce2)).2, ([] ++ [t + 1]), ?_, ?_, ?_, ?_, ?_, h73.nrm ⟨rfl, rfl, rfl, rfl, trivial⟩ [4, 3, 5, 0, 1, 2, 6] rfl⟩; clear h72
   · first | assumption | exact hmid
   · first | exact fun _ => List.mem_append.2 (.inr (List.mem_singleton.2 rfl)) | (intro h9; rw [← hva] at h9; exfalso; omega)
   · first | assumption | exact hwl
   · first | assumption | exact hC
   · first | assumption | exact Nat.le_refl _
  refine gRn (oG hb65 (r_fieldB (r := 0) fl_92_0 rfl rfl rfl) rfl<|oG hb65 (r_ldb (i := 0) ti_3 rfl rfl rfl rfl) rfl<|oG hb65 (r_eqlI (p := (gvD ((nth code.l t).a) ce2).s) (q := 1) rfl rfl rfl) rfl<|oG hb65 (r_move rfl rfl) rfl<|.nl)<|?_
  rcases dsp ((gvD ((nth code.l t).a) ce2).s = 1) with ⟨hb74, hp74⟩ | ⟨hb74, hp74⟩
  ·skip
   refine gRn (oG hb74 (r_fieldB (r := 1) fl_92_1 rfl rfl rfl) rfl<|oG hb74 (r_ldb (i := 0) ti_3 rfl rfl rfl rfl) rfl<|oG hb74 (r_neqI (p := (gvD ((nth code.l t).a) ce2).n) (q := 0) rfl rfl rfl) rfl<|oG hb65 (r_pickT rfl rfl hb74 rfl) rfl<|opF hb65 rfl<|.nl)<|nK k64<|gcd rfl (fun hb75 hp75 => ?_) fun hb75 hp75 => ?_
   ·skip
    refine gL<|gRn (oM 2 rfl<|.nl)<|?_
    have hnm : (t + 1) ∈ nxtE code.l t (endV code.l t (envL R (wasC (getK ((t : Nat) : Int) C)))) ∧ t + 1 ≤ code.l.length := ⟨(nxtE_15 (show (nth code.l t).op = 15 by omega)).2 (.inl ⟨by rw [← hva]; omega, rfl⟩), by omega⟩
    refine gRn (oadN _ 1 om9 rfl<|oM 1 rfl<|.nl)<|gO [3, 4, 5, 1, 0, 2, 6] rfl<|fun a81 w81 h81 => ?_
    have hp80 := h81.sh.passL (Lp := [_, _, _, _])
    refine wl_ex (x_call h81 bd_40 rfl rfl rfl rfl rfl (lead_c _ gl ga g16 R (t + 1) code C tC wk wn ce2 te2 _ hp80 hC hce.1 hwl (by omega))) (wanted_none rfl _) ?_
    rintro a82 w82 ⟨_, ⟨C82, T82, wq82, rfl, hlw82, hla82, hlC82, hs82⟩, hf82⟩
    have hmid82 : MidI code.l R (absA R C82) (leadF (absA R C) wn (t + 1) (envL R ce2)).2 t (envL R (wasC (getK ((t : Nat) : Int) C))) ([] ++ [t + 1]) := by rw [hla82, hce.2]; exact hmid.lead hnm.1 hnm.2
    have hmu82 : (leadF (absA R C) wn (t + 1) (envL R ce2)).2.length + muA R (absA R C82) (code.l.length + 1) ≤ wn.length + muA R (absA R C) (code.l.length + 1) := by rw [hla82]; exact lead_mu hmid.low.ok (by rw [hce.2]; exact outE_ok hmid.oe) hnm.2
    have h82 : St _ K W a82 w82 _ [_, _, _, _, _, _, _] := ⟨hf82, h81.sh.backI (Lp := [_, _, _, _]) hs82⟩
    clear hf82 hs82
    clear h81
    refine gG h82<|nN<|fun a83 w83 h83 => x_join ⟨C82, T82, wq82, (leadF (absA R C) wn (t + 1) (envL R ce2)).2, ([] ++ [t + 1]), ?_, ?_, ?_, ?_, ?_, h83.nrm ⟨rfl, rfl, rfl, rfl, trivial⟩ [4, 3, 5, 0, 1, 2, 6] rfl⟩; clear h82
    · first | assumption | exact hmid
    · first | exact fun _ => List.mem_append.2 (.inr (List.mem_singleton.2 rfl)) | (intro h9; rw [← hva] at h9; exfalso; omega)
    · first | assumption | exact hwl
    · first | assumption | exact hC
    · first | assumption | exact Nat.le_refl _
   refine gS<|fun a84 w84 h84 => x_join ⟨C, tC, wk, wn, [], ?_, ?_, ?_, ?_, ?_, h84.nf ⟨rfl, rfl, rfl, rfl, trivial⟩⟩
   · first | assumption | exact hmid
   · first | exact fun _ => List.mem_append.2 (.inr (List.mem_singleton.2 rfl)) | (intro h9; rw [← hva] at h9; exfalso; omega)
   · first | assumption | exact hwl
   · first | assumption | exact hC
   · first | assumption | exact Nat.le_refl _
  refine gRn (oKs 3 hb74 rfl rfl<|oG hb65 (r_pickF rfl rfl hb74 rfl) rfl<|opF hb65 rfl<|.nl)<|nK k64<|gcF rfl rfl<|gS<|fun a85 w85 h85 => x_join ⟨C, tC, wk, wn, [], ?_, ?_, ?_, ?_, ?_, h85.nf ⟨rfl, rfl, rfl, rfl, trivial⟩⟩
  · first | assumption | exact hmid
  · first | exact fun _ => List.mem_append.2 (.inr (List.mem_singleton.2 rfl)) | (intro h9; rw [← hva] at h9; exfalso; omega)
  · first | assumption | exact hwl
  · first | assumption | exact hC
  · first | assumption | exact Nat.le_refl _
 clear h63
 rintro a86 w86 ⟨C2, tC2, wk2, wn2, ds, hmid, hds, hwl, hC, hmu, h86⟩
 refine gG h86<|sK fun _ k87 => gRn (ofB fl_92_0 rfl<|olB 0 ti_3 rfl rfl<|oeqI _ _ rfl<|oM 1 rfl<|.nl)<|?_; clear h86
 rcases dsp ((gvD ((nth code.l t).a) ce2).s = 2) with ⟨hb88, hp88⟩ | ⟨hb88, hp88⟩
 ·skip
  refine gRn (oKs 4 hb88 rfl rfl<|oK2 rfl<|oK2 rfl<|oK2 rfl<|oK hb88 rfl<|opT hb88 rfl<|.nl)<|nK k87<|gcT rfl rfl<|gL<|gRn (oM 1 rfl<|.nl)<|?_
  have hbz := (hj t ht).2 (by omega)
  obtain ⟨db, hdb⟩ := Int.eq_ofNat_of_zero_le hbz.1
  have hnl2 : wk2.l.length = wn2.length := by rw [hwl]; exact nI_len
  have hnm : db ∈ nxtE code.l t (endV code.l t (envL R (wasC (getK ((t : Nat) : Int) C)))) ∧ db ≤ code.l.length := ⟨(nxtE_15 (show (nth code.l t).op = 15 by omega)).2 (.inr ⟨by rw [← hva]; omega, by omega⟩), by omega⟩
  refine gRn (ofB fl_44_2 rfl<|olB 2 ti_3 rfl rfl<|oM 1 rfl<|.nl)<|fun a90 w90 h90 => ?_
  have h89 := h90.same (d := 100) (v' := .int .i64 ((db : Nat) : Int)) rfl (by rw [hdb])
  clear h90
  have h94 := h89.sel (L' := [_, _, _, _, _, _, _]) [3, 4, 5, 1, 0, 2, 6] rfl
  have hp95 := h94.sh.passL (Lp := [_, _, _, _])
  refine wl_ex (x_call h94 bd_40 rfl rfl rfl rfl rfl (lead_c _ gl ga g16 R db code C2 tC2 wk2 wn2 ce2 te2 _ hp95 hC hce.1 hwl (by omega))) (wanted_none rfl _) ?_
  rintro a96 w96 ⟨_, ⟨C96, T96, wq96, rfl, hlw96, hla96, hlC96, hs96⟩, hf96⟩
  have hmid96 : MidI code.l R (absA R C96) (leadF (absA R C2) wn2 db (envL R ce2)).2 t (envL R (wasC (getK ((t : Nat) : Int) C))) (ds ++ [db]) := by rw [hla96, hce.2]; exact hmid.lead hnm.1 hnm.2
  have hmu96 : (leadF (absA R C2) wn2 db (envL R ce2)).2.length + muA R (absA R C96) (code.l.length + 1) ≤ wn2.length + muA R (absA R C2) (code.l.length + 1) := by rw [hla96]; exact lead_mu hmid.low.ok (by rw [hce.2]; exact outE_ok hmid.oe) hnm.2
  have h96 : St _ K W a96 w96 _ [_, _, _, _, _, _, _] := ⟨hf96, h94.sh.backI (Lp := [_, _, _, _]) hs96⟩
  clear hf96 hs96
  clear h94
  refine gG h96<|nN<|fun a97 w97 h97 => ?_; clear h96
  try simp only [Exit.then, Exit.inBlock, if_true]
  refine x_end0 (fn := Try.f41) rfl h97 ?_
  exact ⟨C96, T96, wq96, _, rfl, hlw96, hlC96, hmid96.fin (fun d hd => by rcases (nxtE_15 (show (nth code.l t).op = 15 by omega)).1 hd with ⟨h8, rfl⟩ | ⟨h8, rfl⟩; exact List.mem_append.2 (.inl (hds h8)); exact List.mem_append.2 (.inr (List.mem_singleton.2 (by omega)))), Nat.le_trans hmu96 hmu, (h97.sh.sel [0, 1, 2, 6] rfl)⟩
 refine gRn (oG hb88 (r_fieldB (r := 0) fl_92_0 rfl rfl rfl) rfl<|oG hb88 (r_ldb (i := 0) ti_3 rfl rfl rfl rfl) rfl<|oG hb88 (r_eqlI (p := (gvD ((nth code.l t).a) ce2).s) (q := 1) rfl rfl rfl) rfl<|oG hb88 (r_move rfl rfl) rfl<|.nl)<|?_
 rcases dsp ((gvD ((nth code.l t).a) ce2).s = 1) with ⟨hb98, hp98⟩ | ⟨hb98, hp98⟩
 ·skip
  refine gRn (oG hb98 (r_fieldB (r := 1) fl_92_1 rfl rfl rfl) rfl<|oG hb98 (r_ldb (i := 0) ti_3 rfl rfl rfl rfl) rfl<|oG hb98 (r_eqlI (p := (gvD ((nth code.l t).a) ce2).n) (q := 0) rfl rfl rfl) rfl<|oG hb88 (r_pickT rfl rfl hb98 rfl) rfl<|opF hb88 rfl<|.nl)<|nK k87<|gcd rfl (fun hb99 hp99 => ?_) fun hb99 hp99 => ?_
  ·skip
   refine gL<|gRn (oM 1 rfl<|.nl)<|?_
   have hbz := (hj t ht).2 (by omega)
   obtain ⟨db, hdb⟩ := Int.eq_ofNat_of_zero_le hbz.1
   have hnl2 : wk2.l.length = wn2.length := by rw [hwl]; exact nI_len
   have hnm : db ∈ nxtE code.l t (endV code.l t (envL R (wasC (getK ((t : Nat) : Int) C)))) ∧ db ≤ code.l.length := ⟨(nxtE_15 (show (nth code.l t).op = 15 by omega)).2 (.inr ⟨by rw [← hva]; omega, by omega⟩), by omega⟩
   refine gRn (ofB fl_44_2 rfl<|olB 2 ti_3 rfl rfl<|oM 1 rfl<|.nl)<|fun a101 w101 h101 => ?_
   have h100 := h101.same (d := 100) (v' := .int .i64 ((db : Nat) : Int)) rfl (by rw [hdb])
   clear h101
   have h105 := h100.sel (L' := [_, _, _, _, _, _, _]) [3, 4, 5, 1, 0, 2, 6] rfl
   have hp106 := h105.sh.passL (Lp := [_, _, _, _])
   refine wl_ex (x_call h105 bd_40 rfl rfl rfl rfl rfl (lead_c _ gl ga g16 R db code C2 tC2 wk2 wn2 ce2 te2 _ hp106 hC hce.1 hwl (by omega))) (wanted_none rfl _) ?_
   rintro a107 w107 ⟨_, ⟨C107, T107, wq107, rfl, hlw107, hla107, hlC107, hs107⟩, hf107⟩
   have hmid107 : MidI code.l R (absA R C107) (leadF (absA R C2) wn2 db (envL R ce2)).2 t (envL R (wasC (getK ((t : Nat) : Int) C))) (ds ++ [db]) := by rw [hla107, hce.2]; exact hmid.lead hnm.1 hnm.2
   have hmu107 : (leadF (absA R C2) wn2 db (envL R ce2)).2.length + muA R (absA R C107) (code.l.length + 1) ≤ wn2.length + muA R (absA R C2) (code.l.length + 1) := by rw [hla107]; exact lead_mu hmid.low.ok (by rw [hce.2]; exact outE_ok hmid.oe) hnm.2
   have h107 : St _ K W a107 w107 _ [_, _, _, _, _, _, _] := ⟨hf107, h105.sh.backI (Lp := [_, _, _, _]) hs107⟩
   clear hf107 hs107
   clear h105
   refine gG h107<|nN<|fun a108 w108 h108 => ?_; clear h107
   try simp only [Exit.then, Exit.inBlock, if_true]
   refine x_end0 (fn := Try.f41) rfl h108 ?_
   exact ⟨C107, T107, wq107, _, rfl, hlw107, hlC107, hmid107.fin (fun d hd => by rcases (nxtE_15 (show (nth code.l t).op = 15 by omega)).1 hd with ⟨h8, rfl⟩ | ⟨h8, rfl⟩; exact List.mem_append.2 (.inl (hds h8)); exact List.mem_append.2 (.inr (List.mem_singleton.2 (by omega)))), Nat.le_trans hmu107 hmu, (h108.sh.sel [0, 1, 2, 6] rfl)⟩
  refine gS<|fun a109 w109 h109 => ?_
  try simp only [Exit.then, Exit.inBlock, if_true]
  refine x_end0 (fn := Try.f41) rfl h109 ?_
  exact ⟨C2, tC2, wk2, wn2, rfl, hwl, hC, hmid.fin (fun d hd => by rcases (nxtE_15 (show (nth code.l t).op = 15 by omega)).1 hd with ⟨h8, rfl⟩ | ⟨h8, rfl⟩; exact hds h8; rw [← hva] at h8; exfalso; omega), hmu, (h109.sh.sel [3, 4, 5, 6] rfl)⟩
 refine gRn (oKs 3 hb98 rfl rfl<|oG hb88 (r_pickF rfl rfl hb98 rfl) rfl<|opF hb88 rfl<|.nl)<|nK k87<|gcF rfl rfl<|gS<|fun a110 w110 h110 => ?_
 try simp only [Exit.then, Exit.inBlock, if_true]
 refine x_end0 (fn := Try.f41) rfl h110 ?_
 exact ⟨C2, tC2, wk2, wn2, rfl, hwl, hC, hmid.fin (fun d hd => by rcases (nxtE_15 (show (nth code.l t).op = 15 by omega)).1 hd with ⟨h8, rfl⟩ | ⟨h8, rfl⟩; exact hds h8; rw [← hva] at h8; exfalso; omega), hmu, (h110.sh.sel [3, 4, 5, 6] rfl)⟩

end Go.Proofs.Ytmgikmjmdppfmaa
