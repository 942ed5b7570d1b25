/-
  Maps of values: cloned, compared; values that come together.
-/
import Derived.Test.YtmgikmjmdppfmaaE3
import Derived.Test.YtmgikmjmdppfmaaX32
import Derived.Test.YtmgikmjmdppfmaaX10
namespace Go.Proofs.Ytmgikmjmdppfmaa
open Go.RowKit
set_option linter.unusedSimpArgs false
set_option linter.unusedVariables false
set_option maxRecDepth 100000
set_option maxHeartbeats 1000000

theorem mt_90 : MapTA Try.prog 90 3 92 (.agg #[.int .i64 0, .int .i64 0]) := ⟨by kernel_rfl, by kernel_rfl, fun w => by kernel_rfl⟩
theorem mt_87 : MapTA Try.prog 87 3 90 (.map none) := ⟨by kernel_rfl, by kernel_rfl, fun w => by kernel_rfl⟩
theorem roM {p : Option Nat} {c : List (KA VV)} {t : Nat} {W : World} (h : (Asn.mapA encV p c t).ok W) : Sh0 W W [.ro [.mapA encV p c t]] :=
  Sh0.ext (by intro A hA; rw [List.mem_singleton.1 hA]; exact fun B hB => by rw [List.mem_singleton.1 hB]; exact h) (by intro A hA b hb; rw [List.mem_singleton.1 hA] at hb; exact hb)
theorem eq_vv (f g : VV) (w : World) : (binOp .eql 92 (encV f) (encV g)).run Try.prog w = .ok (.bool (decide (f = g))) w := by
  obtain ⟨a, b⟩ := f
  obtain ⟨a', b'⟩ := g
  simp [binOp, encV, Op.equal, Op.maxDepth, go_sem]
  by_cases h1 : a = a' <;> by_cases h2 : b = b' <;> simp [h1, h2]
theorem eq_vvG (x y : Operand) (f g : VV) (w : World) : (eqGuard .eql 92 x y (encV f) (encV g)).run Try.prog w = .ok () w := by
  simp [eqGuard, encV]
  try kernel_rfl
theorem neq_vv (f g : VV) (w : World) : (binOp .neq 92 (encV f) (encV g)).run Try.prog w = .ok (.bool (decide (f ≠ g))) w := by
  obtain ⟨a, b⟩ := f
  obtain ⟨a', b'⟩ := g
  simp [binOp, encV, Op.equal, Op.maxDepth, go_sem]
  by_cases h1 : a = a' <;> by_cases h2 : b = b' <;> simp [h1, h2]
theorem neq_vvG (x y : Operand) (f g : VV) (w : World) : (eqGuard .neq 92 x y (encV f) (encV g)).run Try.prog w = .ok () w := by
  simp [eqGuard, encV]
  try kernel_rfl
theorem r_neqS {P : Program} {o : Oper} {N : Nat} {K : Nat → Prop} {W : World} {F : List (Nat × Value)} {L : List Asn} {T U : TypeId} {x y : Operand} {u v : Value} {b : Bool} (ho : o.op = .binOp .neq T x y U) (hx : ev F x = some u) (hy : ev F y = some v) (hg : ∀ w, (eqGuard .neq T x y u v).run P w = .ok () w) (hb : ∀ w, (binOp .neq T u v).run P w = .ok (.bool b) w) : Rn P o N K W F L (.bool b) := fun a w h => by
  unfold execOp
  simp only [ho, h.fr.ev hx, h.fr.ev hy, Sem.run_bind, Sem.run_pure, Result.andThen_ok, hg, hb]
theorem roM2 {p q : Option Nat} {c d : List (KA VV)} {t u : Nat} {W : World} (h : (Asn.mapA encV p c t).ok W) (h2 : (Asn.mapA encV q d u).ok W) : Sh0 W W [.ro [.mapA encV p c t], .ro [.mapA encV q d u]] :=
  Sh0.ext (fun A hA => by
    simp only [List.mem_cons, List.not_mem_nil, or_false] at hA
    rcases hA with rfl | rfl
    · exact fun B hB => (List.mem_singleton.1 hB) ▸ h
    · exact fun B hB => (List.mem_singleton.1 hB) ▸ h2) (fun A hA b hb => by
    simp only [List.mem_cons, List.not_mem_nil, or_false] at hA
    rcases hA with rfl | rfl <;> exact hb)

theorem cloneA_c (g : Nat) (c : List (KA VV)) (t : Nat) (W : World) (hm : (Asn.mapA encV (some g) c t).ok W) :
    Rets Try.prog 58 [.map (some g)] W (fun v w' => ∃ g' : Nat, v = .map (some g') ∧ Sh0 W w' [.mapA encV (some g') c t]) := by
 refine gen Try.func58 Try.ntmps58 (roM hm : Sh (fun _ => False) W W [.ro [.mapA encV (some g) c t]]) rfl fun a10 h10 => gG h10<|sG (oM 1 rfl<|.nl)<|gK fun _ k12 => sG (oM 1 rfl<|oV (r_nilA mt_90 rfl rfl rfl) rfl<|.nl)<|gcF rfl rfl<|gS<|hK k12<|sK fun _ k14 => gRn (oM 1 rfl<|oV (r_mkIfA mt_90 rfl rfl) rfl<|.nl)<|gE1 (fun _ _ h_ => x_cloneA (enc := encV) (c := c) (t := t) h_ Try.func76 (by kernel_rfl) (by kernel_rfl) (by kernel_rfl) (by kernel_rfl) rfl rfl rfl (h_.sh.ok _ (List.mem_of_getElem? (i := 0) rfl) _ (List.mem_cons_self ..)) rfl rfl) rfl fun g15 => gRn (oV (r_asrtA mt_90 rfl rfl) rfl<|oM 1 rfl<|.nl)<|nK k14<|gR<|fun a16 w16 h16 => x_ret1 (fn := Try.f58) (t := 2) rfl h16 rfl ?_; clear h10
 exact ⟨_, rfl, (h16.sh.sel [0] rfl)⟩

theorem equalA_c (p1 p2 : Option Nat) (c1 c2 : List (KA VV)) (t1 t2 : Nat) (W : World) (hm1 : (Asn.mapA encV p1 c1 t1).ok W) (hm2 : (Asn.mapA encV p2 c2 t2).ok W) :
    Rets Try.prog 60 [.map p1, .map p2] W (fun v w' => v = .bool (eqC c1 c2) ∧ Sh0 W w' []) := by
 refine gen Try.func60 Try.ntmps60 (roM2 hm1 hm2 : Sh (fun _ => False) W W [.ro [.mapA encV p1 c1 t1], .ro [.mapA encV p2 c2 t2]]) rfl fun a10 h10 => gG h10<|sG (oM 1 rfl<|.nl)<|gK fun _ k12 => sG (oM 1 rfl<|oV (r_lenA (enc := encV) (c := c1) mt_90 rfl rfl (fun w h => (h.ok _ (List.mem_of_getElem? (i := 0) rfl) _ (List.mem_cons_self ..)))) rfl<|oM 1 rfl<|oV (r_lenA (enc := encV) (c := c2) mt_90 rfl rfl (fun w h => (h.ok _ (List.mem_of_getElem? (i := 1) rfl) _ (List.mem_cons_self ..)))) rfl<|oneN _ _ rfl<|.nl)<|?_; clear h10
 refine gcd rfl (fun hb14 hp14 => ?_) fun hb14 hp14 => ?_
 ·skip
  refine sG (oM 1 rfl<|.nl)<|gR<|uT<|fun a16 w16 h16 => x_ret1 (fn := Try.f60) (t := 4) rfl h16 rfl <| ⟨congrArg Value.bool ?_, (h16.sh.sel [] rfl)⟩
  exact eqC_len (by assumption)
 refine gS<|hK k12<|gK fun _ k17 => sK fun _ k18 => gRn (oM 1 rfl<|.nl)<|gE1 (fun _ _ h_ => x_rangeA (enc := encV) (c := c1) (t := t1) h_ mt_90 rfl rfl (h_.sh.ok _ (List.mem_of_getElem? (i := 0) rfl) _ (List.mem_cons_self ..)) rfl rfl) rfl fun r19 => nK k18<|gB<|fun a21 w21 h21 => x_loop (fun m a w => ∃ (s : List Nat), (∀ x ∈ c1, x.b ∈ s → getK x.k c2 = some x.v) ∧ St 34 (fun _ => False) W a w [(1, .map p2), (15, .pointer (some ⟨r19, 0, none⟩))] [.itA p1 r19 (if p1 = none then 0 else t1) s, .ro [.mapA encV p1 c1 t1], .ro [.mapA encV p2 c2 t2]] ∧ m = leftA c1 s) ⟨_, [], (fun x _ hx => by cases hx), h21.nf ⟨rfl, rfl, trivial⟩, rfl⟩ ?_
 clear h21
 rintro m20 a20 w20 ⟨s, hs, h20, hm20⟩
 refine gG h20<|sK fun _ k22 => fun a24 w24 h24 => wl_ex (x_nextA (enc := encV) (c := c1) (i := 0) h24 rfl rfl rfl (fun w h => (h.ok _ (List.mem_of_getElem? (i := 1) rfl) _ (List.mem_cons_self ..))) rfl rfl) (wanted_none rfl _) ?_; clear h20
 rintro a23 w23 (⟨h23, hend23⟩ | ⟨x23, hxc23, hxs23, h23⟩)
 ·clear h24
  refine gG h23<|gRn (oxt rfl<|.nl)<|nK k22<|gK fun _ k25 => gcF rfl rfl<|gX<|hK k17<|sG (oM 1 rfl<|.nl)<|gR<|fun a27 w27 h27 => x_ret1 (fn := Try.f60) (t := 4) rfl h27 rfl <| ⟨congrArg Value.bool ?_, (h27.sh.sel [] rfl)⟩; clear h23
  exact eqC_yes (by assumption) hs hend23
 clear h24
 refine gG h23<|gRn (oxt rfl<|.nl)<|nK k22<|gK fun _ k28 => gcT rfl rfl<|gS<|hK k28<|gB<|sK fun _ k29 => gRn (oV (r_entryA (enc := encV) (c := c1) (i := 0) (y := x23) rfl rfl rfl (fun w h => (h.ok _ (List.mem_of_getElem? (i := 1) rfl) _ (List.mem_cons_self ..))) (by assumption)) rfl<|oxt rfl<|oxt rfl<|.nl)<|gal ti_92 rfl fun b30 => gRn (oM 1 rfl<|.nl)<|gsw 0 ti_92 rfl rfl rfl<|nK k29<|sK fun _ k32 => gRn (oM 2 rfl<|oV (r_lookAv (k := x23.k) (c := c2) mt_90 rfl rfl rfl (fun w h => (h.ok _ (List.mem_of_getElem? (i := 3) rfl) _ (List.mem_cons_self ..)))) rfl<|oM 1 rfl<|oxt rfl<|oxt rfl<|.nl)<|gal ti_92 rfl fun b33 => gsw 0 ti_92 rfl rfl rfl<|gRn (oM 1 rfl<|.nl)<|nK k32<|sK fun _ k35 => gRn (oM 1 rfl<|ont rfl<|oM 1 rfl<|.nl)<|?_; clear h23
 rcases Bool.eq_false_or_eq_true (!((getK x23.k c2).isSome)) with hb36 | hb36
 ·have hn36 : (getK x23.k c2).isSome = false := (Bool.not_eq_true' _).mp hb36
  refine gRn (oKs 3 hb36 rfl rfl<|opT hb36 rfl<|.nl)<|nK k35<|gcT rfl rfl<|sG (oM 1 rfl<|.nl)<|gF [4] rfl<|gR<|uB<|uT<|uB<|uT<|fun a38 w38 h38 => x_ret1 (fn := Try.f60) (t := 4) rfl h38 rfl <| ⟨congrArg Value.bool ?_, (h38.sh.sel [] rfl)⟩
  first | exact eqC_no1 hxc23 (by assumption) | exact eqC_no2 hxc23 (by assumption)
 have hn36 : (getK x23.k c2).isSome = true := (Bool.not_eq_false' _).mp hb36
 refine gRn (oG hb36 (r_ldbw (i := 1) (vs := [.int .i64 x23.v.s, .int .i64 x23.v.n]) ti_92 rfl rfl rfl rfl rfl) rfl<|oG hb36 (r_ldbw (i := 0) (vs := [.int .i64 (((getK x23.k c2).getD ⟨0, 0⟩).s), .int .i64 (((getK x23.k c2).getD ⟨0, 0⟩).n)]) ti_92 rfl rfl rfl rfl rfl) rfl<|oG hb36 (r_neqS rfl rfl rfl (fun w => neq_vvG _ _ x23.v ((getK x23.k c2).getD ⟨0, 0⟩) w) (fun w => neq_vv x23.v ((getK x23.k c2).getD ⟨0, 0⟩) w)) rfl<|opF hb36 rfl<|.nl)<|nK k35<|gcd rfl (fun hb39 hp39 => ?_) fun hb39 hp39 => ?_
 ·skip
  refine sG (oM 1 rfl<|.nl)<|gF [4] rfl<|gR<|uB<|uT<|uB<|uT<|fun a41 w41 h41 => x_ret1 (fn := Try.f60) (t := 4) rfl h41 rfl <| ⟨congrArg Value.bool ?_, (h41.sh.sel [] rfl)⟩
  first | exact eqC_no1 hxc23 (by assumption) | exact eqC_no2 hxc23 (by assumption)
 refine gS<|fun a42 w42 h42 => ?_
 change ∃ _m, _m < _ ∧ _
 refine ⟨_, ?_, s ++ [x23.b], ?_, h42.nrm ⟨rfl, rfl, trivial⟩ [2, 3, 4] rfl, rfl⟩
 · rw [hm20]; exact leftA_lt (by assumption) (by assumption)
 · exact eqC_step (mapA_born hm1) hs (by assumption) (by assumption) (by assumption)

theorem meet_c (x y : VV) (W : World) :
    Rets Try.prog 59 [.agg #[.int .i64 x.s, .int .i64 x.n], .agg #[.int .i64 y.s, .int .i64 y.n]] W (fun v w' => v = encV (meetV x y) ∧ Sh0 W w' []) := by
 refine gen Try.func59 Try.ntmps59 (Sh0.start W : Sh (fun _ => False) W W []) rfl fun a10 h10 => gG h10<|sK fun _ k11 => gbx rfl rfl fun b12 => gbx rfl rfl fun b13 => gal ti_92 rfl fun b14 => nK k11<|gK fun _ k15 => gB<|sK fun _ k16 => gRn (ofB fl_92_0 rfl<|olB 2 ti_3 rfl rfl<|oeqI _ _ rfl<|oM 1 rfl<|.nl)<|?_; clear h10
 rcases dsp (x.s = 0) with ⟨hb17, hp17⟩ | ⟨hb17, hp17⟩
 ·skip
  refine gRn (oKs 3 hb17 rfl rfl<|opT hb17 rfl<|oM 1 rfl<|.nl)<|nK k16<|gcT rfl rfl<|sK fun _ k18 => gRn (olw 1 ti_92 rfl rfl<|.nl)<|gsw 0 ti_92 rfl rfl rfl<|nK k18<|gR<|uB<|uT<|fun a20 w20 h20 => x_ret1c (fn := Try.f59) (t := 4) (i := 0) ti_92 rfl h20 rfl rfl rfl ?_
  have e9 : meetV x y = y := by unfold meetV; (repeat' split) <;> first | rfl | contradiction | (exfalso; omega) | (subst_vars; rfl) | simp_all
  refine ⟨?_, (h20.sh.sel [] rfl)⟩
  rw [e9]; rfl
 refine gRn (oG hb17 (r_ldbw (i := 2) (vs := [.int .i64 x.s, .int .i64 x.n]) ti_92 rfl rfl rfl rfl rfl) rfl<|oG hb17 (r_ldbw (i := 1) (vs := [.int .i64 y.s, .int .i64 y.n]) ti_92 rfl rfl rfl rfl rfl) rfl<|oG hb17 (r_eqS rfl rfl rfl (fun w => eq_vvG _ _ x y w) (fun w => eq_vv x y w)) rfl<|opF hb17 rfl<|oM 1 rfl<|.nl)<|nK k16<|gcd rfl (fun hb21 hp21 => ?_) fun hb21 hp21 => ?_
 ·skip
  refine sK fun _ k22 => gRn (olw 1 ti_92 rfl rfl<|.nl)<|gsw 0 ti_92 rfl rfl rfl<|nK k22<|gR<|uB<|uT<|fun a24 w24 h24 => x_ret1c (fn := Try.f59) (t := 4) (i := 0) ti_92 rfl h24 rfl rfl rfl ?_
  have e9 : meetV x y = y := by unfold meetV; (repeat' split) <;> first | rfl | contradiction | (exfalso; omega) | (subst_vars; rfl) | simp_all
  refine ⟨?_, (h24.sh.sel [] rfl)⟩
  rw [e9]; rfl
 refine sG (ofB fl_92_0 rfl<|olB 1 ti_3 rfl rfl<|oeqI _ _ rfl<|oM 1 rfl<|.nl)<|gcd rfl (fun hb26 hp26 => ?_) fun hb26 hp26 => ?_
 ·skip
  refine sK fun _ k27 => gRn (olw 2 ti_92 rfl rfl<|.nl)<|gsw 0 ti_92 rfl rfl rfl<|nK k27<|gR<|uB<|uT<|fun a29 w29 h29 => x_ret1c (fn := Try.f59) (t := 4) (i := 0) ti_92 rfl h29 rfl rfl rfl ?_
  have e9 : meetV x y = x := by unfold meetV; (repeat' split) <;> first | rfl | contradiction | (exfalso; omega) | (subst_vars; rfl) | simp_all
  refine ⟨?_, (h29.sh.sel [] rfl)⟩
  rw [e9]; rfl
 refine gS<|hK k15<|sK fun _ k30 => gRn (oV (r_build (cs := [.int .i64 2, .int .i64 0]) rfl rfl (by kernel_rfl)) rfl<|.nl)<|gsw 0 ti_92 rfl rfl rfl<|nK k30<|gR<|fun a32 w32 h32 => x_ret1c (fn := Try.f59) (t := 4) (i := 0) ti_92 rfl h32 rfl rfl rfl ?_
 have e9 : meetV x y = (⟨2, 0⟩ : VV) := by unfold meetV; (repeat' split) <;> first | rfl | contradiction | (exfalso; omega) | (subst_vars; rfl) | simp_all
 refine ⟨?_, (h32.sh.sel [] rfl)⟩
 rw [e9]; rfl

theorem cloneA_o (p : Option Nat) (c : List (KA VV)) (t : Nat) (W : World) (hm : (Asn.mapA encV p c t).ok W) (hp : p ≠ none) : Rets Try.prog 58 [.map p] W (fun v w' => ∃ g' : Nat, v = .map (some g') ∧ Sh0 W w' [.mapA encV (some g') c t]) := by
  cases p with
  | none => exact absurd rfl hp
  | some g => exact cloneA_c g c t W hm
end Go.Proofs.Ytmgikmjmdppfmaa
