/-
  One comes to an order; what an order reckons.
-/
import Derived.Test.YtmgikmjmdppfmaaX124
import Derived.Test.YtmgikmjmdppfmaaX1
namespace Go.Proofs.Ytmgikmjmdppfmaa
open Go.RowKit
set_option linter.unusedSimpArgs false
set_option linter.unusedVariables false
set_option maxRecDepth 100000
set_option maxHeartbeats 8000000

theorem lead_c (K : Nat → Prop) (gl ga ge R d : Nat) (code : Ls Ins) (C : List (KA MA)) (tC : Nat) (wk : Ls Int) (wn : List Nat) (ce : List (KA VV)) (te : Nat) (W : World) (hS : Sh K W W [.blk gl 89 [code.v, .map (some ga), wk.v], .big (ahX (some ga) C tC), .own 3 wk, .mapA encV (some ge) ce te]) (hC : WfC R C) (he : EnvC R ce) (hwl : wk.l = nI wn) (hln : wk.l.length ≤ 1000000) :
    Rets Try.prog 40 [.pointer (some ⟨gl, 0, none⟩), .int .i64 ((d : Nat) : Int), .map (some ge)] W (fun v w' => ∃ (C' : List (KA MA)) (tC' : Nat) (wk' : Ls Int), v = .tuple #[] ∧ wk'.l = nI (leadF (absA R C) wn d (envL R ce)).2 ∧ absA R C' = (leadF (absA R C) wn d (envL R ce)).1 ∧ WfC R C' ∧ Sh K W w' [.blk gl 89 [code.v, .map (some ga), wk'.v], .big (ahX (some ga) C' tC'), .own 3 wk', .mapA encV (some ge) ce te]) := by
 refine gen Try.func40 Try.ntmps40 hS rfl fun a10 h10 => gG h10<|sG (oM 1 rfl<|onfl 0 fl_89_1 ti_87 rfl rfl<|oM 1 rfl<|oV (r_lookAh (i := 1) (k := ((d : Nat) : Int)) (C := C) (tC := tC) mt_87 rfl rfl rfl rfl) rfl<|oM 1 rfl<|oxt rfl<|oxt rfl<|oM 2 rfl<|.nl)<|sK fun _ k12 => gRn (oM 1 rfl<|.nl)<|gC (fun _ _ h_ => xCl h_ bd_58 rfl (cloneA_c ge ce te _ (h_.sh.ok _ (List.mem_of_getElem? (i := 3) rfl)))) rfl<|?_; clear h10
 rintro _ _ w13 ⟨g13, rfl, hs13⟩
 refine gWk hs13 rfl<|gU<|gRn (oM 1 rfl<|.nl)<|nK k12<|fun a14 w14 h14 => ?_; clear hs13
 have hbw := mapA_born (ah_ok (h14.sh.ok _ (List.mem_of_getElem? (i := 2) rfl)) ((d : Nat) : Int))
 refine gG h14<|gK fun _ k15 => sK fun _ k16 => gRn (oM 1 rfl<|.nl)<|gE1 (fun _ _ h_ => x_rangeA (enc := encV) (c := (wasC (getK ((d : Nat) : Int) C))) (t := (wasT (getK ((d : Nat) : Int) C))) h_ mt_90 rfl rfl (ah_ok (h_.sh.ok _ (List.mem_of_getElem? (i := 2) rfl)) ((d : Nat) : Int)) rfl rfl) rfl fun r17 => nK k16<|gB<|fun a19 w19 h19 => x_loop (fun m a w => ∃ (s : List Nat) (cn : List (KA VV)) (tn : Nat), (MtI R ce (wasC (getK ((d : Nat) : Int) C)) cn s) ∧ St 60 K W a w [(0, .pointer (some ⟨gl, 0, none⟩)), (1, .int .i64 ((d : Nat) : Int)), (6, .map (wasP (getK ((d : Nat) : Int) C))), (7, .bool ((getK ((d : Nat) : Int) C).isSome)), (8, .map (some g13)), (23, .pointer (some ⟨r17, 0, none⟩))] [.itA (wasP (getK ((d : Nat) : Int) C)) r17 (if (wasP (getK ((d : Nat) : Int) C)) = none then 0 else (wasT (getK ((d : Nat) : Int) C))) s, .mapA encV (some g13) cn tn, .blk gl 89 [code.v, .map (some ga), wk.v], .big (ahX (some ga) C tC), .own 3 wk, .mapA encV (some ge) ce te] ∧ m = leftA (wasC (getK ((d : Nat) : Int) C)) s) ⟨_, [], ce, te, (MtI.start he), h19.nf ⟨rfl, rfl, rfl, rfl, rfl, rfl, trivial⟩, rfl⟩ ?_; clear h14
 clear h19
 rintro m18 a18 w18 ⟨s, cn, tn, hmt, h18, hm18⟩
 refine gG h18<|sK fun _ k20 => fun a22 w22 h22 => wl_ex (x_nextA (enc := encV) (c := (wasC (getK ((d : Nat) : Int) C))) (i := 0) h22 rfl rfl rfl (fun w h => (ah_ok (h.ok _ (List.mem_of_getElem? (i := 3) rfl)) ((d : Nat) : Int))) rfl rfl) (wanted_none rfl _) ?_; clear h18
 rintro a21 w21 (⟨h21, hend21⟩ | ⟨x21, hxc21, hxs21, h21⟩)
 ·clear h22
  refine gG h21<|gRn (oxt rfl<|.nl)<|nK k20<|gK fun _ k23 => gcF rfl rfl<|gX<|hK k15<|sK fun _ k24 => gRn (oM 1 rfl<|ont rfl<|oM 1 rfl<|.nl)<|?_; clear h21
  rcases Bool.eq_false_or_eq_true (!((getK ((d : Nat) : Int) C).isSome)) with hb25 | hb25
  ·have hn25 : (getK ((d : Nat) : Int) C).isSome = false := (Bool.not_eq_true' _).mp hb25
   refine gRn (oKs 4 hb25 rfl rfl<|opT hb25 rfl<|.nl)<|nK k24<|gcT rfl rfl<|sK fun _ k26 => gRn (oM 1 rfl<|onfl 2 fl_89_1 ti_87 rfl rfl<|oM 2 rfl<|.nl)<|gO [3, 1, 0, 2, 4, 5] rfl<|gE (fun _ _ h_ => x_putAh (k := ((d : Nat) : Int)) (c := cn) (t := tn) h_ mt_87 rfl rfl rfl rfl rfl rfl) rfl<|nK k26<|gL<|gRn (oM 2 rfl<|onfl 2 fl_89_2 ti_23 rfl rfl<|oM 1 rfl<|.nl)<|gE1 (fun _ _ h_ => x_lit (n := 1) (cs := [.int .i64 ((d : Nat) : Int)]) ([((d : Nat) : Int)] : List Int) h_ sl_23 ti_3 rfl rfl rfl (by decide) rfl (by kernel_rfl) rfl (fun q hq w h => Flat.inner _ _) (fun q hq b hb => (Flat.on _ _ hb).elim) rfl rfl) rfl fun v29 => gE1 (fun _ _ h_ => x_app (r := 4) (rm := 0) (s := wk) (m := (⟨v29, [((d : Nat) : Int)]⟩ : Ls Int)) h_ sl_23 ti_3 rfl rfl rfl rfl rfl rfl rfl (fun w h => (h.own 0 rfl)) (fun b hb => own_on (h_.sh.ok _ (List.mem_of_getElem? (i := 0) rfl)) hb) (fun q hq b hb => ⟨q, hq, hb⟩) rfl rfl rfl inferInstance (show (wk.l.length + ([((d : Nat) : Int)]).length) * 8 ≤ 140737488355328 ∧ wk.l.length + ([((d : Nat) : Int)]).length ≤ 140737488355328 from om9) rfl rfl) rfl fun v30 => gRn (onf fl_89_2 rfl<|.nl)<|gsr 3 ti_23 rfl (aO 4 rfl) rfl<|nN<|fun a32 w32 h32 => ?_
   try simp only [Exit.then, Exit.inBlock, if_true]
   refine x_end0 (fn := Try.f40) rfl h32 ?_
   have hall := hmt.all hC hend21
   have e9 := lead_new (wk := wn) (g := g13) (t := tn) (T := tC) hC hmt.env hall (by first | exact .inl (by assumption) | exact .inr (by assumption))
   refine ⟨_, _, ⟨v30, wk.l ++ ([((d : Nat) : Int)])⟩, rfl, ?_, ?_, hC.put hmt.env, (h32.sh.sel [3, 1, 4, 5] rfl)⟩
   · rw [e9]; show wk.l ++ [_] = _; rw [hwl]; exact nI_snoc.symm
   · rw [e9]
  have hn25 : (getK ((d : Nat) : Int) C).isSome = true := (Bool.not_eq_false' _).mp hb25
  refine gRn (oG hb25 (r_move rfl rfl) rfl<|oG hb25 (r_move rfl rfl) rfl<|.nl)<|fun a33 w33 h33 => wl_ex (x_call h33 bd_60 rfl rfl rfl rfl rfl (equalA_c (some g13) (wasP (getK ((d : Nat) : Int) C)) cn (wasC (getK ((d : Nat) : Int) C)) tn (wasT (getK ((d : Nat) : Int) C)) _ (h33.sh.ok _ (List.mem_of_getElem? (i := 1) rfl)) (ah_ok (h33.sh.ok _ (List.mem_of_getElem? (i := 3) rfl)) ((d : Nat) : Int)))) (wanted_yes h33.fr rfl rfl rfl rfl hb25) ?_
  rintro a34 w34 ⟨_, ⟨rfl, hs34⟩, hf34⟩
  have h34 : St 60 K W a34 w34 _ _ := ⟨hf34, h33.sh.call0 hs34⟩
  clear hf34 hs34
  clear h33
  refine gG h34<|gRn (oG hb25 (r_not rfl rfl) rfl<|opF hb25 rfl<|.nl)<|nK k24<|?_; clear h34
  refine gCb rfl (fun hb35 => ?_) fun hb35 => ?_
  ·have hn35 : eqC cn (wasC (getK ((d : Nat) : Int) C)) = false := (Bool.not_eq_true' _).mp hb35
   refine sK fun _ k36 => gRn (oM 1 rfl<|onfl 2 fl_89_1 ti_87 rfl rfl<|oM 2 rfl<|.nl)<|gO [3, 1, 0, 2, 4, 5] rfl<|gE (fun _ _ h_ => x_putAh (k := ((d : Nat) : Int)) (c := cn) (t := tn) h_ mt_87 rfl rfl rfl rfl rfl rfl) rfl<|nK k36<|gL<|gRn (oM 2 rfl<|onfl 2 fl_89_2 ti_23 rfl rfl<|oM 1 rfl<|.nl)<|gE1 (fun _ _ h_ => x_lit (n := 1) (cs := [.int .i64 ((d : Nat) : Int)]) ([((d : Nat) : Int)] : List Int) h_ sl_23 ti_3 rfl rfl rfl (by decide) rfl (by kernel_rfl) rfl (fun q hq w h => Flat.inner _ _) (fun q hq b hb => (Flat.on _ _ hb).elim) rfl rfl) rfl fun v39 => gE1 (fun _ _ h_ => x_app (r := 4) (rm := 0) (s := wk) (m := (⟨v39, [((d : Nat) : Int)]⟩ : Ls Int)) h_ sl_23 ti_3 rfl rfl rfl rfl rfl rfl rfl (fun w h => (h.own 0 rfl)) (fun b hb => own_on (h_.sh.ok _ (List.mem_of_getElem? (i := 0) rfl)) hb) (fun q hq b hb => ⟨q, hq, hb⟩) rfl rfl rfl inferInstance (show (wk.l.length + ([((d : Nat) : Int)]).length) * 8 ≤ 140737488355328 ∧ wk.l.length + ([((d : Nat) : Int)]).length ≤ 140737488355328 from om9) rfl rfl) rfl fun v40 => gRn (onf fl_89_2 rfl<|.nl)<|gsr 3 ti_23 rfl (aO 4 rfl) rfl<|nN<|fun a42 w42 h42 => ?_
   try simp only [Exit.then, Exit.inBlock, if_true]
   refine x_end0 (fn := Try.f40) rfl h42 ?_
   have hall := hmt.all hC hend21
   have e9 := lead_new (wk := wn) (g := g13) (t := tn) (T := tC) hC hmt.env hall (by first | exact .inl (by assumption) | exact .inr (by assumption))
   refine ⟨_, _, ⟨v40, wk.l ++ ([((d : Nat) : Int)])⟩, rfl, ?_, ?_, hC.put hmt.env, (h42.sh.sel [3, 1, 4, 5] rfl)⟩
   · rw [e9]; show wk.l ++ [_] = _; rw [hwl]; exact nI_snoc.symm
   · rw [e9]
  have hn35 : eqC cn (wasC (getK ((d : Nat) : Int) C)) = true := (Bool.not_eq_false' _).mp hb35
  refine gS<|fun a43 w43 h43 => ?_
  try simp only [Exit.then, Exit.inBlock, if_true]
  refine x_end0 (fn := Try.f40) rfl h43 ?_
  have hall := hmt.all hC hend21
  have e9 := lead_same (wk := wn) hC hmt.env hall (by assumption) (by assumption)
  exact ⟨C, tC, wk, rfl, by rw [e9]; exact hwl, by rw [e9], hC, (h43.sh.sel [2, 3, 4, 5] rfl)⟩
 clear h22
 refine gG h21<|gRn (oxt rfl<|.nl)<|nK k20<|gK fun _ k44 => gcT rfl rfl<|gS<|hK k44<|gB<|sK fun _ k45 => gRn (oV (r_entryA (enc := encV) (c := (wasC (getK ((d : Nat) : Int) C))) (i := 0) (y := x21) rfl rfl rfl (fun w h => (ah_ok (h.ok _ (List.mem_of_getElem? (i := 3) rfl)) ((d : Nat) : Int))) (by assumption)) rfl<|oxt rfl<|oxt rfl<|.nl)<|gal ti_92 rfl fun b46 => gRn (oM 1 rfl<|.nl)<|gsw 0 ti_92 rfl rfl rfl<|nK k45<|gL<|gRn (oM 4 rfl<|oV (r_lookA0v (k := x21.k) (c := cn) mt_90 rfl rfl rfl (fun w h => (h.ok _ (List.mem_of_getElem? (i := 2) rfl)))) rfl<|olw 0 ti_92 rfl rfl<|.nl)<|gP (fun _ _ h_ => xCl h_ bd_59 rfl (meet_c (gvD x21.k cn) x21.v _)) rfl<|gE (fun _ _ h_ => x_updA (enc := encV) (i := 2) (k := x21.k) (v := (meetV (gvD x21.k cn) x21.v)) h_ mt_90 rfl rfl rfl rfl rfl rfl rfl) rfl<|nN<|fun a50 w50 h50 => ?_; clear h21
 change ∃ _m, _m < _ ∧ _
 refine ⟨_, ?_, s ++ [x21.b], (putKv x21.k (meetV (gvD x21.k cn) x21.v) tn cn), (putT x21.k tn cn), ?_, h50.nrm ⟨rfl, rfl, rfl, rfl, rfl, rfl, trivial⟩ [1, 2, 3, 4, 5, 6] rfl, rfl⟩
 · rw [hm18]; exact leftA_lt (by assumption) (by assumption)
 · exact hmt.step (hC.was _).1 hbw (by assumption) (by assumption) ((hC.was _).2 _ (by assumption))

theorem obit_c (b : Bool) (W : World) :
    Rets Try.prog 61 [.bool b] W (fun v w' => v = .int .i64 (if b = true then 1 else 0) ∧ Sh0 W w' []) := by
 refine gen Try.func61 Try.ntmps61 (Sh0.start W : Sh (fun _ => False) W W []) rfl fun a10 h10 => gG h10<|sG (oM 1 rfl<|.nl)<|gK fun _ k12 => sG (oM 1 rfl<|.nl)<|?_; clear h10
 refine gCb rfl (fun hb14 => ?_) fun hb14 => ?_
 ·skip
  refine sG (oM 1 rfl<|.nl)<|gR<|uT<|fun a16 w16 h16 => x_ret1 (fn := Try.f61) (t := 2) rfl h16 rfl <| ⟨?_, (h16.sh.sel [] rfl)⟩
  simp_all
 refine gS<|hK k12<|sG (oM 1 rfl<|.nl)<|gR<|fun a18 w18 h18 => x_ret1 (fn := Try.f61) (t := 2) rfl h18 rfl <| ⟨?_, (h18.sh.sel [] rfl)⟩
 simp_all

theorem reckon_c (x : Ins) (R : Nat) (p : Option Nat) (c : List (KA VV)) (t : Nat) (W : World) (hm : (Asn.mapA encV p c t).ok W) (he : EnvC R c) (hb : 2 ≤ x.op ∧ x.op ≤ 7 → 0 ≤ x.b ∧ x.b < (R : Int)) (hc : 3 ≤ x.op ∧ x.op ≤ 7 → 0 ≤ x.c ∧ x.c < (R : Int)) :
    Rets Try.prog 42 [.agg #[.int .i64 x.op, .int .i64 x.a, .int .i64 x.b, .int .i64 x.c], .map p] W (fun v w' => v = .tuple #[encV (rkD x R c), .bool (decide (1 ≤ x.op ∧ x.op ≤ 7))] ∧ Sh0 W w' []) := by
 refine gen Try.func42 Try.ntmps42 (roM hm : Sh (fun _ => False) W W [.ro [.mapA encV p c t]]) rfl fun a10 h10 => gG h10<|sK fun _ k11 => gbx rfl rfl fun b12 => gal ti_92 rfl fun b13 => gRn (oM 1 rfl<|.nl)<|nK k11<|fun a14 w14 h14 => x_seq (fun a w => (3 ≤ x.op ∧ x.op ≤ 7) ∧ St 96 (fun _ => False) W a w [(1, .map p), (2, .pointer (some ⟨b12, 0, none⟩)), (4, .pointer (some ⟨b13, 0, none⟩))] [.blk b13 92 [.int .i64 0, .int .i64 0], .blk b12 44 [.int .i64 x.op, .int .i64 x.a, .int .i64 x.b, .int .i64 x.c], .ro [.mapA encV p c t]]) ?_ ?_; clear h10
 ·refine gG h14<|sG (ofB fl_44_0 rfl<|olB 1 ti_3 rfl rfl<|.nl)<|gB<|sG (oeqI _ _ rfl<|oM 1 rfl<|.nl)<|?_; clear h14
  refine gcd rfl (fun hb17 hp17 => ?_) fun hb17 hp17 => ?_
  ·skip
   refine sK fun _ k18 => gRn (ofB fl_44_2 rfl<|olB 1 ti_3 rfl rfl<|oV (r_build (cs := [.int .i64 1, .int .i64 x.b]) rfl rfl (by kernel_rfl)) rfl<|.nl)<|gsw 0 ti_92 rfl rfl rfl<|gRn (oM 1 rfl<|.nl)<|nK k18<|gR<|uB<|uT<|fun a20 w20 h20 => x_retct (fn := Try.f42) (t := 4) (u := 5) (i := 0) ti_92 rfl h20 rfl rfl rfl rfl ?_
   have e9 : rkD x R c = (⟨1, x.b⟩ : VV) := by first | exact rkD_1 hb hc (by omega) | exact rkD_2 hb hc (by omega) | exact rkD_n hb hc (by omega) | exact rkD_0 hb hc (by omega) (by omega) | exact rkD_a hb hc (by omega) (by omega) (by omega) | exact rkD_v hb hc (by omega) (by omega) (by omega) hnn
   refine ⟨?_, (h20.sh.sel [] rfl)⟩
   first | (rw [e9, decide_eq_true (show 1 ≤ x.op ∧ x.op ≤ 7 by omega)]; rfl) | (rw [e9, decide_eq_false (show ¬ (1 ≤ x.op ∧ x.op ≤ 7) by omega)]; rfl)
  refine sG (oeqI _ _ rfl<|oM 1 rfl<|.nl)<|gcd rfl (fun hb22 hp22 => ?_) fun hb22 hp22 => ?_
  ·skip
   refine sK fun _ k23 => gRn (oM 1 rfl<|ofB fl_44_2 rfl<|olB 1 ti_3 rfl rfl<|oV (r_lookA0v (k := x.b) (c := c) mt_90 rfl rfl rfl (fun w h => (h.ok _ (List.mem_of_getElem? (i := 2) rfl) _ (List.mem_cons_self ..)))) rfl<|.nl)<|gsw 0 ti_92 rfl rfl rfl<|gRn (oM 1 rfl<|.nl)<|nK k23<|gR<|uB<|uT<|fun a25 w25 h25 => x_retct (fn := Try.f42) (t := 4) (u := 5) (i := 0) ti_92 rfl h25 rfl rfl rfl rfl ?_
   have e9 : rkD x R c = (gvD x.b c) := by first | exact rkD_1 hb hc (by omega) | exact rkD_2 hb hc (by omega) | exact rkD_n hb hc (by omega) | exact rkD_0 hb hc (by omega) (by omega) | exact rkD_a hb hc (by omega) (by omega) (by omega) | exact rkD_v hb hc (by omega) (by omega) (by omega) hnn
   refine ⟨?_, (h25.sh.sel [] rfl)⟩
   first | (rw [e9, decide_eq_true (show 1 ≤ x.op ∧ x.op ≤ 7 by omega)]; rfl) | (rw [e9, decide_eq_false (show ¬ (1 ≤ x.op ∧ x.op ≤ 7) by omega)]; rfl)
  refine gK fun _ k26 => sG (oeqI _ _ rfl<|oM 1 rfl<|.nl)<|gcd rfl (fun hb28 hp28 => ?_) fun hb28 hp28 => ?_
  ·skip
   refine gS<|hK k26<|gcT rfl hb28<|gS<|fun a29 w29 h29 => x_join (Q := fun _ _ _ => False) ⟨?_, h29.nf ⟨rfl, rfl, rfl, trivial⟩⟩
   · omega
  refine sG (oeqI _ _ rfl<|oM 1 rfl<|.nl)<|gcd rfl (fun hb31 hp31 => ?_) fun hb31 hp31 => ?_
  ·skip
   refine gS<|hK k26<|gcT rfl hb31<|gS<|fun a32 w32 h32 => x_join (Q := fun _ _ _ => False) ⟨?_, h32.nf ⟨rfl, rfl, rfl, trivial⟩⟩
   · omega
  refine sG (oeqI _ _ rfl<|oM 1 rfl<|.nl)<|gcd rfl (fun hb34 hp34 => ?_) fun hb34 hp34 => ?_
  ·skip
   refine gS<|hK k26<|gcT rfl hb34<|gS<|fun a35 w35 h35 => x_join (Q := fun _ _ _ => False) ⟨?_, h35.nf ⟨rfl, rfl, rfl, trivial⟩⟩
   · omega
  refine sG (oeqI _ _ rfl<|oM 1 rfl<|.nl)<|gcd rfl (fun hb37 hp37 => ?_) fun hb37 hp37 => ?_
  ·skip
   refine gS<|hK k26<|gcT rfl hb37<|gS<|fun a38 w38 h38 => x_join (Q := fun _ _ _ => False) ⟨?_, h38.nf ⟨rfl, rfl, rfl, trivial⟩⟩
   · omega
  refine gL<|gRn (oeqI _ _ rfl<|oM 1 rfl<|.nl)<|nK k26<|gcd rfl (fun hb39 hp39 => ?_) fun hb39 hp39 => ?_
  ·skip
   refine gS<|fun a40 w40 h40 => x_join (Q := fun _ _ _ => False) ⟨?_, h40.nf ⟨rfl, rfl, rfl, trivial⟩⟩
   · omega
  refine sK fun _ k41 => gRn (oV (r_build (cs := [.int .i64 0, .int .i64 0]) rfl rfl (by kernel_rfl)) rfl<|.nl)<|gsw 0 ti_92 rfl rfl rfl<|gRn (oM 1 rfl<|.nl)<|nK k41<|gR<|uB<|uT<|fun a43 w43 h43 => x_retct (fn := Try.f42) (t := 4) (u := 5) (i := 0) ti_92 rfl h43 rfl rfl rfl rfl ?_
  have e9 : rkD x R c = (⟨0, 0⟩ : VV) := by first | exact rkD_1 hb hc (by omega) | exact rkD_2 hb hc (by omega) | exact rkD_n hb hc (by omega) | exact rkD_0 hb hc (by omega) (by omega) | exact rkD_a hb hc (by omega) (by omega) (by omega) | exact rkD_v hb hc (by omega) (by omega) (by omega) hnn
  refine ⟨?_, (h43.sh.sel [] rfl)⟩
  first | (rw [e9, decide_eq_true (show 1 ≤ x.op ∧ x.op ≤ 7 by omega)]; rfl) | (rw [e9, decide_eq_false (show ¬ (1 ≤ x.op ∧ x.op ≤ 7) by omega)]; rfl)
 clear h14
 rintro a44 w44 ⟨h37, h44⟩
 refine gG h44<|gK fun _ k45 => gF [1, 2, 4] rfl<|fun a46 w46 h46 => x_any ((fun Φ Ψ S a w => (S 8 = false ∧ S 9 = false ∧ S 10 = false ∧ S 11 = false ∧ FrI 96 S Φ Ψ a ∧ Sh (fun _ => False) W w [.blk b13 92 [.int .i64 0, .int .i64 0], .blk b12 44 [.int .i64 x.op, .int .i64 x.a, .int .i64 x.b, .int .i64 x.c], .ro [.mapA encV p c t]]) ∨ (S 8 = true ∧ S 9 = false ∧ S 10 = false ∧ S 11 = false ∧ ∃ (b7008 : Nat), FrI 96 S Φ (Ψ ++ [(8, 6, .pointer (some ⟨b7008, 0, none⟩))]) a ∧ Sh (fun _ => False) W w [.blk b7008 92 [.int .i64 0, .int .i64 0], .blk b13 92 [.int .i64 0, .int .i64 0], .blk b12 44 [.int .i64 x.op, .int .i64 x.a, .int .i64 x.b, .int .i64 x.c], .ro [.mapA encV p c t]]) ∨ (S 8 = false ∧ S 9 = true ∧ S 10 = false ∧ S 11 = false ∧ ∃ (b7009 : Nat), FrI 96 S Φ (Ψ ++ [(9, 7, .pointer (some ⟨b7009, 0, none⟩))]) a ∧ Sh (fun _ => False) W w [.blk b7009 92 [.int .i64 0, .int .i64 0], .blk b13 92 [.int .i64 0, .int .i64 0], .blk b12 44 [.int .i64 x.op, .int .i64 x.a, .int .i64 x.b, .int .i64 x.c], .ro [.mapA encV p c t]]) ∨ (S 8 = true ∧ S 9 = true ∧ S 10 = false ∧ S 11 = false ∧ ∃ (b7008 : Nat) (b7009 : Nat), FrI 96 S Φ (Ψ ++ [(8, 6, .pointer (some ⟨b7008, 0, none⟩)), (9, 7, .pointer (some ⟨b7009, 0, none⟩))]) a ∧ Sh (fun _ => False) W w [.blk b7009 92 [.int .i64 0, .int .i64 0], .blk b7008 92 [.int .i64 0, .int .i64 0], .blk b13 92 [.int .i64 0, .int .i64 0], .blk b12 44 [.int .i64 x.op, .int .i64 x.a, .int .i64 x.b, .int .i64 x.c], .ro [.mapA encV p c t]]) ∨ (S 8 = true ∧ S 9 = true ∧ S 10 = true ∧ S 11 = false ∧ ∃ (b7008 : Nat) (b7009 : Nat), FrI 96 S Φ (Ψ ++ [(8, 6, .pointer (some ⟨b7008, 0, none⟩)), (9, 7, .pointer (some ⟨b7009, 0, none⟩))]) a ∧ Sh (fun _ => False) W w [.blk b7009 92 [.int .i64 0, .int .i64 0], .blk b7008 92 [.int .i64 ((gvD x.b c).s), .int .i64 ((gvD x.b c).n)], .blk b13 92 [.int .i64 0, .int .i64 0], .blk b12 44 [.int .i64 x.op, .int .i64 x.a, .int .i64 x.b, .int .i64 x.c], .ro [.mapA encV p c t]]) ∨ (S 8 = true ∧ S 9 = true ∧ S 10 = true ∧ S 11 = true ∧ ∃ (b7008 : Nat) (b7009 : Nat), FrI 96 S Φ (Ψ ++ [(8, 6, .pointer (some ⟨b7008, 0, none⟩)), (9, 7, .pointer (some ⟨b7009, 0, none⟩))]) a ∧ Sh (fun _ => False) W w [.blk b7009 92 [.int .i64 ((gvD x.c c).s), .int .i64 ((gvD x.c c).n)], .blk b7008 92 [.int .i64 ((gvD x.b c).s), .int .i64 ((gvD x.b c).n)], .blk b13 92 [.int .i64 0, .int .i64 0], .blk b12 44 [.int .i64 x.op, .int .i64 x.a, .int .i64 x.b, .int .i64 x.c], .ro [.mapA encV p c t]])) [(1, .map p), (2, .pointer (some ⟨b12, 0, none⟩)), (4, .pointer (some ⟨b13, 0, none⟩))] [(0, 29, .map p), (1, 30, .pointer (some ⟨b12, 2, none⟩)), (2, 31, .int .i64 x.b), (3, 32, .agg #[.int .i64 ((gvD x.b c).s), .int .i64 ((gvD x.b c).n)]), (4, 33, .map p), (5, 34, .pointer (some ⟨b12, 3, none⟩)), (6, 35, .int .i64 x.c), (7, 36, .agg #[.int .i64 ((gvD x.c c).s), .int .i64 ((gvD x.c c).n)])]) (by kernel_rfl) (by kernel_rfl) (Or.inl (⟨rfl, rfl, rfl, rfl, FrI.start h46.fr, h46.sh.drew⟩)) ?_ ?_; clear h44
 ·intro S i o ho hSi hcl hdep a w hI
  clear h46
  rcases i with _ | _ | _ | _ | _ | _ | _ | _ | _ | _ | _ | _ | i
  ·obtain rfl : _ = o := Option.some.inj ho
   rcases hI with ⟨ν8, ν9, ν10, ν11, φ, ς⟩ | ⟨ν8, ν9, ν10, ν11, b7008, φ, ς⟩ | ⟨ν8, ν9, ν10, ν11, b7009, φ, ς⟩ | ⟨ν8, ν9, ν10, ν11, b7008, b7009, φ, ς⟩ | ⟨_, _, ν10, _⟩ | ⟨_, _, ν10, _⟩
   ·exact sq φ φ.fr0 ς (r_move rfl rfl) 0 rfl rfl rfl rfl rfl rfl fun a hg => Or.inl (⟨un rfl ν8, un rfl ν9, un rfl ν10, un rfl ν11, hg, ς⟩)
   ·exact sq φ φ.fr0 ς (r_move rfl rfl) 0 rfl rfl rfl rfl rfl rfl fun a hg => Or.inr (Or.inl (⟨un rfl ν8, un rfl ν9, un rfl ν10, un rfl ν11, b7008, hg, ς⟩))
   ·exact sq φ φ.fr0 ς (r_move rfl rfl) 0 rfl rfl rfl rfl rfl rfl fun a hg => Or.inr (Or.inr (Or.inl (⟨un rfl ν8, un rfl ν9, un rfl ν10, un rfl ν11, b7009, hg, ς⟩)))
   ·exact sq φ φ.fr0 ς (r_move rfl rfl) 0 rfl rfl rfl rfl rfl rfl fun a hg => Or.inr (Or.inr (Or.inr (Or.inl (⟨un rfl ν8, un rfl ν9, un rfl ν10, un rfl ν11, b7008, b7009, hg, ς⟩))))
   ·exact no_way (cA hcl 10 0 rfl ν10) hSi
   ·exact no_way (cA hcl 10 0 rfl ν10) hSi
  ·obtain rfl : _ = o := Option.some.inj ho
   rcases hI with ⟨ν8, ν9, ν10, ν11, φ, ς⟩ | ⟨ν8, ν9, ν10, ν11, b7008, φ, ς⟩ | ⟨ν8, ν9, ν10, ν11, b7009, φ, ς⟩ | ⟨ν8, ν9, ν10, ν11, b7008, b7009, φ, ς⟩ | ⟨_, _, ν10, _⟩ | ⟨_, _, ν10, _⟩
   ·exact sq φ φ.fr0 ς (r_fieldB (r := 2) fl_44_2 rfl rfl rfl) 1 rfl rfl rfl rfl rfl rfl fun a hg => Or.inl (⟨un rfl ν8, un rfl ν9, un rfl ν10, un rfl ν11, hg, ς⟩)
   ·exact sq φ φ.fr0 ς (r_fieldB (r := 2) fl_44_2 rfl rfl rfl) 1 rfl rfl rfl rfl rfl rfl fun a hg => Or.inr (Or.inl (⟨un rfl ν8, un rfl ν9, un rfl ν10, un rfl ν11, b7008, hg, ς⟩))
   ·exact sq φ φ.fr0 ς (r_fieldB (r := 2) fl_44_2 rfl rfl rfl) 1 rfl rfl rfl rfl rfl rfl fun a hg => Or.inr (Or.inr (Or.inl (⟨un rfl ν8, un rfl ν9, un rfl ν10, un rfl ν11, b7009, hg, ς⟩)))
   ·exact sq φ φ.fr0 ς (r_fieldB (r := 2) fl_44_2 rfl rfl rfl) 1 rfl rfl rfl rfl rfl rfl fun a hg => Or.inr (Or.inr (Or.inr (Or.inl (⟨un rfl ν8, un rfl ν9, un rfl ν10, un rfl ν11, b7008, b7009, hg, ς⟩))))
   ·exact no_way (cA hcl 10 1 rfl ν10) hSi
   ·exact no_way (cA hcl 10 1 rfl ν10) hSi
  ·obtain rfl : _ = o := Option.some.inj ho
   have hd1 : S 1 = true := depAt hdep 0 rfl rfl
   rcases hI with ⟨ν8, ν9, ν10, ν11, φ, ς⟩ | ⟨ν8, ν9, ν10, ν11, b7008, φ, ς⟩ | ⟨ν8, ν9, ν10, ν11, b7009, φ, ς⟩ | ⟨ν8, ν9, ν10, ν11, b7008, b7009, φ, ς⟩ | ⟨_, _, ν10, _⟩ | ⟨_, _, ν10, _⟩
   ·exact sq φ (Fr.cons φ.fr0 (φ.at_ 1 1 30 _ rfl hd1)) ς (r_ldb (i := 1) ti_3 rfl rfl rfl rfl) 2 rfl rfl rfl rfl rfl rfl fun a hg => Or.inl (⟨un rfl ν8, un rfl ν9, un rfl ν10, un rfl ν11, hg, ς⟩)
   ·exact sq φ (Fr.cons φ.fr0 (φ.at_ 1 1 30 _ rfl hd1)) ς (r_ldb (i := 2) ti_3 rfl rfl rfl rfl) 2 rfl rfl rfl rfl rfl rfl fun a hg => Or.inr (Or.inl (⟨un rfl ν8, un rfl ν9, un rfl ν10, un rfl ν11, b7008, hg, ς⟩))
   ·exact sq φ (Fr.cons φ.fr0 (φ.at_ 1 1 30 _ rfl hd1)) ς (r_ldb (i := 2) ti_3 rfl rfl rfl rfl) 2 rfl rfl rfl rfl rfl rfl fun a hg => Or.inr (Or.inr (Or.inl (⟨un rfl ν8, un rfl ν9, un rfl ν10, un rfl ν11, b7009, hg, ς⟩)))
   ·exact sq φ (Fr.cons φ.fr0 (φ.at_ 1 1 30 _ rfl hd1)) ς (r_ldb (i := 3) ti_3 rfl rfl rfl rfl) 2 rfl rfl rfl rfl rfl rfl fun a hg => Or.inr (Or.inr (Or.inr (Or.inl (⟨un rfl ν8, un rfl ν9, un rfl ν10, un rfl ν11, b7008, b7009, hg, ς⟩))))
   ·exact no_way (cA hcl 10 2 rfl ν10) hSi
   ·exact no_way (cA hcl 10 2 rfl ν10) hSi
  ·obtain rfl : _ = o := Option.some.inj ho
   have hd0 : S 0 = true := depAt hdep 0 rfl rfl
   have hd2 : S 2 = true := depAt hdep 1 rfl rfl
   rcases hI with ⟨ν8, ν9, ν10, ν11, φ, ς⟩ | ⟨ν8, ν9, ν10, ν11, b7008, φ, ς⟩ | ⟨ν8, ν9, ν10, ν11, b7009, φ, ς⟩ | ⟨ν8, ν9, ν10, ν11, b7008, b7009, φ, ς⟩ | ⟨_, _, ν10, _⟩ | ⟨_, _, ν10, _⟩
   ·exact sq φ (Fr.cons (Fr.cons φ.fr0 (φ.at_ 0 0 29 _ rfl hd0)) (φ.at_ 2 2 31 _ rfl hd2)) ς (r_lookA0v (k := x.b) (c := c) mt_90 rfl rfl rfl (fun w h => (h.ok _ (List.mem_of_getElem? (i := 2) rfl) _ (List.mem_cons_self ..)))) 3 rfl rfl rfl rfl rfl rfl fun a hg => Or.inl (⟨un rfl ν8, un rfl ν9, un rfl ν10, un rfl ν11, hg, ς⟩)
   ·exact sq φ (Fr.cons (Fr.cons φ.fr0 (φ.at_ 0 0 29 _ rfl hd0)) (φ.at_ 2 2 31 _ rfl hd2)) ς (r_lookA0v (k := x.b) (c := c) mt_90 rfl rfl rfl (fun w h => (h.ok _ (List.mem_of_getElem? (i := 3) rfl) _ (List.mem_cons_self ..)))) 3 rfl rfl rfl rfl rfl rfl fun a hg => Or.inr (Or.inl (⟨un rfl ν8, un rfl ν9, un rfl ν10, un rfl ν11, b7008, hg, ς⟩))
   ·exact sq φ (Fr.cons (Fr.cons φ.fr0 (φ.at_ 0 0 29 _ rfl hd0)) (φ.at_ 2 2 31 _ rfl hd2)) ς (r_lookA0v (k := x.b) (c := c) mt_90 rfl rfl rfl (fun w h => (h.ok _ (List.mem_of_getElem? (i := 3) rfl) _ (List.mem_cons_self ..)))) 3 rfl rfl rfl rfl rfl rfl fun a hg => Or.inr (Or.inr (Or.inl (⟨un rfl ν8, un rfl ν9, un rfl ν10, un rfl ν11, b7009, hg, ς⟩)))
   ·exact sq φ (Fr.cons (Fr.cons φ.fr0 (φ.at_ 0 0 29 _ rfl hd0)) (φ.at_ 2 2 31 _ rfl hd2)) ς (r_lookA0v (k := x.b) (c := c) mt_90 rfl rfl rfl (fun w h => (h.ok _ (List.mem_of_getElem? (i := 4) rfl) _ (List.mem_cons_self ..)))) 3 rfl rfl rfl rfl rfl rfl fun a hg => Or.inr (Or.inr (Or.inr (Or.inl (⟨un rfl ν8, un rfl ν9, un rfl ν10, un rfl ν11, b7008, b7009, hg, ς⟩))))
   ·exact no_way (cA hcl 10 3 rfl ν10) hSi
   ·exact no_way (cA hcl 10 3 rfl ν10) hSi
  ·obtain rfl : _ = o := Option.some.inj ho
   rcases hI with ⟨ν8, ν9, ν10, ν11, φ, ς⟩ | ⟨ν8, ν9, ν10, ν11, b7008, φ, ς⟩ | ⟨ν8, ν9, ν10, ν11, b7009, φ, ς⟩ | ⟨ν8, ν9, ν10, ν11, b7008, b7009, φ, ς⟩ | ⟨ν8, ν9, ν10, ν11, b7008, b7009, φ, ς⟩ | ⟨_, _, _, ν11, _⟩
   ·exact sq φ φ.fr0 ς (r_move rfl rfl) 4 rfl rfl rfl rfl rfl rfl fun a hg => Or.inl (⟨un rfl ν8, un rfl ν9, un rfl ν10, un rfl ν11, hg, ς⟩)
   ·exact sq φ φ.fr0 ς (r_move rfl rfl) 4 rfl rfl rfl rfl rfl rfl fun a hg => Or.inr (Or.inl (⟨un rfl ν8, un rfl ν9, un rfl ν10, un rfl ν11, b7008, hg, ς⟩))
   ·exact sq φ φ.fr0 ς (r_move rfl rfl) 4 rfl rfl rfl rfl rfl rfl fun a hg => Or.inr (Or.inr (Or.inl (⟨un rfl ν8, un rfl ν9, un rfl ν10, un rfl ν11, b7009, hg, ς⟩)))
   ·exact sq φ φ.fr0 ς (r_move rfl rfl) 4 rfl rfl rfl rfl rfl rfl fun a hg => Or.inr (Or.inr (Or.inr (Or.inl (⟨un rfl ν8, un rfl ν9, un rfl ν10, un rfl ν11, b7008, b7009, hg, ς⟩))))
   ·exact sq φ φ.fr0 ς (r_move rfl rfl) 4 rfl rfl rfl rfl rfl rfl fun a hg => Or.inr (Or.inr (Or.inr (Or.inr (Or.inl (⟨un rfl ν8, un rfl ν9, un rfl ν10, un rfl ν11, b7008, b7009, hg, ς⟩)))))
   ·exact no_way (cA hcl 11 4 rfl ν11) hSi
  ·obtain rfl : _ = o := Option.some.inj ho
   rcases hI with ⟨ν8, ν9, ν10, ν11, φ, ς⟩ | ⟨ν8, ν9, ν10, ν11, b7008, φ, ς⟩ | ⟨ν8, ν9, ν10, ν11, b7009, φ, ς⟩ | ⟨ν8, ν9, ν10, ν11, b7008, b7009, φ, ς⟩ | ⟨ν8, ν9, ν10, ν11, b7008, b7009, φ, ς⟩ | ⟨_, _, _, ν11, _⟩
   ·exact sq φ φ.fr0 ς (r_fieldB (r := 3) fl_44_3 rfl rfl rfl) 5 rfl rfl rfl rfl rfl rfl fun a hg => Or.inl (⟨un rfl ν8, un rfl ν9, un rfl ν10, un rfl ν11, hg, ς⟩)
   ·exact sq φ φ.fr0 ς (r_fieldB (r := 3) fl_44_3 rfl rfl rfl) 5 rfl rfl rfl rfl rfl rfl fun a hg => Or.inr (Or.inl (⟨un rfl ν8, un rfl ν9, un rfl ν10, un rfl ν11, b7008, hg, ς⟩))
   ·exact sq φ φ.fr0 ς (r_fieldB (r := 3) fl_44_3 rfl rfl rfl) 5 rfl rfl rfl rfl rfl rfl fun a hg => Or.inr (Or.inr (Or.inl (⟨un rfl ν8, un rfl ν9, un rfl ν10, un rfl ν11, b7009, hg, ς⟩)))
   ·exact sq φ φ.fr0 ς (r_fieldB (r := 3) fl_44_3 rfl rfl rfl) 5 rfl rfl rfl rfl rfl rfl fun a hg => Or.inr (Or.inr (Or.inr (Or.inl (⟨un rfl ν8, un rfl ν9, un rfl ν10, un rfl ν11, b7008, b7009, hg, ς⟩))))
   ·exact sq φ φ.fr0 ς (r_fieldB (r := 3) fl_44_3 rfl rfl rfl) 5 rfl rfl rfl rfl rfl rfl fun a hg => Or.inr (Or.inr (Or.inr (Or.inr (Or.inl (⟨un rfl ν8, un rfl ν9, un rfl ν10, un rfl ν11, b7008, b7009, hg, ς⟩)))))
   ·exact no_way (cA hcl 11 5 rfl ν11) hSi
  ·obtain rfl : _ = o := Option.some.inj ho
   have hd5 : S 5 = true := depAt hdep 0 rfl rfl
   rcases hI with ⟨ν8, ν9, ν10, ν11, φ, ς⟩ | ⟨ν8, ν9, ν10, ν11, b7008, φ, ς⟩ | ⟨ν8, ν9, ν10, ν11, b7009, φ, ς⟩ | ⟨ν8, ν9, ν10, ν11, b7008, b7009, φ, ς⟩ | ⟨ν8, ν9, ν10, ν11, b7008, b7009, φ, ς⟩ | ⟨_, _, _, ν11, _⟩
   ·exact sq φ (Fr.cons φ.fr0 (φ.at_ 5 5 34 _ rfl hd5)) ς (r_ldb (i := 1) ti_3 rfl rfl rfl rfl) 6 rfl rfl rfl rfl rfl rfl fun a hg => Or.inl (⟨un rfl ν8, un rfl ν9, un rfl ν10, un rfl ν11, hg, ς⟩)
   ·exact sq φ (Fr.cons φ.fr0 (φ.at_ 5 5 34 _ rfl hd5)) ς (r_ldb (i := 2) ti_3 rfl rfl rfl rfl) 6 rfl rfl rfl rfl rfl rfl fun a hg => Or.inr (Or.inl (⟨un rfl ν8, un rfl ν9, un rfl ν10, un rfl ν11, b7008, hg, ς⟩))
   ·exact sq φ (Fr.cons φ.fr0 (φ.at_ 5 5 34 _ rfl hd5)) ς (r_ldb (i := 2) ti_3 rfl rfl rfl rfl) 6 rfl rfl rfl rfl rfl rfl fun a hg => Or.inr (Or.inr (Or.inl (⟨un rfl ν8, un rfl ν9, un rfl ν10, un rfl ν11, b7009, hg, ς⟩)))
   ·exact sq φ (Fr.cons φ.fr0 (φ.at_ 5 5 34 _ rfl hd5)) ς (r_ldb (i := 3) ti_3 rfl rfl rfl rfl) 6 rfl rfl rfl rfl rfl rfl fun a hg => Or.inr (Or.inr (Or.inr (Or.inl (⟨un rfl ν8, un rfl ν9, un rfl ν10, un rfl ν11, b7008, b7009, hg, ς⟩))))
   ·exact sq φ (Fr.cons φ.fr0 (φ.at_ 5 5 34 _ rfl hd5)) ς (r_ldb (i := 3) ti_3 rfl rfl rfl rfl) 6 rfl rfl rfl rfl rfl rfl fun a hg => Or.inr (Or.inr (Or.inr (Or.inr (Or.inl (⟨un rfl ν8, un rfl ν9, un rfl ν10, un rfl ν11, b7008, b7009, hg, ς⟩)))))
   ·exact no_way (cA hcl 11 6 rfl ν11) hSi
  ·obtain rfl : _ = o := Option.some.inj ho
   have hd4 : S 4 = true := depAt hdep 0 rfl rfl
   have hd6 : S 6 = true := depAt hdep 1 rfl rfl
   rcases hI with ⟨ν8, ν9, ν10, ν11, φ, ς⟩ | ⟨ν8, ν9, ν10, ν11, b7008, φ, ς⟩ | ⟨ν8, ν9, ν10, ν11, b7009, φ, ς⟩ | ⟨ν8, ν9, ν10, ν11, b7008, b7009, φ, ς⟩ | ⟨ν8, ν9, ν10, ν11, b7008, b7009, φ, ς⟩ | ⟨_, _, _, ν11, _⟩
   ·exact sq φ (Fr.cons (Fr.cons φ.fr0 (φ.at_ 4 4 33 _ rfl hd4)) (φ.at_ 6 6 35 _ rfl hd6)) ς (r_lookA0v (k := x.c) (c := c) mt_90 rfl rfl rfl (fun w h => (h.ok _ (List.mem_of_getElem? (i := 2) rfl) _ (List.mem_cons_self ..)))) 7 rfl rfl rfl rfl rfl rfl fun a hg => Or.inl (⟨un rfl ν8, un rfl ν9, un rfl ν10, un rfl ν11, hg, ς⟩)
   ·exact sq φ (Fr.cons (Fr.cons φ.fr0 (φ.at_ 4 4 33 _ rfl hd4)) (φ.at_ 6 6 35 _ rfl hd6)) ς (r_lookA0v (k := x.c) (c := c) mt_90 rfl rfl rfl (fun w h => (h.ok _ (List.mem_of_getElem? (i := 3) rfl) _ (List.mem_cons_self ..)))) 7 rfl rfl rfl rfl rfl rfl fun a hg => Or.inr (Or.inl (⟨un rfl ν8, un rfl ν9, un rfl ν10, un rfl ν11, b7008, hg, ς⟩))
   ·exact sq φ (Fr.cons (Fr.cons φ.fr0 (φ.at_ 4 4 33 _ rfl hd4)) (φ.at_ 6 6 35 _ rfl hd6)) ς (r_lookA0v (k := x.c) (c := c) mt_90 rfl rfl rfl (fun w h => (h.ok _ (List.mem_of_getElem? (i := 3) rfl) _ (List.mem_cons_self ..)))) 7 rfl rfl rfl rfl rfl rfl fun a hg => Or.inr (Or.inr (Or.inl (⟨un rfl ν8, un rfl ν9, un rfl ν10, un rfl ν11, b7009, hg, ς⟩)))
   ·exact sq φ (Fr.cons (Fr.cons φ.fr0 (φ.at_ 4 4 33 _ rfl hd4)) (φ.at_ 6 6 35 _ rfl hd6)) ς (r_lookA0v (k := x.c) (c := c) mt_90 rfl rfl rfl (fun w h => (h.ok _ (List.mem_of_getElem? (i := 4) rfl) _ (List.mem_cons_self ..)))) 7 rfl rfl rfl rfl rfl rfl fun a hg => Or.inr (Or.inr (Or.inr (Or.inl (⟨un rfl ν8, un rfl ν9, un rfl ν10, un rfl ν11, b7008, b7009, hg, ς⟩))))
   ·exact sq φ (Fr.cons (Fr.cons φ.fr0 (φ.at_ 4 4 33 _ rfl hd4)) (φ.at_ 6 6 35 _ rfl hd6)) ς (r_lookA0v (k := x.c) (c := c) mt_90 rfl rfl rfl (fun w h => (h.ok _ (List.mem_of_getElem? (i := 4) rfl) _ (List.mem_cons_self ..)))) 7 rfl rfl rfl rfl rfl rfl fun a hg => Or.inr (Or.inr (Or.inr (Or.inr (Or.inl (⟨un rfl ν8, un rfl ν9, un rfl ν10, un rfl ν11, b7008, b7009, hg, ς⟩)))))
   ·exact no_way (cA hcl 11 7 rfl ν11) hSi
  ·obtain rfl : _ = o := Option.some.inj ho
   rcases hI with ⟨ν8, ν9, ν10, ν11, φ, ς⟩ | ⟨ν8, _⟩ | ⟨ν8, ν9, ν10, ν11, b7009, φ, ς⟩ | ⟨ν8, _⟩ | ⟨ν8, _⟩ | ⟨ν8, _⟩
   ·have hs := St.mk φ.fr0 ς
    refine step_ex (x_alloc hs ti_92 rfl rfl rfl) (wanted_none rfl _) ?_
    rintro a84 w84 ⟨b84, h84⟩ ⟨v0, ht84⟩
    exact Or.inr (Or.inl (⟨upd_self _ _, un rfl ν9, un rfl ν10, un rfl ν11, b84, φ.stepW hcl hSi [0, 1, 2, 3, 4, 5, 6, 7] (by kernel_rfl) (by kernel_rfl) ht84 h84.fr.defers (h84.fr.at_ 6 _ rfl) 8 rfl rfl rfl rfl, (h84.sh.sel [0, 1, 2, 3] rfl)⟩))
   ·exact no_way ν8 hSi
   ·have hs := St.mk φ.fr0 ς
    refine step_ex (x_alloc hs ti_92 rfl rfl rfl) (wanted_none rfl _) ?_
    rintro a85 w85 ⟨b85, h85⟩ ⟨v0, ht85⟩
    exact Or.inr (Or.inr (Or.inr (Or.inl (⟨upd_self _ _, un rfl ν9, un rfl ν10, un rfl ν11, b85, b7009, φ.stepW hcl hSi [0, 1, 2, 3, 4, 5, 6, 7, 9] (by kernel_rfl) (by kernel_rfl) ht85 h85.fr.defers (h85.fr.at_ 6 _ rfl) 8 rfl rfl rfl rfl, (h85.sh.sel [1, 0, 2, 3, 4] rfl)⟩))))
   ·exact no_way ν8 hSi
   ·exact no_way ν8 hSi
   ·exact no_way ν8 hSi
  ·obtain rfl : _ = o := Option.some.inj ho
   rcases hI with ⟨ν8, ν9, ν10, ν11, φ, ς⟩ | ⟨ν8, ν9, ν10, ν11, b7008, φ, ς⟩ | ⟨_, ν9, _⟩ | ⟨_, ν9, _⟩ | ⟨_, ν9, _⟩ | ⟨_, ν9, _⟩
   ·have hs := St.mk φ.fr0 ς
    refine step_ex (x_alloc hs ti_92 rfl rfl rfl) (wanted_none rfl _) ?_
    rintro a86 w86 ⟨b86, h86⟩ ⟨v0, ht86⟩
    exact Or.inr (Or.inr (Or.inl (⟨un rfl ν8, upd_self _ _, un rfl ν10, un rfl ν11, b86, φ.stepW hcl hSi [0, 1, 2, 3, 4, 5, 6, 7] (by kernel_rfl) (by kernel_rfl) ht86 h86.fr.defers (h86.fr.at_ 7 _ rfl) 8 rfl rfl rfl rfl, (h86.sh.sel [0, 1, 2, 3] rfl)⟩)))
   ·have hs := St.mk φ.fr0 ς
    refine step_ex (x_alloc hs ti_92 rfl rfl rfl) (wanted_none rfl _) ?_
    rintro a87 w87 ⟨b87, h87⟩ ⟨v0, ht87⟩
    exact Or.inr (Or.inr (Or.inr (Or.inl (⟨un rfl ν8, upd_self _ _, un rfl ν10, un rfl ν11, b7008, b87, φ.stepW hcl hSi [0, 1, 2, 3, 4, 5, 6, 7, 8] (by kernel_rfl) (by kernel_rfl) ht87 h87.fr.defers (h87.fr.at_ 7 _ rfl) 9 rfl rfl rfl rfl, (h87.sh.sel [0, 1, 2, 3, 4] rfl)⟩))))
   ·exact no_way ν9 hSi
   ·exact no_way ν9 hSi
   ·exact no_way ν9 hSi
   ·exact no_way ν9 hSi
  ·obtain rfl : _ = o := Option.some.inj ho
   have hd8 : S 8 = true := depAt hdep 0 rfl rfl
   have hd3 : S 3 = true := depAt hdep 1 rfl rfl
   have hd9 : S 9 = true := depAt hdep 11 rfl rfl
   rcases hI with ⟨ν8, _⟩ | ⟨_, ν9, _⟩ | ⟨ν8, _⟩ | ⟨ν8, ν9, ν10, ν11, b7008, b7009, φ, ς⟩ | ⟨_, _, ν10, _⟩ | ⟨_, _, ν10, _⟩
   ·exact no_way hd8 ν8
   ·exact no_way hd9 ν9
   ·exact no_way hd8 ν8
   ·have hs := St.mk (Fr.cons (Fr.cons φ.fr0 (φ.at_ 3 3 32 _ rfl hd3)) (φ.at_ 8 8 6 _ rfl hd8)) ς
    refine step_ex (x_stb (i := 1) (vs := [.int .i64 ((gvD x.b c).s), .int .i64 ((gvD x.b c).n)]) (cs' := [.int .i64 ((gvD x.b c).s), .int .i64 ((gvD x.b c).n)]) hs ti_92 rfl rfl rfl rfl rfl rfl rfl (allOne_cons rfl (allOne_cons rfl allOne_nil)) (Nat.le_of_ble_eq_true rfl) rfl) (wanted_none rfl _) ?_
    rintro a88 w88 h88 ⟨v0, ht88⟩
    exact Or.inr (Or.inr (Or.inr (Or.inr (Or.inl (⟨un rfl ν8, un rfl ν9, upd_self _ _, un rfl ν11, b7008, b7009, φ.noneW hcl hSi [0, 1, 2, 3, 4, 5, 6, 7, 8, 9] (by kernel_rfl) (by kernel_rfl) ht88 h88.fr.defers rfl, (h88.sh.sel [0, 1, 2, 3, 4] rfl)⟩)))))
   ·exact no_way ν10 hSi
   ·exact no_way ν10 hSi
  ·obtain rfl : _ = o := Option.some.inj ho
   have hd9 : S 9 = true := depAt hdep 0 rfl rfl
   have hd7 : S 7 = true := depAt hdep 1 rfl rfl
   have hd10 : S 10 = true := depAt hdep 2 rfl rfl
   have hd8 : S 8 = true := depAt hdep 11 rfl rfl
   rcases hI with ⟨ν8, _⟩ | ⟨_, ν9, _⟩ | ⟨ν8, _⟩ | ⟨_, _, ν10, _⟩ | ⟨ν8, ν9, ν10, ν11, b7008, b7009, φ, ς⟩ | ⟨_, _, _, ν11, _⟩
   ·exact no_way hd8 ν8
   ·exact no_way hd9 ν9
   ·exact no_way hd8 ν8
   ·exact no_way hd10 ν10
   ·have hs := St.mk (Fr.cons (Fr.cons φ.fr0 (φ.at_ 7 7 36 _ rfl hd7)) (φ.at_ 9 9 7 _ rfl hd9)) ς
    refine step_ex (x_stb (i := 0) (vs := [.int .i64 ((gvD x.c c).s), .int .i64 ((gvD x.c c).n)]) (cs' := [.int .i64 ((gvD x.c c).s), .int .i64 ((gvD x.c c).n)]) hs ti_92 rfl rfl rfl rfl rfl rfl rfl (allOne_cons rfl (allOne_cons rfl allOne_nil)) (Nat.le_of_ble_eq_true rfl) rfl) (wanted_none rfl _) ?_
    rintro a89 w89 h89 ⟨v0, ht89⟩
    exact Or.inr (Or.inr (Or.inr (Or.inr (Or.inr (⟨un rfl ν8, un rfl ν9, un rfl ν10, upd_self _ _, b7008, b7009, φ.noneW hcl hSi [0, 1, 2, 3, 4, 5, 6, 7, 8, 9] (by kernel_rfl) (by kernel_rfl) ht89 h89.fr.defers rfl, (h89.sh.sel [0, 1, 2, 3, 4] rfl)⟩)))))
   ·exact no_way ν11 hSi
  · simp at ho
 intro S hall a w hI
 clear h46
 rcases hI with ⟨ν8, ν9, ν10, ν11, φ, ς⟩ | ⟨ν8, ν9, ν10, ν11, b7008, φ, ς⟩ | ⟨ν8, ν9, ν10, ν11, b7009, φ, ς⟩ | ⟨ν8, ν9, ν10, ν11, b7008, b7009, φ, ς⟩ | ⟨ν8, ν9, ν10, ν11, b7008, b7009, φ, ς⟩ | ⟨ν8, ν9, ν10, ν11, b7008, b7009, φ, ς⟩
 · exact no_way (hall 8 (by decide)) ν8
 · exact no_way (hall 9 (by decide)) ν9
 · exact no_way (hall 8 (by decide)) ν8
 · exact no_way (hall 10 (by decide)) ν10
 · exact no_way (hall 11 (by decide)) ν11
 have h90 : St 96 (fun _ => False) W a w _ _ := ⟨(Fr.cons (Fr.cons φ.fr0 (φ.at_ 8 8 6 _ rfl (hall 8 (by decide)))) (φ.at_ 9 9 7 _ rfl (hall 9 (by decide)))), ς⟩
 clear hall φ ς ν8 ν9 ν10 ν11
 refine gG h90<|hK k45<|gK fun _ k91 => gB<|sK fun _ k92 => gRn (ofB fl_92_0 rfl<|olB 1 ti_3 rfl rfl<|oeqI _ _ rfl<|oM 1 rfl<|.nl)<|?_; clear h90
 rcases dsp ((gvD x.b c).s = 0) with ⟨hb93, hp93⟩ | ⟨hb93, hp93⟩
 ·skip
  refine gRn (oKs 3 hb93 rfl rfl<|opT hb93 rfl<|oM 1 rfl<|.nl)<|nK k92<|gcT rfl rfl<|sK fun _ k94 => gRn (oV (r_build (cs := [.int .i64 0, .int .i64 0]) rfl rfl (by kernel_rfl)) rfl<|.nl)<|gsw 2 ti_92 rfl rfl rfl<|gRn (oM 1 rfl<|.nl)<|nK k94<|gR<|uB<|uT<|fun a96 w96 h96 => x_retct (fn := Try.f42) (t := 4) (u := 5) (i := 2) ti_92 rfl h96 rfl rfl rfl rfl ?_
  have e9 : rkD x R c = (⟨0, 0⟩ : VV) := by first | exact rkD_1 hb hc (by omega) | exact rkD_2 hb hc (by omega) | exact rkD_n hb hc (by omega) | exact rkD_0 hb hc (by omega) (by omega) | exact rkD_a hb hc (by omega) (by omega) (by omega) | exact rkD_v hb hc (by omega) (by omega) (by omega) hnn
  refine ⟨?_, (h96.sh.sel [] rfl)⟩
  first | (rw [e9, decide_eq_true (show 1 ≤ x.op ∧ x.op ≤ 7 by omega)]; rfl) | (rw [e9, decide_eq_false (show ¬ (1 ≤ x.op ∧ x.op ≤ 7) by omega)]; rfl)
 refine gRn (oG hb93 (r_fieldB (r := 0) fl_92_0 rfl rfl rfl) rfl<|oG hb93 (r_ldb (i := 0) ti_3 rfl rfl rfl rfl) rfl<|oG hb93 (r_eqlI (p := (gvD x.c c).s) (q := 0) rfl rfl rfl) rfl<|opF hb93 rfl<|oM 1 rfl<|.nl)<|nK k92<|gcd rfl (fun hb97 hp97 => ?_) fun hb97 hp97 => ?_
 ·skip
  refine sK fun _ k98 => gRn (oV (r_build (cs := [.int .i64 0, .int .i64 0]) rfl rfl (by kernel_rfl)) rfl<|.nl)<|gsw 2 ti_92 rfl rfl rfl<|gRn (oM 1 rfl<|.nl)<|nK k98<|gR<|uB<|uT<|fun a100 w100 h100 => x_retct (fn := Try.f42) (t := 4) (u := 5) (i := 2) ti_92 rfl h100 rfl rfl rfl rfl ?_
  have e9 : rkD x R c = (⟨0, 0⟩ : VV) := by first | exact rkD_1 hb hc (by omega) | exact rkD_2 hb hc (by omega) | exact rkD_n hb hc (by omega) | exact rkD_0 hb hc (by omega) (by omega) | exact rkD_a hb hc (by omega) (by omega) (by omega) | exact rkD_v hb hc (by omega) (by omega) (by omega) hnn
  refine ⟨?_, (h100.sh.sel [] rfl)⟩
  first | (rw [e9, decide_eq_true (show 1 ≤ x.op ∧ x.op ≤ 7 by omega)]; rfl) | (rw [e9, decide_eq_false (show ¬ (1 ≤ x.op ∧ x.op ≤ 7) by omega)]; rfl)
 refine sK fun _ k101 => gRn (ofB fl_92_0 rfl<|olB 1 ti_3 rfl rfl<|oeqI _ _ rfl<|oM 1 rfl<|.nl)<|?_
 rcases dsp ((gvD x.b c).s = 2) with ⟨hb102, hp102⟩ | ⟨hb102, hp102⟩
 ·skip
  refine gRn (oKs 3 hb102 rfl rfl<|opT hb102 rfl<|oM 1 rfl<|.nl)<|nK k101<|gcT rfl rfl<|sK fun _ k103 => gRn (oV (r_build (cs := [.int .i64 2, .int .i64 0]) rfl rfl (by kernel_rfl)) rfl<|.nl)<|gsw 2 ti_92 rfl rfl rfl<|gRn (oM 1 rfl<|.nl)<|nK k103<|gF [4, 5] rfl<|gR<|uB<|uT<|fun a105 w105 h105 => x_retct (fn := Try.f42) (t := 4) (u := 5) (i := 2) ti_92 rfl h105 rfl rfl rfl rfl ?_
  have e9 : rkD x R c = (⟨2, 0⟩ : VV) := by first | exact rkD_1 hb hc (by omega) | exact rkD_2 hb hc (by omega) | exact rkD_n hb hc (by omega) | exact rkD_0 hb hc (by omega) (by omega) | exact rkD_a hb hc (by omega) (by omega) (by omega) | exact rkD_v hb hc (by omega) (by omega) (by omega) hnn
  refine ⟨?_, (h105.sh.sel [] rfl)⟩
  first | (rw [e9, decide_eq_true (show 1 ≤ x.op ∧ x.op ≤ 7 by omega)]; rfl) | (rw [e9, decide_eq_false (show ¬ (1 ≤ x.op ∧ x.op ≤ 7) by omega)]; rfl)
 refine gRn (oG hb102 (r_fieldB (r := 0) fl_92_0 rfl rfl rfl) rfl<|oG hb102 (r_ldb (i := 0) ti_3 rfl rfl rfl rfl) rfl<|oG hb102 (r_eqlI (p := (gvD x.c c).s) (q := 2) rfl rfl rfl) rfl<|opF hb102 rfl<|oM 1 rfl<|.nl)<|nK k101<|gcd rfl (fun hb106 hp106 => ?_) fun hb106 hp106 => ?_
 ·skip
  refine sK fun _ k107 => gRn (oV (r_build (cs := [.int .i64 2, .int .i64 0]) rfl rfl (by kernel_rfl)) rfl<|.nl)<|gsw 2 ti_92 rfl rfl rfl<|gRn (oM 1 rfl<|.nl)<|nK k107<|gF [4, 5] rfl<|gR<|uB<|uT<|fun a109 w109 h109 => x_retct (fn := Try.f42) (t := 4) (u := 5) (i := 2) ti_92 rfl h109 rfl rfl rfl rfl ?_
  have e9 : rkD x R c = (⟨2, 0⟩ : VV) := by first | exact rkD_1 hb hc (by omega) | exact rkD_2 hb hc (by omega) | exact rkD_n hb hc (by omega) | exact rkD_0 hb hc (by omega) (by omega) | exact rkD_a hb hc (by omega) (by omega) (by omega) | exact rkD_v hb hc (by omega) (by omega) (by omega) hnn
  refine ⟨?_, (h109.sh.sel [] rfl)⟩
  first | (rw [e9, decide_eq_true (show 1 ≤ x.op ∧ x.op ≤ 7 by omega)]; rfl) | (rw [e9, decide_eq_false (show ¬ (1 ≤ x.op ∧ x.op ≤ 7) by omega)]; rfl)
 refine gS<|hK k91<|sG (oM 1 rfl<|.nl)<|fun a111 w111 h111 => x_seq (fun a w => ∃ (nn : Int), (nn = arV x.op (gvD x.b c).n (gvD x.c c).n) ∧ St 96 (fun _ => False) W a w [(4, .pointer (some ⟨b13, 0, none⟩)), (8, .int .i64 nn)] [.blk b7009 92 [.int .i64 ((gvD x.c c).s), .int .i64 ((gvD x.c c).n)], .blk b7008 92 [.int .i64 ((gvD x.b c).s), .int .i64 ((gvD x.b c).n)], .blk b13 92 [.int .i64 0, .int .i64 0], .blk b12 44 [.int .i64 x.op, .int .i64 x.a, .int .i64 x.b, .int .i64 x.c], .ro [.mapA encV p c t]]) ?_ ?_
 ·refine gG h111<|sG (ofB fl_44_0 rfl<|olB 3 ti_3 rfl rfl<|.nl)<|gB<|sG (oeqI _ _ rfl<|oM 1 rfl<|.nl)<|gF [4, 6, 7, 58, 65] rfl<|?_; clear h111
  refine gcd rfl (fun hb114 hp114 => ?_) fun hb114 hp114 => ?_
  ·skip
   refine gL<|gRn (ofB fl_92_1 rfl<|olB 1 ti_3 rfl rfl<|ofB fl_92_1 rfl<|olB 0 ti_3 rfl rfl<|oV (r_addW (p := (gvD x.b c).n) (q := (gvD x.c c).n) rfl rfl rfl) rfl<|oM 1 rfl<|.nl)<|nN<|fun a115 w115 h115 => x_join (Q := fun _ _ _ => False) ⟨wrap64 (((gvD x.b c).n) + ((gvD x.c c).n)), ?_, h115.nf ⟨rfl, rfl, trivial⟩⟩
   · first | exact arV_3 (x := x) _ _ (by omega) | exact arV_4 (x := x) _ _ (by omega) | exact arV_5 (x := x) _ _ (by omega) | exact arV_6 (x := x) _ _ (by omega) | exact arV_7 (x := x) _ _ (by omega)
  refine sG (oeqI _ _ rfl<|oM 1 rfl<|.nl)<|gcd rfl (fun hb117 hp117 => ?_) fun hb117 hp117 => ?_
  ·skip
   refine gL<|gRn (ofB fl_92_1 rfl<|olB 1 ti_3 rfl rfl<|ofB fl_92_1 rfl<|olB 0 ti_3 rfl rfl<|oV (r_subW (p := (gvD x.b c).n) (q := (gvD x.c c).n) rfl rfl rfl) rfl<|oM 1 rfl<|.nl)<|nN<|fun a118 w118 h118 => x_join (Q := fun _ _ _ => False) ⟨wrap64 (((gvD x.b c).n) - ((gvD x.c c).n)), ?_, h118.nf ⟨rfl, rfl, trivial⟩⟩
   · first | exact arV_3 (x := x) _ _ (by omega) | exact arV_4 (x := x) _ _ (by omega) | exact arV_5 (x := x) _ _ (by omega) | exact arV_6 (x := x) _ _ (by omega) | exact arV_7 (x := x) _ _ (by omega)
  refine sG (oeqI _ _ rfl<|oM 1 rfl<|.nl)<|gcd rfl (fun hb120 hp120 => ?_) fun hb120 hp120 => ?_
  ·skip
   refine gL<|gRn (ofB fl_92_1 rfl<|olB 1 ti_3 rfl rfl<|ofB fl_92_1 rfl<|olB 0 ti_3 rfl rfl<|oV (r_mulW (p := (gvD x.b c).n) (q := (gvD x.c c).n) rfl rfl rfl) rfl<|oM 1 rfl<|.nl)<|nN<|fun a121 w121 h121 => x_join (Q := fun _ _ _ => False) ⟨wrap64 (((gvD x.b c).n) * ((gvD x.c c).n)), ?_, h121.nf ⟨rfl, rfl, trivial⟩⟩
   · first | exact arV_3 (x := x) _ _ (by omega) | exact arV_4 (x := x) _ _ (by omega) | exact arV_5 (x := x) _ _ (by omega) | exact arV_6 (x := x) _ _ (by omega) | exact arV_7 (x := x) _ _ (by omega)
  refine sG (oeqI _ _ rfl<|oM 1 rfl<|.nl)<|gcd rfl (fun hb123 hp123 => ?_) fun hb123 hp123 => ?_
  ·skip
   refine gL<|gRn (ofB fl_92_1 rfl<|olB 1 ti_3 rfl rfl<|ofB fl_92_1 rfl<|olB 0 ti_3 rfl rfl<|oltI _ _ rfl<|.nl)<|gP (fun _ _ h_ => xCl h_ bd_61 rfl (obit_c (decide ((gvD x.b c).n < (gvD x.c c).n)) _)) rfl<|gRn (oM 1 rfl<|.nl)<|nN<|fun a125 w125 h125 => x_join (Q := fun _ _ _ => False) ⟨(if decide ((gvD x.b c).n < (gvD x.c c).n) = true then 1 else 0), ?_, h125.nf ⟨rfl, rfl, trivial⟩⟩
   · first | exact arV_3 (x := x) _ _ (by omega) | exact arV_4 (x := x) _ _ (by omega) | exact arV_5 (x := x) _ _ (by omega) | exact arV_6 (x := x) _ _ (by omega) | exact arV_7 (x := x) _ _ (by omega)
  refine gL<|gRn (ofB fl_92_1 rfl<|olB 1 ti_3 rfl rfl<|ofB fl_92_1 rfl<|olB 0 ti_3 rfl rfl<|oeqI _ _ rfl<|.nl)<|gP (fun _ _ h_ => xCl h_ bd_61 rfl (obit_c (decide ((gvD x.b c).n = (gvD x.c c).n)) _)) rfl<|gRn (oM 1 rfl<|.nl)<|nN<|fun a127 w127 h127 => x_join (Q := fun _ _ _ => False) ⟨(if decide ((gvD x.b c).n = (gvD x.c c).n) = true then 1 else 0), ?_, h127.nf ⟨rfl, rfl, trivial⟩⟩
  · first | exact arV_3 (x := x) _ _ (by omega) | exact arV_4 (x := x) _ _ (by omega) | exact arV_5 (x := x) _ _ (by omega) | exact arV_6 (x := x) _ _ (by omega) | exact arV_7 (x := x) _ _ (by omega)
 clear h111
 rintro a128 w128 ⟨nn, hnn, h128⟩
 refine gG h128<|sK fun _ k129 => gRn (oM 1 rfl<|oV (r_build (cs := [.int .i64 1, .int .i64 nn]) rfl rfl (by kernel_rfl)) rfl<|.nl)<|gsw 2 ti_92 rfl rfl rfl<|gRn (oM 1 rfl<|.nl)<|nK k129<|gR<|fun a131 w131 h131 => x_retct (fn := Try.f42) (t := 4) (u := 5) (i := 2) ti_92 rfl h131 rfl rfl rfl rfl ?_; clear h128
 have e9 : rkD x R c = (⟨1, nn⟩ : VV) := by first | exact rkD_1 hb hc (by omega) | exact rkD_2 hb hc (by omega) | exact rkD_n hb hc (by omega) | exact rkD_0 hb hc (by omega) (by omega) | exact rkD_a hb hc (by omega) (by omega) (by omega) | exact rkD_v hb hc (by omega) (by omega) (by omega) hnn
 refine ⟨?_, (h131.sh.sel [] rfl)⟩
 first | (rw [e9, decide_eq_true (show 1 ≤ x.op ∧ x.op ≤ 7 by omega)]; rfl) | (rw [e9, decide_eq_false (show ¬ (1 ≤ x.op ∧ x.op ≤ 7) by omega)]; rfl)

end Go.Proofs.Ytmgikmjmdppfmaa
