/-
  What always is one number: the document reckons it.
-/
import Derived.Test.YtmgikmjmdppfmaaE5
section
namespace Go.Proofs.Ytmgikmjmdppfmaa
open Go.RowKit
set_option linter.unusedSimpArgs false
set_option linter.unusedVariables false

section
variable {x : Ins} {e : List VV}
theorem rv_1 (h : x.op = 1) : rkV x e = ⟨1, x.b⟩ := by unfold rkV; rw [if_pos h]
theorem rv_2 (h : x.op = 2) : rkV x e = nth e x.b.toNat := by unfold rkV; rw [if_neg (by omega), if_pos h]
theorem rv_0 (h : 3 ≤ x.op) (h0 : (nth e x.b.toNat).s = 0 ∨ (nth e x.c.toNat).s = 0) : rkV x e = ⟨0, 0⟩ := by unfold rkV; rw [if_neg (by omega), if_neg (by omega)]; unfold rk2; rw [if_pos h0]
theorem rv_a (h : 3 ≤ x.op) (h0 : ¬ ((nth e x.b.toNat).s = 0 ∨ (nth e x.c.toNat).s = 0)) (h2 : (nth e x.b.toNat).s = 2 ∨ (nth e x.c.toNat).s = 2) : rkV x e = ⟨2, 0⟩ := by unfold rkV; rw [if_neg (by omega), if_neg (by omega)]; unfold rk2; rw [if_neg h0, if_pos h2]
theorem rv_v (h : 3 ≤ x.op) (h0 : ¬ ((nth e x.b.toNat).s = 0 ∨ (nth e x.c.toNat).s = 0)) (h2 : ¬ ((nth e x.b.toNat).s = 2 ∨ (nth e x.c.toNat).s = 2)) {n : Int} (hn : n = arV x.op (nth e x.b.toNat).n (nth e x.c.toNat).n) : rkV x e = ⟨1, n⟩ := by unfold rkV; rw [if_neg (by omega), if_neg (by omega)]; unfold rk2; rw [if_neg h0, if_neg h2, hn]
end
end Go.Proofs.Ytmgikmjmdppfmaa
end
namespace Go.Proofs.Ytmgikmjmdppfmaa
open Go.RowKit
set_option linter.unusedSimpArgs false
set_option linter.unusedVariables false
set_option maxRecDepth 100000
set_option maxHeartbeats 4000000

theorem meetR_c (x y : VV) (W : World) :
    Rets Try.prog 63 [.agg #[.int .i64 x.s, .int .i64 x.n], .agg #[.int .i64 y.s, .int .i64 y.n]] W (fun v w' => v = encV (meetR x y) ∧ Sh0 W w' []) := by
 refine gen Try.func63 Try.ntmps63 (Sh0.start W : Sh (fun _ => False) W W []) rfl fun a10 h10 => gG h10<|sK fun _ k11 => gbx rfl rfl fun b12 => gbx rfl rfl fun b13 => gal ti_68 rfl fun b14 => nK k11<|gK fun _ k15 => sG (ofB fl_68_0 rfl<|olB 2 ti_3 rfl rfl<|oeqI _ _ rfl<|.nl)<|?_; clear h10
 refine gcd rfl (fun hb17 hp17 => ?_) fun hb17 hp17 => ?_
 ·skip
  refine sK fun _ k18 => gRn (olw 1 ti_68 rfl rfl<|.nl)<|gsw 0 ti_68 rfl rfl rfl<|nK k18<|gR<|uT<|fun a20 w20 h20 => x_ret1c (fn := Try.f63) (t := 4) (i := 0) ti_68 rfl h20 rfl rfl rfl ?_
  have e9 : meetR x y = y := by unfold meetR; (repeat' split) <;> first | rfl | contradiction | (exfalso; omega)
  refine ⟨?_, (h20.sh.sel [] rfl)⟩
  rw [e9]; rfl
 refine gS<|hK k15<|gK fun _ k21 => sG (ofB fl_68_0 rfl<|olB 1 ti_3 rfl rfl<|oeqI _ _ rfl<|.nl)<|gcd rfl (fun hb23 hp23 => ?_) fun hb23 hp23 => ?_
 ·skip
  refine sK fun _ k24 => gRn (olw 2 ti_68 rfl rfl<|.nl)<|gsw 0 ti_68 rfl rfl rfl<|nK k24<|gR<|uT<|fun a26 w26 h26 => x_ret1c (fn := Try.f63) (t := 4) (i := 0) ti_68 rfl h26 rfl rfl rfl ?_
  have e9 : meetR x y = x := by unfold meetR; (repeat' split) <;> first | rfl | contradiction | (exfalso; omega)
  refine ⟨?_, (h26.sh.sel [] rfl)⟩
  rw [e9]; rfl
 refine gS<|hK k21<|gK fun _ k27 => sK fun _ k28 => gRn (ofB fl_68_0 rfl<|olB 2 ti_3 rfl rfl<|oeqI _ _ rfl<|oM 1 rfl<|.nl)<|?_
 rcases dsp (x.s = 1) with ⟨hb29, hp29⟩ | ⟨hb29, hp29⟩
 ·skip
  refine gRn (oG hb29 (r_fieldB (r := 0) fl_68_0 rfl rfl rfl) rfl<|oG hb29 (r_ldb (i := 1) ti_3 rfl rfl rfl rfl) rfl<|oG hb29 (r_eqlI (p := y.s) (q := 1) rfl rfl rfl) rfl<|opT hb29 rfl<|oM 1 rfl<|.nl)<|?_
  rcases dsp (y.s = 1) with ⟨hb30, hp30⟩ | ⟨hb30, hp30⟩
  ·skip
   refine gRn (oG hb30 (r_fieldB (r := 1) fl_68_1 rfl rfl rfl) rfl<|oG hb30 (r_ldb (i := 2) ti_3 rfl rfl rfl rfl) rfl<|oG hb30 (r_fieldB (r := 1) fl_68_1 rfl rfl rfl) rfl<|oG hb30 (r_ldb (i := 1) ti_3 rfl rfl rfl rfl) rfl<|oG hb30 (r_eqlI (p := x.n) (q := y.n) rfl rfl rfl) rfl<|opT hb30 rfl<|.nl)<|nK k28<|gF [2, 4, 27] rfl<|gcd rfl (fun hb31 hp31 => ?_) fun hb31 hp31 => ?_
   ·skip
    refine sK fun _ k32 => gRn (olw 2 ti_68 rfl rfl<|.nl)<|gsw 0 ti_68 rfl rfl rfl<|nK k32<|gR<|uT<|fun a34 w34 h34 => x_ret1c (fn := Try.f63) (t := 4) (i := 0) ti_68 rfl h34 rfl rfl rfl ?_
    have e9 : meetR x y = x := by unfold meetR; (repeat' split) <;> first | rfl | contradiction | (exfalso; omega)
    refine ⟨?_, (h34.sh.sel [] rfl)⟩
    rw [e9]; rfl
   refine gS<|hK k27<|sK fun _ k35 => gRn (oV (r_build (cs := [.int .i64 2, .int .i64 0]) rfl rfl (by kernel_rfl)) rfl<|.nl)<|gsw 0 ti_68 rfl rfl rfl<|nK k35<|gR<|fun a37 w37 h37 => x_ret1c (fn := Try.f63) (t := 4) (i := 0) ti_68 rfl h37 rfl rfl rfl ?_
   have e9 : meetR x y = (⟨2, 0⟩ : VV) := by unfold meetR; (repeat' split) <;> first | rfl | contradiction | (exfalso; omega)
   refine ⟨?_, (h37.sh.sel [] rfl)⟩
   rw [e9]; rfl
  refine gRn (oKs 5 hb30 rfl rfl<|opF hb30 rfl<|.nl)<|nK k28<|gF [2, 4, 27] rfl<|gcF rfl rfl<|gS<|hK k27<|sK fun _ k38 => gRn (oV (r_build (cs := [.int .i64 2, .int .i64 0]) rfl rfl (by kernel_rfl)) rfl<|.nl)<|gsw 0 ti_68 rfl rfl rfl<|nK k38<|gR<|fun a40 w40 h40 => x_ret1c (fn := Try.f63) (t := 4) (i := 0) ti_68 rfl h40 rfl rfl rfl ?_
  have e9 : meetR x y = (⟨2, 0⟩ : VV) := by unfold meetR; (repeat' split) <;> first | rfl | contradiction | (exfalso; omega)
  refine ⟨?_, (h40.sh.sel [] rfl)⟩
  rw [e9]; rfl
 refine gRn (oKs 3 hb29 rfl rfl<|opF hb29 rfl<|oM 1 rfl<|oKs 5 rfl rfl rfl<|opF rfl rfl<|.nl)<|nK k28<|gF [2, 4, 27] rfl<|gcF rfl rfl<|gS<|hK k27<|sK fun _ k41 => gRn (oV (r_build (cs := [.int .i64 2, .int .i64 0]) rfl rfl (by kernel_rfl)) rfl<|.nl)<|gsw 0 ti_68 rfl rfl rfl<|nK k41<|gR<|fun a43 w43 h43 => x_ret1c (fn := Try.f63) (t := 4) (i := 0) ti_68 rfl h43 rfl rfl rfl ?_
 have e9 : meetR x y = (⟨2, 0⟩ : VV) := by unfold meetR; (repeat' split) <;> first | rfl | contradiction | (exfalso; omega)
 refine ⟨?_, (h43.sh.sel [] rfl)⟩
 rw [e9]; rfl

theorem rbit_c (b : Bool) (W : World) :
    Rets Try.prog 49 [.bool b] W (fun v w' => v = .int .i64 (if b = true then 1 else 0) ∧ Sh0 W w' []) := by
 refine gen Try.func49 Try.ntmps49 (Sh0.start W : Sh (fun _ => False) W W []) rfl fun a10 h10 => gG h10<|sG (oM 1 rfl<|.nl)<|gK fun _ k12 => sG (oM 1 rfl<|.nl)<|?_; clear h10
 refine gCb rfl (fun hb14 => ?_) fun hb14 => ?_
 ·skip
  refine sG (oM 1 rfl<|.nl)<|gR<|uT<|fun a16 w16 h16 => x_ret1 (fn := Try.f49) (t := 2) rfl h16 rfl <| ⟨?_, (h16.sh.sel [] rfl)⟩
  simp_all
 refine gS<|hK k12<|sG (oM 1 rfl<|.nl)<|gR<|fun a18 w18 h18 => x_ret1 (fn := Try.f49) (t := 2) rfl h18 rfl <| ⟨?_, (h18.sh.sel [] rfl)⟩
 simp_all

theorem rReckons_c (n : Int) (W : World) :
    Rets Try.prog 30 [.int .i64 n] W (fun v w' => v = .bool (decide (1 ≤ n ∧ n ≤ 7)) ∧ Sh0 W w' []) := by
 refine gen Try.func30 Try.ntmps30 (Sh0.start W : Sh (fun _ => False) W W []) rfl fun a10 h10 => gG h10<|sG (oM 1 rfl<|.nl)<|sK fun _ k12 => gRn (oM 1 rfl<|ogeI _ _ rfl<|oM 1 rfl<|.nl)<|?_; clear h10
 rcases dsp (1 ≤ n) with ⟨hb13, hp13⟩ | ⟨hb13, hp13⟩
 ·skip
  refine gRn (oG hb13 (r_move rfl rfl) rfl<|oG hb13 (r_leqI (p := n) (q := 7) rfl rfl rfl) rfl<|opT hb13 rfl<|oM 1 rfl<|.nl)<|nK k12<|gR<|fun a14 w14 h14 => x_ret1 (fn := Try.f30) (t := 2) rfl h14 rfl <| ⟨congrArg Value.bool ?_, (h14.sh.sel [] rfl)⟩
  first | exact (decide_eq_true (by omega)).symm | exact (decide_eq_false (by omega)).symm | (rw [Bool.eq_iff_iff]; simp only [decide_eq_true_eq]; omega)
 refine gRn (oKs 2 hb13 rfl rfl<|opF hb13 rfl<|oM 1 rfl<|.nl)<|nK k12<|gR<|fun a15 w15 h15 => x_ret1 (fn := Try.f30) (t := 2) rfl h15 rfl <| ⟨congrArg Value.bool ?_, (h15.sh.sel [] rfl)⟩
 first | exact (decide_eq_true (by omega)).symm | exact (decide_eq_false (by omega)).symm | (rw [Bool.eq_iff_iff]; simp only [decide_eq_true_eq]; omega)

theorem result_c (x : Ins) (e : Ls VV) (W : World) (he : e.At W) (hop : 1 ≤ x.op ∧ x.op ≤ 7) (hb : 2 ≤ x.op ∧ x.op ≤ 7 → 0 ≤ x.b ∧ x.b < (e.l.length : Int)) (hc : 3 ≤ x.op ∧ x.op ≤ 7 → 0 ≤ x.c ∧ x.c < (e.l.length : Int)) :
    Rets Try.prog 31 [.agg #[.int .i64 x.op, .int .i64 x.a, .int .i64 x.b, .int .i64 x.c], e.v] W (fun v w' => v = encV (rkV x e.l) ∧ Sh0 W w' []) := by
 refine gen Try.func31 Try.ntmps31 (Sh0.ext1 he : Sh (fun _ => False) W W [.at_ e]) rfl fun a10 h10 => gG h10<|sK fun _ k11 => gbx rfl rfl fun b12 => gal ti_68 rfl fun b13 => nK k11<|gK fun _ k14 => sG (ofB fl_44_0 rfl<|olB 1 ti_3 rfl rfl<|oeqI _ _ rfl<|.nl)<|?_; clear h10
 refine gcd rfl (fun hb16 hp16 => ?_) fun hb16 hp16 => ?_
 ·skip
  refine sK fun _ k17 => gRn (ofB fl_44_2 rfl<|olB 1 ti_3 rfl rfl<|oV (r_build (cs := [.int .i64 1, .int .i64 x.b]) rfl rfl (by kernel_rfl)) rfl<|.nl)<|gsw 0 ti_68 rfl rfl rfl<|nK k17<|gR<|uT<|fun a19 w19 h19 => x_ret1c (fn := Try.f31) (t := 4) (i := 0) ti_68 rfl h19 rfl rfl rfl ?_
  have e9 : rkV x e.l = (⟨1, x.b⟩ : VV) := by first | exact rv_1 (by omega) | exact rv_2 (by omega) | exact rv_0 (by omega) (by omega) | exact rv_a (by omega) (by omega) (by omega) | exact rv_v (by omega) (by omega) (by omega) (by first | exact arV_3 (x := x) _ _ (by omega) | exact arV_4 (x := x) _ _ (by omega) | exact arV_5 (x := x) _ _ (by omega) | exact arV_6 (x := x) _ _ (by omega) | exact arV_7 (x := x) _ _ (by omega))
  refine ⟨?_, (h19.sh.sel [] rfl)⟩
  rw [e9]; rfl
 refine gS<|hK k14<|sK fun _ k20 => gNl (aA 2 rfl) fun hl21 => gRn (oM 1 rfl<|ofB fl_44_2 rfl<|olB 1 ti_3 rfl rfl<|oxI sl_70 ti_68 (aA 2 rfl) om9 rfl<|olw2 [.int .i64 ((nth e.l x.b.toNat).s), .int .i64 ((nth e.l x.b.toNat).n)] ti_68 (aA 2 rfl) om9 rfl<|.nl)<|gal ti_68 rfl fun b22 => gsw 0 ti_68 rfl rfl rfl<|nK k20<|gK fun _ k24 => sG (ofB fl_44_0 rfl<|olB 2 ti_3 rfl rfl<|oeqI _ _ rfl<|.nl)<|gcd rfl (fun hb26 hp26 => ?_) fun hb26 hp26 => ?_
 ·skip
  refine sK fun _ k27 => gRn (olw 0 ti_68 rfl rfl<|.nl)<|gsw 1 ti_68 rfl rfl rfl<|nK k27<|gR<|uT<|fun a29 w29 h29 => x_ret1c (fn := Try.f31) (t := 4) (i := 1) ti_68 rfl h29 rfl rfl rfl ?_
  have e9 : rkV x e.l = (nth e.l x.b.toNat) := by first | exact rv_1 (by omega) | exact rv_2 (by omega) | exact rv_0 (by omega) (by omega) | exact rv_a (by omega) (by omega) (by omega) | exact rv_v (by omega) (by omega) (by omega) (by first | exact arV_3 (x := x) _ _ (by omega) | exact arV_4 (x := x) _ _ (by omega) | exact arV_5 (x := x) _ _ (by omega) | exact arV_6 (x := x) _ _ (by omega) | exact arV_7 (x := x) _ _ (by omega))
  refine ⟨?_, (h29.sh.sel [] rfl)⟩
  rw [e9]; rfl
 refine gS<|hK k24<|sK fun _ k30 => gRn (oM 1 rfl<|ofB fl_44_3 rfl<|olB 2 ti_3 rfl rfl<|oxI sl_70 ti_68 (aA 3 rfl) om9 rfl<|olw2 [.int .i64 ((nth e.l x.c.toNat).s), .int .i64 ((nth e.l x.c.toNat).n)] ti_68 (aA 3 rfl) om9 rfl<|.nl)<|gal ti_68 rfl fun b31 => gsw 0 ti_68 rfl rfl rfl<|nK k30<|gK fun _ k33 => sK fun _ k34 => gRn (ofB fl_68_0 rfl<|olB 1 ti_3 rfl rfl<|oeqI _ _ rfl<|oM 1 rfl<|.nl)<|?_
 rcases dsp ((nth e.l x.b.toNat).s = 0) with ⟨hb35, hp35⟩ | ⟨hb35, hp35⟩
 ·skip
  refine gRn (oKs 3 hb35 rfl rfl<|opT hb35 rfl<|.nl)<|nK k34<|gF [2, 4, 5, 6, 34] rfl<|gcT rfl rfl<|sK fun _ k36 => gRn (oV (r_build (cs := [.int .i64 0, .int .i64 0]) rfl rfl (by kernel_rfl)) rfl<|.nl)<|gsw 2 ti_68 rfl rfl rfl<|nK k36<|gR<|uT<|fun a38 w38 h38 => x_ret1c (fn := Try.f31) (t := 4) (i := 2) ti_68 rfl h38 rfl rfl rfl ?_
  have e9 : rkV x e.l = (⟨0, 0⟩ : VV) := by first | exact rv_1 (by omega) | exact rv_2 (by omega) | exact rv_0 (by omega) (by omega) | exact rv_a (by omega) (by omega) (by omega) | exact rv_v (by omega) (by omega) (by omega) (by first | exact arV_3 (x := x) _ _ (by omega) | exact arV_4 (x := x) _ _ (by omega) | exact arV_5 (x := x) _ _ (by omega) | exact arV_6 (x := x) _ _ (by omega) | exact arV_7 (x := x) _ _ (by omega))
  refine ⟨?_, (h38.sh.sel [] rfl)⟩
  rw [e9]; rfl
 refine gRn (oG hb35 (r_fieldB (r := 0) fl_68_0 rfl rfl rfl) rfl<|oG hb35 (r_ldb (i := 0) ti_3 rfl rfl rfl rfl) rfl<|oG hb35 (r_eqlI (p := (nth e.l x.c.toNat).s) (q := 0) rfl rfl rfl) rfl<|opF hb35 rfl<|.nl)<|nK k34<|gF [2, 4, 5, 6, 34] rfl<|gcd rfl (fun hb39 hp39 => ?_) fun hb39 hp39 => ?_
 ·skip
  refine sK fun _ k40 => gRn (oV (r_build (cs := [.int .i64 0, .int .i64 0]) rfl rfl (by kernel_rfl)) rfl<|.nl)<|gsw 2 ti_68 rfl rfl rfl<|nK k40<|gR<|uT<|fun a42 w42 h42 => x_ret1c (fn := Try.f31) (t := 4) (i := 2) ti_68 rfl h42 rfl rfl rfl ?_
  have e9 : rkV x e.l = (⟨0, 0⟩ : VV) := by first | exact rv_1 (by omega) | exact rv_2 (by omega) | exact rv_0 (by omega) (by omega) | exact rv_a (by omega) (by omega) (by omega) | exact rv_v (by omega) (by omega) (by omega) (by first | exact arV_3 (x := x) _ _ (by omega) | exact arV_4 (x := x) _ _ (by omega) | exact arV_5 (x := x) _ _ (by omega) | exact arV_6 (x := x) _ _ (by omega) | exact arV_7 (x := x) _ _ (by omega))
  refine ⟨?_, (h42.sh.sel [] rfl)⟩
  rw [e9]; rfl
 refine gS<|hK k33<|gK fun _ k43 => sK fun _ k44 => gRn (ofB fl_68_0 rfl<|olB 1 ti_3 rfl rfl<|oeqI _ _ rfl<|oM 1 rfl<|.nl)<|?_
 rcases dsp ((nth e.l x.b.toNat).s = 2) with ⟨hb45, hp45⟩ | ⟨hb45, hp45⟩
 ·skip
  refine gRn (oKs 3 hb45 rfl rfl<|opT hb45 rfl<|.nl)<|nK k44<|gcT rfl rfl<|sK fun _ k46 => gRn (oV (r_build (cs := [.int .i64 2, .int .i64 0]) rfl rfl (by kernel_rfl)) rfl<|.nl)<|gsw 2 ti_68 rfl rfl rfl<|nK k46<|gR<|uT<|fun a48 w48 h48 => x_ret1c (fn := Try.f31) (t := 4) (i := 2) ti_68 rfl h48 rfl rfl rfl ?_
  have e9 : rkV x e.l = (⟨2, 0⟩ : VV) := by first | exact rv_1 (by omega) | exact rv_2 (by omega) | exact rv_0 (by omega) (by omega) | exact rv_a (by omega) (by omega) (by omega) | exact rv_v (by omega) (by omega) (by omega) (by first | exact arV_3 (x := x) _ _ (by omega) | exact arV_4 (x := x) _ _ (by omega) | exact arV_5 (x := x) _ _ (by omega) | exact arV_6 (x := x) _ _ (by omega) | exact arV_7 (x := x) _ _ (by omega))
  refine ⟨?_, (h48.sh.sel [] rfl)⟩
  rw [e9]; rfl
 refine gRn (oG hb45 (r_fieldB (r := 0) fl_68_0 rfl rfl rfl) rfl<|oG hb45 (r_ldb (i := 0) ti_3 rfl rfl rfl rfl) rfl<|oG hb45 (r_eqlI (p := (nth e.l x.c.toNat).s) (q := 2) rfl rfl rfl) rfl<|opF hb45 rfl<|.nl)<|nK k44<|gcd rfl (fun hb49 hp49 => ?_) fun hb49 hp49 => ?_
 ·skip
  refine sK fun _ k50 => gRn (oV (r_build (cs := [.int .i64 2, .int .i64 0]) rfl rfl (by kernel_rfl)) rfl<|.nl)<|gsw 2 ti_68 rfl rfl rfl<|nK k50<|gR<|uT<|fun a52 w52 h52 => x_ret1c (fn := Try.f31) (t := 4) (i := 2) ti_68 rfl h52 rfl rfl rfl ?_
  have e9 : rkV x e.l = (⟨2, 0⟩ : VV) := by first | exact rv_1 (by omega) | exact rv_2 (by omega) | exact rv_0 (by omega) (by omega) | exact rv_a (by omega) (by omega) (by omega) | exact rv_v (by omega) (by omega) (by omega) (by first | exact arV_3 (x := x) _ _ (by omega) | exact arV_4 (x := x) _ _ (by omega) | exact arV_5 (x := x) _ _ (by omega) | exact arV_6 (x := x) _ _ (by omega) | exact arV_7 (x := x) _ _ (by omega))
  refine ⟨?_, (h52.sh.sel [] rfl)⟩
  rw [e9]; rfl
 refine gS<|hK k43<|gK fun _ k53 => sG (ofB fl_44_0 rfl<|olB 3 ti_3 rfl rfl<|.nl)<|gB<|sG (oeqI _ _ rfl<|oM 1 rfl<|.nl)<|gcd rfl (fun hb56 hp56 => ?_) fun hb56 hp56 => ?_
 ·skip
  refine sK fun _ k57 => gRn (ofB fl_68_1 rfl<|olB 1 ti_3 rfl rfl<|ofB fl_68_1 rfl<|olB 0 ti_3 rfl rfl<|oV (r_addW (p := (nth e.l x.b.toNat).n) (q := (nth e.l x.c.toNat).n) rfl rfl rfl) rfl<|oV (r_build (cs := [.int .i64 1, .int .i64 (wrap64 (((nth e.l x.b.toNat).n) + ((nth e.l x.c.toNat).n)))]) rfl rfl (by kernel_rfl)) rfl<|.nl)<|gsw 2 ti_68 rfl rfl rfl<|nK k57<|gR<|uB<|uT<|fun a59 w59 h59 => x_ret1c (fn := Try.f31) (t := 4) (i := 2) ti_68 rfl h59 rfl rfl rfl ?_
  have e9 : rkV x e.l = (⟨1, wrap64 (((nth e.l x.b.toNat).n) + ((nth e.l x.c.toNat).n))⟩ : VV) := by first | exact rv_1 (by omega) | exact rv_2 (by omega) | exact rv_0 (by omega) (by omega) | exact rv_a (by omega) (by omega) (by omega) | exact rv_v (by omega) (by omega) (by omega) (by first | exact arV_3 (x := x) _ _ (by omega) | exact arV_4 (x := x) _ _ (by omega) | exact arV_5 (x := x) _ _ (by omega) | exact arV_6 (x := x) _ _ (by omega) | exact arV_7 (x := x) _ _ (by omega))
  refine ⟨?_, (h59.sh.sel [] rfl)⟩
  rw [e9]; rfl
 refine sG (oeqI _ _ rfl<|oM 1 rfl<|.nl)<|gcd rfl (fun hb61 hp61 => ?_) fun hb61 hp61 => ?_
 ·skip
  refine sK fun _ k62 => gRn (ofB fl_68_1 rfl<|olB 1 ti_3 rfl rfl<|ofB fl_68_1 rfl<|olB 0 ti_3 rfl rfl<|oV (r_subW (p := (nth e.l x.b.toNat).n) (q := (nth e.l x.c.toNat).n) rfl rfl rfl) rfl<|oV (r_build (cs := [.int .i64 1, .int .i64 (wrap64 (((nth e.l x.b.toNat).n) - ((nth e.l x.c.toNat).n)))]) rfl rfl (by kernel_rfl)) rfl<|.nl)<|gsw 2 ti_68 rfl rfl rfl<|nK k62<|gF [4] rfl<|gR<|uB<|uT<|fun a64 w64 h64 => x_ret1c (fn := Try.f31) (t := 4) (i := 2) ti_68 rfl h64 rfl rfl rfl ?_
  have e9 : rkV x e.l = (⟨1, wrap64 (((nth e.l x.b.toNat).n) - ((nth e.l x.c.toNat).n))⟩ : VV) := by first | exact rv_1 (by omega) | exact rv_2 (by omega) | exact rv_0 (by omega) (by omega) | exact rv_a (by omega) (by omega) (by omega) | exact rv_v (by omega) (by omega) (by omega) (by first | exact arV_3 (x := x) _ _ (by omega) | exact arV_4 (x := x) _ _ (by omega) | exact arV_5 (x := x) _ _ (by omega) | exact arV_6 (x := x) _ _ (by omega) | exact arV_7 (x := x) _ _ (by omega))
  refine ⟨?_, (h64.sh.sel [] rfl)⟩
  rw [e9]; rfl
 refine sG (oeqI _ _ rfl<|oM 1 rfl<|.nl)<|gcd rfl (fun hb66 hp66 => ?_) fun hb66 hp66 => ?_
 ·skip
  refine sK fun _ k67 => gRn (ofB fl_68_1 rfl<|olB 1 ti_3 rfl rfl<|ofB fl_68_1 rfl<|olB 0 ti_3 rfl rfl<|oV (r_mulW (p := (nth e.l x.b.toNat).n) (q := (nth e.l x.c.toNat).n) rfl rfl rfl) rfl<|oV (r_build (cs := [.int .i64 1, .int .i64 (wrap64 (((nth e.l x.b.toNat).n) * ((nth e.l x.c.toNat).n)))]) rfl rfl (by kernel_rfl)) rfl<|.nl)<|gsw 2 ti_68 rfl rfl rfl<|nK k67<|gF [4] rfl<|gR<|uB<|uT<|fun a69 w69 h69 => x_ret1c (fn := Try.f31) (t := 4) (i := 2) ti_68 rfl h69 rfl rfl rfl ?_
  have e9 : rkV x e.l = (⟨1, wrap64 (((nth e.l x.b.toNat).n) * ((nth e.l x.c.toNat).n))⟩ : VV) := by first | exact rv_1 (by omega) | exact rv_2 (by omega) | exact rv_0 (by omega) (by omega) | exact rv_a (by omega) (by omega) (by omega) | exact rv_v (by omega) (by omega) (by omega) (by first | exact arV_3 (x := x) _ _ (by omega) | exact arV_4 (x := x) _ _ (by omega) | exact arV_5 (x := x) _ _ (by omega) | exact arV_6 (x := x) _ _ (by omega) | exact arV_7 (x := x) _ _ (by omega))
  refine ⟨?_, (h69.sh.sel [] rfl)⟩
  rw [e9]; rfl
 refine sG (oeqI _ _ rfl<|oM 1 rfl<|.nl)<|gcd rfl (fun hb71 hp71 => ?_) fun hb71 hp71 => ?_
 ·skip
  refine sK fun _ k72 => gRn (ofB fl_68_1 rfl<|olB 1 ti_3 rfl rfl<|ofB fl_68_1 rfl<|olB 0 ti_3 rfl rfl<|oltI _ _ rfl<|.nl)<|gP (fun _ _ h_ => xCl h_ bd_49 rfl (rbit_c (decide ((nth e.l x.b.toNat).n < (nth e.l x.c.toNat).n)) _)) rfl<|gRn (oV (r_build (cs := [.int .i64 1, .int .i64 (if decide ((nth e.l x.b.toNat).n < (nth e.l x.c.toNat).n) = true then 1 else 0)]) rfl rfl (by kernel_rfl)) rfl<|.nl)<|gsw 2 ti_68 rfl rfl rfl<|nK k72<|gF [4] rfl<|gR<|uB<|uT<|fun a75 w75 h75 => x_ret1c (fn := Try.f31) (t := 4) (i := 2) ti_68 rfl h75 rfl rfl rfl ?_
  have e9 : rkV x e.l = (⟨1, (if decide ((nth e.l x.b.toNat).n < (nth e.l x.c.toNat).n) = true then 1 else 0)⟩ : VV) := by first | exact rv_1 (by omega) | exact rv_2 (by omega) | exact rv_0 (by omega) (by omega) | exact rv_a (by omega) (by omega) (by omega) | exact rv_v (by omega) (by omega) (by omega) (by first | exact arV_3 (x := x) _ _ (by omega) | exact arV_4 (x := x) _ _ (by omega) | exact arV_5 (x := x) _ _ (by omega) | exact arV_6 (x := x) _ _ (by omega) | exact arV_7 (x := x) _ _ (by omega))
  refine ⟨?_, (h75.sh.sel [] rfl)⟩
  rw [e9]; rfl
 refine gS<|hK k53<|sK fun _ k76 => gRn (ofB fl_68_1 rfl<|olB 1 ti_3 rfl rfl<|ofB fl_68_1 rfl<|olB 0 ti_3 rfl rfl<|oeqI _ _ rfl<|.nl)<|gP (fun _ _ h_ => xCl h_ bd_49 rfl (rbit_c (decide ((nth e.l x.b.toNat).n = (nth e.l x.c.toNat).n)) _)) rfl<|gRn (oV (r_build (cs := [.int .i64 1, .int .i64 (if decide ((nth e.l x.b.toNat).n = (nth e.l x.c.toNat).n) = true then 1 else 0)]) rfl rfl (by kernel_rfl)) rfl<|.nl)<|gsw 2 ti_68 rfl rfl rfl<|nK k76<|gF [4] rfl<|gR<|fun a79 w79 h79 => x_ret1c (fn := Try.f31) (t := 4) (i := 2) ti_68 rfl h79 rfl rfl rfl ?_
 have e9 : rkV x e.l = (⟨1, (if decide ((nth e.l x.b.toNat).n = (nth e.l x.c.toNat).n) = true then 1 else 0)⟩ : VV) := by first | exact rv_1 (by omega) | exact rv_2 (by omega) | exact rv_0 (by omega) (by omega) | exact rv_a (by omega) (by omega) (by omega) | exact rv_v (by omega) (by omega) (by omega) (by first | exact arV_3 (x := x) _ _ (by omega) | exact arV_4 (x := x) _ _ (by omega) | exact arV_5 (x := x) _ _ (by omega) | exact arV_6 (x := x) _ _ (by omega) | exact arV_7 (x := x) _ _ (by omega))
 refine ⟨?_, (h79.sh.sel [] rfl)⟩
 rw [e9]; rfl

end Go.Proofs.Ytmgikmjmdppfmaa
