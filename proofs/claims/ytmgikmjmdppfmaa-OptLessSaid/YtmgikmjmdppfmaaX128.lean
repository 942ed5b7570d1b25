/-
  Numbers put where they always are: the program.
-/
import Derived.Test.YtmgikmjmdppfmaaE5
import Derived.Test.YtmgikmjmdppfmaaX5
import Derived.Test.YtmgikmjmdppfmaaX35
namespace Go.Proofs.Ytmgikmjmdppfmaa
open Go.RowKit
set_option linter.unusedSimpArgs false
set_option linter.unusedVariables false
set_option maxRecDepth 100000
set_option maxHeartbeats 8000000

theorem become_c (gl ga R i : Nat) (cv wv : Value) (C : List (KA MA)) (tC : Nat) (x : Ins) (W : World) (hl : Blk W gl 89 #[cv, .map (some ga), wv]) (ha : (Asn.big (ahX (some ga) C tC)).ok W) (hC : WfC R C) (hop : 1 ≤ x.op) (hra : x.op = 15 → 0 ≤ x.a ∧ x.a < (R : Int)) (hrb : 2 ≤ x.op ∧ x.op ≤ 7 → 0 ≤ x.b ∧ x.b < (R : Int)) (hrc : 3 ≤ x.op ∧ x.op ≤ 7 → 0 ≤ x.c ∧ x.c < (R : Int)) :
    Rets Try.prog 22 [.pointer (some ⟨gl, 0, none⟩), .int .i64 ((i : Nat) : Int), .agg #[.int .i64 x.op, .int .i64 x.a, .int .i64 x.b, .int .i64 x.c]] W (fun v w' => ∃ s : Ls Ins, v = s.v ∧ Sh0 W w' [.own 44 (⟨s.v, bcC (absA R C) i x⟩ : Ls Ins)]) := by
 refine gen Try.func22 Try.ntmps22 (Sh0.ext (fun A hA => by simp only [List.mem_cons, List.not_mem_nil, or_false] at hA; rcases hA with rfl | rfl; exact hl; exact fun B hB => (List.mem_singleton.1 hB) ▸ ha) (fun A hA b hb => by simp only [List.mem_cons, List.not_mem_nil, or_false] at hA; rcases hA with rfl | rfl <;> exact hb) : Sh (fun _ => False) W W [.rblk gl 89 [cv, .map (some ga), wv], .ro [.big (ahX (some ga) C tC)]]) rfl fun a10 h10 => gG h10<|sK fun _ k11 => gbx rfl rfl fun b12 => gRn (oM 1 rfl<|.nl)<|nK k11<|sG (oM 1 rfl<|onf fl_89_1 rfl<|olR 1 ti_87 rfl rfl<|oM 1 rfl<|oV (r_lookAhR (i := 2) (k := ((i : Nat) : Int)) (C := C) (tC := tC) mt_87 rfl rfl rfl rfl) rfl<|oM 1 rfl<|oxt rfl<|oxt rfl<|oM 2 rfl<|.nl)<|gK fun _ k14 => sG (oM 1 rfl<|ont rfl<|.nl)<|?_; clear h10
 refine gCb rfl (fun hb16 => ?_) fun hb16 => ?_
 ·have hn16 : (getK ((i : Nat) : Int) C).isSome = false := (Bool.not_eq_true' _).mp hb16
  refine sG (oM 1 rfl<|.nl)<|gR<|uT<|fun a18 w18 h18 => x_ret1 (fn := Try.f22) (t := 6) rfl h18 rfl ?_
  have e9 : bcC (absA R C) i x = [] := by first | exact bc_none (by assumption) | exact bc_z0 (abs_some (by assumption)) (by assumption) (hra (by assumption)) (by assumption) (by assumption)
  refine ⟨⟨.slice none 0 0, []⟩, rfl, ?_⟩
  rw [e9]; exact ((h18.sh.sel [] rfl).nil 44)
 have hn16 : (getK ((i : Nat) : Int) C).isSome = true := (Bool.not_eq_false' _).mp hb16
 refine gS<|hK k14<|?_
 have hce := was_env hC (show (getK ((i : Nat) : Int) C).isSome = true by first | assumption | simpa using (by assumption))
 refine gK fun _ k19 => sK fun _ k20 => gRn (olw 0 ti_44 rfl rfl<|oM 1 rfl<|.nl)<|gP (fun _ _ h_ => xCl h_ bd_42 rfl (reckon_c x R (wasP (getK ((i : Nat) : Int) C)) (wasC (getK ((i : Nat) : Int) C)) (wasT (getK ((i : Nat) : Int) C)) _ (ah_ok (h_.sh.ok _ (List.mem_of_getElem? (i := 2) rfl) _ (List.mem_cons_self ..)) ((i : Nat) : Int)) hce hrb hrc)) rfl<|gRn (oM 1 rfl<|oxt rfl<|oxt rfl<|.nl)<|gal ti_92 rfl fun b22 => gsw 0 ti_92 rfl rfl rfl<|gRn (oM 1 rfl<|.nl)<|nK k20<|sK fun _ k24 => gRn (oM 2 rfl<|.nl)<|?_
 rcases Bool.eq_false_or_eq_true (decide (1 ≤ x.op ∧ x.op ≤ 7)) with hb25 | hb25
 ·have hp25 := of_decide_eq_true hb25
  refine gRn (oG hb25 (r_fieldB (r := 0) fl_44_0 rfl rfl rfl) rfl<|oG hb25 (r_ldb (i := 1) ti_3 rfl rfl rfl rfl) rfl<|oG hb25 (r_neqI (p := x.op) (q := 1) rfl rfl rfl) rfl<|opT hb25 rfl<|oM 1 rfl<|.nl)<|?_
  rcases dsp (x.op ≠ 1) with ⟨hb26, hp26⟩ | ⟨hb26, hp26⟩
  ·skip
   refine gRn (oG hb26 (r_fieldB (r := 0) fl_92_0 rfl rfl rfl) rfl<|oG hb26 (r_ldb (i := 0) ti_3 rfl rfl rfl rfl) rfl<|oG hb26 (r_eqlI (p := (rkD x R (wasC (getK ((i : Nat) : Int) C))).s) (q := 1) rfl rfl rfl) rfl<|opT hb26 rfl<|.nl)<|nK k24<|gF [5, 7, 9, 39] rfl<|gcd rfl (fun hb27 hp27 => ?_) fun hb27 hp27 => ?_
   ·skip
    refine sK fun _ k28 => gRn (ofB fl_44_1 rfl<|olB 1 ti_3 rfl rfl<|ofB fl_92_1 rfl<|olB 0 ti_3 rfl rfl<|oV (r_build (cs := [.int .i64 1, .int .i64 x.a, .int .i64 ((rkD x R (wasC (getK ((i : Nat) : Int) C))).n), .int .i64 0]) rfl rfl (by kernel_rfl)) rfl<|.nl)<|gE1 (fun _ _ h_ => x_lit (n := 1) (cs := [.int .i64 1, .int .i64 x.a, .int .i64 ((rkD x R (wasC (getK ((i : Nat) : Int) C))).n), .int .i64 0]) ([(⟨1, x.a, (rkD x R (wasC (getK ((i : Nat) : Int) C))).n, 0⟩ : Ins)] : List Ins) h_ sl_45 ti_44 rfl rfl rfl (by decide) rfl (by kernel_rfl) rfl (fun q hq w h => Flat.inner _ _) (fun q hq b hb => (Flat.on _ _ hb).elim) rfl rfl) rfl fun v29 => gRn (oM 1 rfl<|.nl)<|nK k28<|gR<|uT<|fun a30 w30 h30 => x_ret1 (fn := Try.f22) (t := 6) rfl h30 rfl ?_
    have e9 : bcC (absA R C) i x = [(⟨1, x.a, (rkD x R (wasC (getK ((i : Nat) : Int) C))).n, 0⟩ : Ins)] := by first | exact bc_const (abs_some (by assumption)) ⟨by omega, by omega⟩ (by assumption) | exact bc_z1 (abs_some (by assumption)) (by assumption) (hra (by assumption)) (by assumption) (by assumption) | exact bc_self (abs_some (by assumption)) (fun h9 => by omega) (fun h9 => by first | exact absurd h9 (by assumption) | exact ⟨hra h9, by assumption⟩)
    refine ⟨⟨v29, []⟩, rfl, ?_⟩
    rw [e9]; exact (h30.sh.sel (L' := [_]) [0] rfl)
   refine gS<|hK k19<|gK fun _ k31 => sK fun _ k32 => gRn (oM 1 rfl<|ofB fl_44_1 rfl<|olB 1 ti_3 rfl rfl<|oV (r_lookA0v (k := x.a) (c := (wasC (getK ((i : Nat) : Int) C))) mt_90 rfl rfl rfl (fun w h => (ah_ok (h.ok _ (List.mem_of_getElem? (i := 3) rfl) _ (List.mem_cons_self ..)) ((i : Nat) : Int)))) rfl<|.nl)<|gal ti_92 rfl fun b33 => gsw 0 ti_92 rfl rfl rfl<|nK k32<|sK fun _ k35 => gRn (ofB fl_44_0 rfl<|olB 2 ti_3 rfl rfl<|oeqI _ _ rfl<|oM 1 rfl<|.nl)<|?_
   rcases dsp (x.op = 15) with ⟨hb36, hp36⟩ | ⟨hb36, hp36⟩
   ·skip
    refine gRn (oG hb36 (r_fieldB (r := 0) fl_92_0 rfl rfl rfl) rfl<|oG hb36 (r_ldb (i := 0) ti_3 rfl rfl rfl rfl) rfl<|oG hb36 (r_eqlI (p := (gvD x.a (wasC (getK ((i : Nat) : Int) C))).s) (q := 1) rfl rfl rfl) rfl<|opT hb36 rfl<|.nl)<|nK k35<|gcd rfl (fun hb37 hp37 => ?_) fun hb37 hp37 => ?_
    ·skip
     refine gK fun _ k38 => sG (ofB fl_92_1 rfl<|olB 0 ti_3 rfl rfl<|oneI _ _ rfl<|.nl)<|gcd rfl (fun hb40 hp40 => ?_) fun hb40 hp40 => ?_
     ·skip
      refine sG (oM 1 rfl<|.nl)<|gR<|uT<|uT<|fun a42 w42 h42 => x_ret1 (fn := Try.f22) (t := 6) rfl h42 rfl ?_
      have e9 : bcC (absA R C) i x = [] := by first | exact bc_none (by assumption) | exact bc_z0 (abs_some (by assumption)) (by assumption) (hra (by assumption)) (by assumption) (by assumption)
      refine ⟨⟨.slice none 0 0, []⟩, rfl, ?_⟩
      rw [e9]; exact ((h42.sh.sel [] rfl).nil 44)
     refine gS<|hK k38<|sK fun _ k43 => gRn (ofB fl_44_2 rfl<|olB 2 ti_3 rfl rfl<|oV (r_build (cs := [.int .i64 14, .int .i64 x.b, .int .i64 0, .int .i64 0]) rfl rfl (by kernel_rfl)) rfl<|.nl)<|gE1 (fun _ _ h_ => x_lit (n := 1) (cs := [.int .i64 14, .int .i64 x.b, .int .i64 0, .int .i64 0]) ([(⟨14, x.b, 0, 0⟩ : Ins)] : List Ins) h_ sl_45 ti_44 rfl rfl rfl (by decide) rfl (by kernel_rfl) rfl (fun q hq w h => Flat.inner _ _) (fun q hq b hb => (Flat.on _ _ hb).elim) rfl rfl) rfl fun v44 => gRn (oM 1 rfl<|.nl)<|nK k43<|gF [6] rfl<|gR<|uT<|fun a45 w45 h45 => x_ret1 (fn := Try.f22) (t := 6) rfl h45 rfl ?_
     have e9 : bcC (absA R C) i x = [(⟨14, x.b, 0, 0⟩ : Ins)] := by first | exact bc_const (abs_some (by assumption)) ⟨by omega, by omega⟩ (by assumption) | exact bc_z1 (abs_some (by assumption)) (by assumption) (hra (by assumption)) (by assumption) (by assumption) | exact bc_self (abs_some (by assumption)) (fun h9 => by omega) (fun h9 => by first | exact absurd h9 (by assumption) | exact ⟨hra h9, by assumption⟩)
     refine ⟨⟨v44, []⟩, rfl, ?_⟩
     rw [e9]; exact (h45.sh.sel (L' := [_]) [0] rfl)
    refine gS<|hK k31<|sK fun _ k46 => gRn (olw 2 ti_44 rfl rfl<|.nl)<|gE1 (fun _ _ h_ => x_lit (n := 1) (cs := [.int .i64 x.op, .int .i64 x.a, .int .i64 x.b, .int .i64 x.c]) ([x] : List Ins) h_ sl_45 ti_44 rfl rfl rfl (by decide) rfl (by kernel_rfl) rfl (fun q hq w h => Flat.inner _ _) (fun q hq b hb => (Flat.on _ _ hb).elim) rfl rfl) rfl fun v47 => gRn (oM 1 rfl<|.nl)<|nK k46<|gR<|fun a48 w48 h48 => x_ret1 (fn := Try.f22) (t := 6) rfl h48 rfl ?_
    have e9 : bcC (absA R C) i x = [x] := by first | exact bc_const (abs_some (by assumption)) ⟨by omega, by omega⟩ (by assumption) | exact bc_z1 (abs_some (by assumption)) (by assumption) (hra (by assumption)) (by assumption) (by assumption) | exact bc_self (abs_some (by assumption)) (fun h9 => by omega) (fun h9 => by first | exact absurd h9 (by assumption) | exact ⟨hra h9, by assumption⟩)
    refine ⟨⟨v47, []⟩, rfl, ?_⟩
    rw [e9]; exact (h48.sh.sel (L' := [_]) [0] rfl)
   refine gRn (oKs 3 hb36 rfl rfl<|opF hb36 rfl<|.nl)<|nK k35<|gcF rfl rfl<|gS<|hK k31<|sK fun _ k49 => gRn (olw 2 ti_44 rfl rfl<|.nl)<|gE1 (fun _ _ h_ => x_lit (n := 1) (cs := [.int .i64 x.op, .int .i64 x.a, .int .i64 x.b, .int .i64 x.c]) ([x] : List Ins) h_ sl_45 ti_44 rfl rfl rfl (by decide) rfl (by kernel_rfl) rfl (fun q hq w h => Flat.inner _ _) (fun q hq b hb => (Flat.on _ _ hb).elim) rfl rfl) rfl fun v50 => gRn (oM 1 rfl<|.nl)<|nK k49<|gR<|fun a51 w51 h51 => x_ret1 (fn := Try.f22) (t := 6) rfl h51 rfl ?_
   have e9 : bcC (absA R C) i x = [x] := by first | exact bc_const (abs_some (by assumption)) ⟨by omega, by omega⟩ (by assumption) | exact bc_z1 (abs_some (by assumption)) (by assumption) (hra (by assumption)) (by assumption) (by assumption) | exact bc_self (abs_some (by assumption)) (fun h9 => by omega) (fun h9 => by first | exact absurd h9 (by assumption) | exact ⟨hra h9, by assumption⟩)
   refine ⟨⟨v50, []⟩, rfl, ?_⟩
   rw [e9]; exact (h51.sh.sel (L' := [_]) [0] rfl)
  refine gRn (oKs 3 hb26 rfl rfl<|opF hb26 rfl<|.nl)<|nK k24<|gF [5, 7, 9, 39] rfl<|gcF rfl rfl<|gS<|hK k19<|gK fun _ k52 => sK fun _ k53 => gRn (oM 1 rfl<|ofB fl_44_1 rfl<|olB 1 ti_3 rfl rfl<|oV (r_lookA0v (k := x.a) (c := (wasC (getK ((i : Nat) : Int) C))) mt_90 rfl rfl rfl (fun w h => (ah_ok (h.ok _ (List.mem_of_getElem? (i := 3) rfl) _ (List.mem_cons_self ..)) ((i : Nat) : Int)))) rfl<|.nl)<|gal ti_92 rfl fun b54 => gsw 0 ti_92 rfl rfl rfl<|nK k53<|sK fun _ k56 => gRn (ofB fl_44_0 rfl<|olB 2 ti_3 rfl rfl<|oeqI _ _ rfl<|oM 1 rfl<|.nl)<|?_
  rcases dsp (x.op = 15) with ⟨hb57, hp57⟩ | ⟨hb57, hp57⟩
  ·skip
   refine gRn (oG hb57 (r_fieldB (r := 0) fl_92_0 rfl rfl rfl) rfl<|oG hb57 (r_ldb (i := 0) ti_3 rfl rfl rfl rfl) rfl<|oG hb57 (r_eqlI (p := (gvD x.a (wasC (getK ((i : Nat) : Int) C))).s) (q := 1) rfl rfl rfl) rfl<|opT hb57 rfl<|.nl)<|nK k56<|gcd rfl (fun hb58 hp58 => ?_) fun hb58 hp58 => ?_
   ·skip
    refine gK fun _ k59 => sG (ofB fl_92_1 rfl<|olB 0 ti_3 rfl rfl<|oneI _ _ rfl<|.nl)<|gcd rfl (fun hb61 hp61 => ?_) fun hb61 hp61 => ?_
    ·skip
     refine sG (oM 1 rfl<|.nl)<|gR<|uT<|uT<|fun a63 w63 h63 => x_ret1 (fn := Try.f22) (t := 6) rfl h63 rfl ?_
     have e9 : bcC (absA R C) i x = [] := by first | exact bc_none (by assumption) | exact bc_z0 (abs_some (by assumption)) (by assumption) (hra (by assumption)) (by assumption) (by assumption)
     refine ⟨⟨.slice none 0 0, []⟩, rfl, ?_⟩
     rw [e9]; exact ((h63.sh.sel [] rfl).nil 44)
    refine gS<|hK k59<|sK fun _ k64 => gRn (ofB fl_44_2 rfl<|olB 2 ti_3 rfl rfl<|oV (r_build (cs := [.int .i64 14, .int .i64 x.b, .int .i64 0, .int .i64 0]) rfl rfl (by kernel_rfl)) rfl<|.nl)<|gE1 (fun _ _ h_ => x_lit (n := 1) (cs := [.int .i64 14, .int .i64 x.b, .int .i64 0, .int .i64 0]) ([(⟨14, x.b, 0, 0⟩ : Ins)] : List Ins) h_ sl_45 ti_44 rfl rfl rfl (by decide) rfl (by kernel_rfl) rfl (fun q hq w h => Flat.inner _ _) (fun q hq b hb => (Flat.on _ _ hb).elim) rfl rfl) rfl fun v65 => gRn (oM 1 rfl<|.nl)<|nK k64<|gF [6] rfl<|gR<|uT<|fun a66 w66 h66 => x_ret1 (fn := Try.f22) (t := 6) rfl h66 rfl ?_
    have e9 : bcC (absA R C) i x = [(⟨14, x.b, 0, 0⟩ : Ins)] := by first | exact bc_const (abs_some (by assumption)) ⟨by omega, by omega⟩ (by assumption) | exact bc_z1 (abs_some (by assumption)) (by assumption) (hra (by assumption)) (by assumption) (by assumption) | exact bc_self (abs_some (by assumption)) (fun h9 => by omega) (fun h9 => by first | exact absurd h9 (by assumption) | exact ⟨hra h9, by assumption⟩)
    refine ⟨⟨v65, []⟩, rfl, ?_⟩
    rw [e9]; exact (h66.sh.sel (L' := [_]) [0] rfl)
   refine gS<|hK k52<|sK fun _ k67 => gRn (olw 2 ti_44 rfl rfl<|.nl)<|gE1 (fun _ _ h_ => x_lit (n := 1) (cs := [.int .i64 x.op, .int .i64 x.a, .int .i64 x.b, .int .i64 x.c]) ([x] : List Ins) h_ sl_45 ti_44 rfl rfl rfl (by decide) rfl (by kernel_rfl) rfl (fun q hq w h => Flat.inner _ _) (fun q hq b hb => (Flat.on _ _ hb).elim) rfl rfl) rfl fun v68 => gRn (oM 1 rfl<|.nl)<|nK k67<|gR<|fun a69 w69 h69 => x_ret1 (fn := Try.f22) (t := 6) rfl h69 rfl ?_
   have e9 : bcC (absA R C) i x = [x] := by first | exact bc_const (abs_some (by assumption)) ⟨by omega, by omega⟩ (by assumption) | exact bc_z1 (abs_some (by assumption)) (by assumption) (hra (by assumption)) (by assumption) (by assumption) | exact bc_self (abs_some (by assumption)) (fun h9 => by omega) (fun h9 => by first | exact absurd h9 (by assumption) | exact ⟨hra h9, by assumption⟩)
   refine ⟨⟨v68, []⟩, rfl, ?_⟩
   rw [e9]; exact (h69.sh.sel (L' := [_]) [0] rfl)
  refine gRn (oKs 3 hb57 rfl rfl<|opF hb57 rfl<|.nl)<|nK k56<|gcF rfl rfl<|gS<|hK k52<|sK fun _ k70 => gRn (olw 2 ti_44 rfl rfl<|.nl)<|gE1 (fun _ _ h_ => x_lit (n := 1) (cs := [.int .i64 x.op, .int .i64 x.a, .int .i64 x.b, .int .i64 x.c]) ([x] : List Ins) h_ sl_45 ti_44 rfl rfl rfl (by decide) rfl (by kernel_rfl) rfl (fun q hq w h => Flat.inner _ _) (fun q hq b hb => (Flat.on _ _ hb).elim) rfl rfl) rfl fun v71 => gRn (oM 1 rfl<|.nl)<|nK k70<|gR<|fun a72 w72 h72 => x_ret1 (fn := Try.f22) (t := 6) rfl h72 rfl ?_
  have e9 : bcC (absA R C) i x = [x] := by first | exact bc_const (abs_some (by assumption)) ⟨by omega, by omega⟩ (by assumption) | exact bc_z1 (abs_some (by assumption)) (by assumption) (hra (by assumption)) (by assumption) (by assumption) | exact bc_self (abs_some (by assumption)) (fun h9 => by omega) (fun h9 => by first | exact absurd h9 (by assumption) | exact ⟨hra h9, by assumption⟩)
  refine ⟨⟨v71, []⟩, rfl, ?_⟩
  rw [e9]; exact (h72.sh.sel (L' := [_]) [0] rfl)
 have hp25 := of_decide_eq_false hb25
 refine gRn (oKs 3 hb25 rfl rfl<|opF hb25 rfl<|oM 1 rfl<|oKs 3 rfl rfl rfl<|opF rfl rfl<|.nl)<|nK k24<|gF [5, 7, 9, 39] rfl<|gcF rfl rfl<|gS<|hK k19<|gK fun _ k73 => sK fun _ k74 => gRn (oM 1 rfl<|ofB fl_44_1 rfl<|olB 1 ti_3 rfl rfl<|oV (r_lookA0v (k := x.a) (c := (wasC (getK ((i : Nat) : Int) C))) mt_90 rfl rfl rfl (fun w h => (ah_ok (h.ok _ (List.mem_of_getElem? (i := 3) rfl) _ (List.mem_cons_self ..)) ((i : Nat) : Int)))) rfl<|.nl)<|gal ti_92 rfl fun b75 => gsw 0 ti_92 rfl rfl rfl<|nK k74<|sK fun _ k77 => gRn (ofB fl_44_0 rfl<|olB 2 ti_3 rfl rfl<|oeqI _ _ rfl<|oM 1 rfl<|.nl)<|?_
 rcases dsp (x.op = 15) with ⟨hb78, hp78⟩ | ⟨hb78, hp78⟩
 ·skip
  refine gRn (oG hb78 (r_fieldB (r := 0) fl_92_0 rfl rfl rfl) rfl<|oG hb78 (r_ldb (i := 0) ti_3 rfl rfl rfl rfl) rfl<|oG hb78 (r_eqlI (p := (gvD x.a (wasC (getK ((i : Nat) : Int) C))).s) (q := 1) rfl rfl rfl) rfl<|opT hb78 rfl<|.nl)<|nK k77<|gcd rfl (fun hb79 hp79 => ?_) fun hb79 hp79 => ?_
  ·skip
   refine gK fun _ k80 => sG (ofB fl_92_1 rfl<|olB 0 ti_3 rfl rfl<|oneI _ _ rfl<|.nl)<|gcd rfl (fun hb82 hp82 => ?_) fun hb82 hp82 => ?_
   ·skip
    refine sG (oM 1 rfl<|.nl)<|gR<|uT<|uT<|fun a84 w84 h84 => x_ret1 (fn := Try.f22) (t := 6) rfl h84 rfl ?_
    have e9 : bcC (absA R C) i x = [] := by first | exact bc_none (by assumption) | exact bc_z0 (abs_some (by assumption)) (by assumption) (hra (by assumption)) (by assumption) (by assumption)
    refine ⟨⟨.slice none 0 0, []⟩, rfl, ?_⟩
    rw [e9]; exact ((h84.sh.sel [] rfl).nil 44)
   refine gS<|hK k80<|sK fun _ k85 => gRn (ofB fl_44_2 rfl<|olB 2 ti_3 rfl rfl<|oV (r_build (cs := [.int .i64 14, .int .i64 x.b, .int .i64 0, .int .i64 0]) rfl rfl (by kernel_rfl)) rfl<|.nl)<|gE1 (fun _ _ h_ => x_lit (n := 1) (cs := [.int .i64 14, .int .i64 x.b, .int .i64 0, .int .i64 0]) ([(⟨14, x.b, 0, 0⟩ : Ins)] : List Ins) h_ sl_45 ti_44 rfl rfl rfl (by decide) rfl (by kernel_rfl) rfl (fun q hq w h => Flat.inner _ _) (fun q hq b hb => (Flat.on _ _ hb).elim) rfl rfl) rfl fun v86 => gRn (oM 1 rfl<|.nl)<|nK k85<|gF [6] rfl<|gR<|uT<|fun a87 w87 h87 => x_ret1 (fn := Try.f22) (t := 6) rfl h87 rfl ?_
   have e9 : bcC (absA R C) i x = [(⟨14, x.b, 0, 0⟩ : Ins)] := by first | exact bc_const (abs_some (by assumption)) ⟨by omega, by omega⟩ (by assumption) | exact bc_z1 (abs_some (by assumption)) (by assumption) (hra (by assumption)) (by assumption) (by assumption) | exact bc_self (abs_some (by assumption)) (fun h9 => by omega) (fun h9 => by first | exact absurd h9 (by assumption) | exact ⟨hra h9, by assumption⟩)
   refine ⟨⟨v86, []⟩, rfl, ?_⟩
   rw [e9]; exact (h87.sh.sel (L' := [_]) [0] rfl)
  refine gS<|hK k73<|sK fun _ k88 => gRn (olw 2 ti_44 rfl rfl<|.nl)<|gE1 (fun _ _ h_ => x_lit (n := 1) (cs := [.int .i64 x.op, .int .i64 x.a, .int .i64 x.b, .int .i64 x.c]) ([x] : List Ins) h_ sl_45 ti_44 rfl rfl rfl (by decide) rfl (by kernel_rfl) rfl (fun q hq w h => Flat.inner _ _) (fun q hq b hb => (Flat.on _ _ hb).elim) rfl rfl) rfl fun v89 => gRn (oM 1 rfl<|.nl)<|nK k88<|gR<|fun a90 w90 h90 => x_ret1 (fn := Try.f22) (t := 6) rfl h90 rfl ?_
  have e9 : bcC (absA R C) i x = [x] := by first | exact bc_const (abs_some (by assumption)) ⟨by omega, by omega⟩ (by assumption) | exact bc_z1 (abs_some (by assumption)) (by assumption) (hra (by assumption)) (by assumption) (by assumption) | exact bc_self (abs_some (by assumption)) (fun h9 => by omega) (fun h9 => by first | exact absurd h9 (by assumption) | exact ⟨hra h9, by assumption⟩)
  refine ⟨⟨v89, []⟩, rfl, ?_⟩
  rw [e9]; exact (h90.sh.sel (L' := [_]) [0] rfl)
 refine gRn (oKs 3 hb78 rfl rfl<|opF hb78 rfl<|.nl)<|nK k77<|gcF rfl rfl<|gS<|hK k73<|sK fun _ k91 => gRn (olw 2 ti_44 rfl rfl<|.nl)<|gE1 (fun _ _ h_ => x_lit (n := 1) (cs := [.int .i64 x.op, .int .i64 x.a, .int .i64 x.b, .int .i64 x.c]) ([x] : List Ins) h_ sl_45 ti_44 rfl rfl rfl (by decide) rfl (by kernel_rfl) rfl (fun q hq w h => Flat.inner _ _) (fun q hq b hb => (Flat.on _ _ hb).elim) rfl rfl) rfl fun v92 => gRn (oM 1 rfl<|.nl)<|nK k91<|gR<|fun a93 w93 h93 => x_ret1 (fn := Try.f22) (t := 6) rfl h93 rfl ?_
 have e9 : bcC (absA R C) i x = [x] := by first | exact bc_const (abs_some (by assumption)) ⟨by omega, by omega⟩ (by assumption) | exact bc_z1 (abs_some (by assumption)) (by assumption) (hra (by assumption)) (by assumption) (by assumption) | exact bc_self (abs_some (by assumption)) (fun h9 => by omega) (fun h9 => by first | exact absurd h9 (by assumption) | exact ⟨hra h9, by assumption⟩)
 refine ⟨⟨v92, []⟩, rfl, ?_⟩
 rw [e9]; exact (h93.sh.sel (L' := [_]) [0] rfl)

theorem anew_c (code : Ls (Ls Ins)) (words : Ls Int) (locks regs : Int) (bf : FuncId) (us ws : List Value) (TF : List Ins → List Ins) (Env : Asn) (W : World) (hcode : code.At W) (hwords : words.At W) (hok : OkPg (pgOf code words locks regs)) (hbd : bodyI Try.prog bf = true) (hEf : ∀ b, ¬ Env.fp b) (hEo : Env.ok W) (hth : ∀ (w : World) (t : Nat), Env.ok w → t < code.l.length → (nth code.l t).At w → Rets Try.prog bf (us ++ [(nth code.l t).v] ++ ws) w (fun v w' => ∃ s : Ls Ins, v = s.v ∧ s.l = TF (nth code.l t).l ∧ Sh0 w w' [.own 44 s])) :
    Rets Try.prog 18 [.agg #[code.v, words.v, .int .i64 locks, .int .i64 regs], .func (.func bf) us.toArray ws.toArray] W (fun v w' => ∃ (c : Ls (Ls Ins)) (u : Ls Int), v = .agg #[c.v, u.v, .int .i64 locks, .int .i64 regs] ∧ c.l.map (·.l) = (List.range code.l.length).map (fun t => TF (nth code.l t).l) ∧ u.l = words.l ∧ Sh0 W w' [.deep 45 c, .own 3 u]) := by
 have hz := checkG_ok hok
 obtain ⟨hl1, hl2, hl3, hl4', hl5, hl6, hl7⟩ := ok_len hok
 refine gen Try.func18 Try.ntmps18 (Sh0.ext (by intro A hA; simp at hA; rcases hA with rfl | rfl | rfl; exact hcode; exact hwords; exact hEo) (by intro A hA b hb; simp at hA; rcases hA with rfl | rfl | rfl <;> first | exact hb | exact hEf b hb) : Sh (fun _ => False) W W [.at_ code, .at_ words, Env]) rfl fun a10 h10 => gG h10<|sK fun _ k11 => gbx rfl rfl fun b12 => gal ti_25 rfl fun b13 => nK k11<|sK fun _ k14 => gRn (olw 1 ti_25 rfl rfl<|.nl)<|gal ti_25 rfl fun b15 => gE (fun _ _ h_ => x_stb (i := 0) (vs := [code.v, words.v, .int .i64 locks, .int .i64 regs]) (cs' := [code.v, words.v, .int .i64 locks, .int .i64 regs]) h_ ti_25 rfl rfl rfl rfl rfl rfl rfl (allOne_cons ((h_.sh.at 3 rfl)).one (allOne_cons ((h_.sh.at 4 rfl)).one (allOne_cons rfl (allOne_cons rfl allOne_nil)))) (Nat.le_of_ble_eq_true rfl) rfl) rfl<|nK k14<|sK fun _ k17 => gRn (ofB fl_25_1 rfl<|olB 2 ti_23 rfl rfl<|.nl)<|gC (fun _ _ h_ => xCl h_ bd_39 rfl (cloneI_c words _ (h_.sh.at 4 rfl) (by first | omega | (simp only [lens9]; omega)))) rfl<|?_; clear h10
 rintro _ _ w18 ⟨s18, rfl, hs18⟩
 refine gWk hs18 rfl<|gU<|gRn (ofB fl_25_0 rfl<|.nl)<|gst 1 ti_22 rfl rfl rfl<|gRn (ofB fl_25_1 rfl<|.nl)<|gsr 1 ti_23 rfl (aO 0 rfl) rfl<|nK k17<|gK fun _ k21 => sK fun _ k22 => gNl (aA 4 rfl) fun hl23 => gRn (ofB fl_25_0 rfl<|olB 3 ti_22 rfl rfl<|oln sl_22 (aA 4 rfl) rfl<|oM 1 rfl<|.nl)<|nK k22<|gB<|fun a26 w26 h26 => ?_; clear hs18
 have h25 := h26.nilDeep (α := Ls Ins) 45
 clear h26
 refine x_loop (fun m a w => ∃ (t : Nat) (qs : List (Ls Ins)) (vq : Value), (t ≤ code.l.length) ∧ (qs.map (·.l) = (List.range t).map (fun t => TF (nth code.l t).l)) ∧ (qs.length = t) ∧ St 31 (fun _ => False) W a w [(1, .func (.func bf) us.toArray ws.toArray), (4, .pointer (some ⟨b13, 0, none⟩)), (5, .pointer (some ⟨b15, 0, none⟩)), (15, code.v), (16, .int .i64 ((code.l.length : Nat) : Int)), (17, .int .i64 ((t : Nat) : Int))] [.own 3 (⟨s18.v, words.l⟩ : Ls Int), .blk b15 25 [vq, s18.v, .int .i64 locks, .int .i64 regs], .blk b13 25 [(.slice none 0 0), (.slice none 0 0), .int .i64 0, .int .i64 0], .blk b12 25 [code.v, words.v, .int .i64 locks, .int .i64 regs], .at_ code, .at_ words, Env, .deep 45 (⟨vq, qs⟩ : Ls (Ls Ins))] ∧ m = code.l.length - t) ⟨_, 0, [], (.slice none 0 0), (by omega), (rfl), (rfl), h25.nrm ⟨rfl, rfl, rfl, rfl, rfl, rfl, trivial⟩ [1, 2, 3, 4, 5, 6, 7, 0] rfl, rfl⟩ ?_
 clear h25
 rintro m24 a24 w24 ⟨t, qs, vq, ht, hqs, hql, h24, hm24⟩
 refine gG h24<|sG (oltN _ _ rfl<|.nl)<|gK fun _ k28 => gcd rfl (fun hb29 hp29 => ?_) fun hb29 hp29 => ?_; clear h24
 ·skip
  refine gS<|hK k28<|gK fun _ k30 => gB<|sG (oxN sl_22 ti_45 (aA 4 rfl) _ om9 rfl<|olE ((nth code.l t).v) ti_45 (aA 4 rfl) om9 rfl<|oM 1 rfl<|.nl)<|rC [4, 5, 6, 8] rfl<|pR [0, 1, 2, 3] rfl (ofB fl_25_0 rfl<|olB 1 ti_22 rfl rfl<|oM 2 rfl<|.nl) rfl<|pC (fun _ _ h_ => xCl h_ hbd rfl (hth _ t (h_.sh.ok Env (List.mem_of_getElem? (i := 6) rfl)) (by omega) ((h_.sh.at 4 rfl).nth t (show t < code.l.length from (by omega))))) rfl<|?_
  rintro _ _ w32 ⟨s32, rfl, hst32, hs32⟩
  refine pWk hs32 rfl<|pR [0, 1] rfl (ofB fl_25_0 rfl<|olB 2 ti_22 rfl rfl<|.nl) rfl<|pX (fun _ _ h_ => x_litD (E := 0) (x := s32) h_ sl_22 ti_45 rfl rfl rfl ((h_.sh.own 0 rfl)) (fun b hb => (own_on (h_.sh.ok _ (List.mem_of_getElem? (i := 0) rfl)) hb).elim (fun h => h) (fun h => Flat.noRd h)) (fun b hb => Flat.noRd hb) rfl rfl) rfl fun v33 => pR [0, 1] rfl (ofB fl_25_0 rfl<|olB 2 ti_22 rfl rfl<|.nl) rfl<|pO [8, 0, 1, 2, 3, 4, 5, 6, 7] rfl<|pX (fun _ _ h_ => x_appD (s := (⟨vq, qs⟩ : Ls (Ls Ins))) (m := (⟨v33, [s32]⟩ : Ls (Ls Ins))) h_ sl_22 ti_45 rfl rfl rfl rfl rfl rfl rfl inferInstance (show (qs.length + ([s32]).length) * 24 ≤ 140737488355328 ∧ qs.length + ([s32]).length ≤ 140737488355328 from om9) rfl rfl) rfl fun v35 => pR [7] rfl (ofB fl_25_0 rfl<|.nl) rfl<|pS (fun _ _ h_ => x_stb (i := 2) (vs := [v35]) (cs' := [v35, s18.v, .int .i64 locks, .int .i64 regs]) h_ ti_22 rfl rfl rfl rfl rfl (cells_oneL ((h_.sh.deep 0 rfl)).one) rfl (allOne_cons ((h_.sh.deep 0 rfl)).one allOne_nil) (Nat.le_of_ble_eq_true rfl) rfl) rfl<|pE [] rfl (.nl) rfl<|hK k30<|gL<|gRn (oadN _ 1 om9 rfl<|oM 1 rfl<|.nl)<|nN<|fun a37 w37 h37 => ?_; clear hs32
  refine x_again ⟨_, ?_, t + 1, qs ++ ([s32]), v35, ?_, ?_, ?_, h37.nrm ⟨rfl, rfl, rfl, rfl, rfl, rfl, trivial⟩ [1, 2, 3, 4, 5, 6, 7, 0] rfl, rfl⟩
  · rw [hm24]; first | omega | (simp only [lens9]; omega)
  · omega
  · rw [List.map_append, hqs, List.range_succ, List.map_append]; simp only [List.map_cons, List.map_nil]; simp only [*]
  · simp [hql]
 refine gX<|hK k21<|sK fun _ k38 => gRn (olw 1 ti_25 rfl rfl<|.nl)<|gE (fun _ _ h_ => x_stb (i := 2) (vs := [vq, s18.v, .int .i64 locks, .int .i64 regs]) (cs' := [vq, s18.v, .int .i64 locks, .int .i64 regs]) h_ ti_25 rfl rfl rfl rfl rfl rfl rfl (allOne_cons ((h_.sh.deep 7 rfl)).one (allOne_cons ((h_.sh.own 0 rfl)).one (allOne_cons rfl (allOne_cons rfl allOne_nil)))) (Nat.le_of_ble_eq_true rfl) rfl) rfl<|nK k38<|gR<|fun a40 w40 h40 => x_ret1c (fn := Try.f18) (t := 4) (i := 2) ti_25 rfl h40 rfl rfl rfl <| ⟨⟨vq, qs⟩, ⟨s18.v, words.l⟩, rfl, ?_, rfl, (h40.sh.sel [7, 0] rfl)⟩
 show qs.map (·.l) = _; rw [hqs, show t = code.l.length by omega]

theorem const1_c (x : Ls Ins) (b R : Nat) (cv wv lv : Value) (W : World) (hx : x.At W) (hb : Blk W b 25 #[cv, wv, lv, .int .i64 ((R : Nat) : Int)]) (hov : OkV x.l (R : Int)) (hj : JumpsOK x.l) (hcl : x.l.length ≤ 400) (hR : R ≤ 200) :
    Rets Try.prog 19 [x.v, .pointer (some ⟨b, 0, none⟩)] W (fun v w' => ∃ s : Ls Ins, v = s.v ∧ s.l = constL R x.l ∧ Sh0 W w' [.own 44 s]) := by
 refine gen Try.func19 Try.ntmps19 (Sh0.ext (fun A hA => by simp only [List.mem_cons, List.not_mem_nil, or_false] at hA; rcases hA with rfl | rfl; exact hx; exact hb) (fun A hA b hb => by simp only [List.mem_cons, List.not_mem_nil, or_false] at hA; rcases hA with rfl | rfl <;> exact hb) : Sh (fun _ => False) W W [.at_ x, .rblk b 25 [cv, wv, lv, .int .i64 ((R : Nat) : Int)]]) rfl fun a10 h10 => gG h10<|sG (oM 1 rfl<|.nl)<|sK fun _ k12 => gRn (oM 1 rfl<|ofB fl_25_3 rfl<|olR 1 ti_3 rfl rfl<|.nl)<|gC (fun _ _ h_ => xCl h_ bd_20 rfl (of_c x R _ (h_.sh.at 0 rfl) hov hj hcl hR)) rfl<|?_; clear h10
 rintro _ _ w13 ⟨gl13, ga13, C13, T13, wq13, rfl, hle13, hlC13, hs13⟩
 refine gWk hs13 rfl<|gU<|gRn (oM 1 rfl<|.nl)<|nK k12<|sK fun _ k14 => gRn (oM 2 rfl<|oV (r_makeFunc rfl rfl rfl) rfl<|.nl)<|gC (fun _ _ h_ => xCl h_ bd_21 rfl (moved_c x 22 [.pointer (some ⟨gl13, 0, none⟩)] [] (bcC (absA R C13)) (Asn.ro [.blk gl13 89 [x.v, .map (some ga13), wq13.v], .big (ahX (some ga13) C13 T13)]) _ (h_.sh.at 3 rfl) (show x.l.length ≤ 5000 by omega) bd_22 (fun _ h => h) (fun B hB => by simp only [List.mem_cons, List.not_mem_nil, or_false] at hB; rcases hB with rfl | rfl; exact h_.sh.ok _ (List.mem_of_getElem? (i := 0) rfl); exact h_.sh.ok _ (List.mem_of_getElem? (i := 1) rfl)) (fun w i hE hi => become_c gl13 ga13 R i x.v wq13.v C13 T13 (nth x.l i) w (hE (.blk gl13 89 [x.v, .map (some ga13), wq13.v]) (by simp)) (hE (.big (ahX (some ga13) C13 T13)) (by simp)) hlC13 (hov i hi).1.1 (fun h9 => rk_a hov hi (.inr h9)) (rk_b hov hi) (rk_c hov hi)) (fun i hi => Nat.le_trans (bcC_len _ _ _) (by decide)) (bcC_ok hj))) rfl<|?_; clear hs13
 rintro _ _ w15 ⟨s15, rfl, hl15, hs15⟩
 refine gWk hs15 rfl<|gU<|gRn (oM 1 rfl<|.nl)<|nK k14<|gR<|fun a16 w16 h16 => ?_; clear hs15
 refine x_ret1 (fn := Try.f19) (t := 3) rfl h16 rfl ?_
 exact ⟨s15, rfl, by rw [hl15, leastA_eq hle13]; rfl, (h16.sh.sel [0] rfl)⟩

theorem oConst_k (code : Ls (Ls Ins)) (words : Ls Int) (locks regs : Int) (W : World) (hcode : code.At W) (hwords : words.At W) (hok : OkPg (pgOf code words locks regs)) :
    Rets Try.prog 7 [.agg #[code.v, words.v, .int .i64 locks, .int .i64 regs]] W (fun v w' => ∃ (c : Ls (Ls Ins)) (u : Ls Int), v = .tuple #[.agg #[c.v, u.v, .int .i64 locks, .int .i64 regs], .agg #[.int .i64 0, .int .i64 0, .int .i64 0]] ∧ c.l.map (·.l) = (List.range code.l.length).map (fun t => constL regs.toNat (nth code.l t).l) ∧ u.l = words.l ∧ Sh0 W w' [.deep 45 c, .own 3 u]) := by
 have hz := checkG_ok hok
 obtain ⟨hl1, hl2, hl3, hl4', hl5, hl6, hl7⟩ := ok_len hok
 have hrg := hok.regs
 have hrg1 : ((pgOf code words locks regs)).regs = regs := rfl
 rw [hrg1] at hrg
 refine gen Try.func7 Try.ntmps7 (Sh0.ext2 hcode hwords : Sh (fun _ => False) W W [.at_ code, .at_ words]) rfl fun a10 h10 => gG h10<|sK fun _ k11 => gbx rfl rfl fun b12 => gal ti_25 rfl fun b13 => gal ti_29 rfl fun b14 => nK k11<|gK fun _ k15 => sK fun _ k16 => gRn (olw 2 ti_25 rfl rfl<|.nl)<|gC (fun _ _ h_ => xCl h_ bd_17 rfl (asmCheck_c (code := code) (words := words) (locks := locks) (regs := regs) (h_.sh.at 3 rfl) (h_.sh.at 4 rfl))) rfl<|?_; clear h10
 rintro _ _ w17 ⟨rfl, hs17⟩
 refine gWk hs17 rfl<|gU<|gal ti_29 rfl fun b18 => gsw 0 ti_29 rfl rfl rfl<|nK k16<|sG (ofB fl_29_0 rfl<|olB 0 ti_27 rfl rfl<|oneI _ _ rfl<|.nl)<|gcF rfl (by rw [hz]; rfl)<|gS<|hK k15<|sK fun _ k21 => gRn (olw 3 ti_25 rfl rfl<|oV (r_makeFunc rfl rfl rfl) rfl<|.nl)<|gC (fun _ _ h_ => xCl h_ bd_18 rfl (anew_c code words locks regs 19 [] [.pointer (some ⟨b12, 0, none⟩)] (constL regs.toNat) (Asn.ro [.blk b12 25 [code.v, words.v, .int .i64 locks, .int .i64 regs]]) _ (h_.sh.at 4 rfl) (h_.sh.at 5 rfl) hok bd_19 (fun _ h => h) (fun B hB => (List.mem_singleton.1 hB) ▸ h_.sh.ok _ (List.mem_of_getElem? (i := 3) rfl)) (fun w t hE ht hx => const1_c (nth code.l t) b12 regs.toNat _ _ _ w hx (by rw [Int.toNat_of_nonneg (by omega)]; exact hE (.blk b12 25 [code.v, words.v, .int .i64 locks, .int .i64 regs]) (by simp)) (by rw [Int.toNat_of_nonneg (by omega)]; exact okV_of hok t ht) (ok_thread hok t ht).2 (ok_thread hok t ht).1 (by omega)))) rfl<|?_; clear hs17
 rintro _ _ w22 ⟨c22, u22, rfl, hq22, hu22, hs22⟩
 refine gWk hs22 rfl<|gU<|gRn (oV (r_build (cs := [.int .i64 0, .int .i64 0, .int .i64 0]) rfl rfl (by kernel_rfl)) rfl<|.nl)<|gE (fun _ _ h_ => x_stb (i := 4) (vs := [c22.v, u22.v, .int .i64 locks, .int .i64 regs]) (cs' := [c22.v, u22.v, .int .i64 locks, .int .i64 regs]) h_ ti_25 rfl rfl rfl rfl rfl rfl rfl (allOne_cons ((h_.sh.deep 0 rfl)).one (allOne_cons ((h_.sh.own 1 rfl)).one (allOne_cons rfl (allOne_cons rfl allOne_nil)))) (Nat.le_of_ble_eq_true rfl) rfl) rfl<|gsw 3 ti_29 rfl rfl rfl<|nK k21<|gR<|fun a25 w25 h25 => ?_; clear hs22
 refine x_ret2c (fn := Try.f7) (t := 2) (t2 := 3) (i := 4) (i2 := 3) ti_25 ti_29 rfl h25 rfl rfl rfl rfl rfl rfl ?_
 exact ⟨c22, u22, rfl, hq22, hu22, (h25.sh.sel [0, 1] rfl)⟩

theorem oConst_b (code : Ls (Ls Ins)) (words : Ls Int) (locks regs : Int) (W : World) (hcode : code.At W) (hwords : words.At W) (hz : (checkG (pgOf code words locks regs)).code ≠ 0) :
    Rets Try.prog 7 [.agg #[code.v, words.v, .int .i64 locks, .int .i64 regs]] W (fun v w' => v = .tuple #[.agg #[.slice none 0 0, .slice none 0 0, .int .i64 0, .int .i64 0], (checkG (pgOf code words locks regs)).val] ∧ Sh0 W w' []) := by
 refine gen Try.func7 Try.ntmps7 (Sh0.ext2 hcode hwords : Sh (fun _ => False) W W [.at_ code, .at_ words]) rfl fun a10 h10 => gG h10<|sK fun _ k11 => gbx rfl rfl fun b12 => gal ti_25 rfl fun b13 => gal ti_29 rfl fun b14 => nK k11<|gK fun _ k15 => sK fun _ k16 => gRn (olw 2 ti_25 rfl rfl<|.nl)<|gC (fun _ _ h_ => xCl h_ bd_17 rfl (asmCheck_c (code := code) (words := words) (locks := locks) (regs := regs) (h_.sh.at 3 rfl) (h_.sh.at 4 rfl))) rfl<|?_; clear h10
 rintro _ _ w17 ⟨rfl, hs17⟩
 refine gWk hs17 rfl<|gU<|gal ti_29 rfl fun b18 => gsw 0 ti_29 rfl rfl rfl<|nK k16<|sG (ofB fl_29_0 rfl<|olB 0 ti_27 rfl rfl<|oneI _ _ rfl<|.nl)<|gcT rfl (decide_eq_true hz)<|gK fun _ k21 => rC [2, 3] rfl<|pR [0, 1] rfl (oV (r_build (cs := [(.slice none 0 0), (.slice none 0 0), .int .i64 0, .int .i64 0]) rfl rfl (by kernel_rfl)) rfl<|olw 0 ti_29 rfl rfl<|.nl) rfl<|pS (fun _ _ h_ => x_stb (i := 2) (vs := [(.slice none 0 0), (.slice none 0 0), .int .i64 0, .int .i64 0]) (cs' := [(.slice none 0 0), (.slice none 0 0), .int .i64 0, .int .i64 0]) h_ ti_25 rfl rfl rfl rfl rfl rfl rfl (allOne_cons rfl (allOne_cons rfl (allOne_cons rfl (allOne_cons rfl allOne_nil)))) (Nat.le_of_ble_eq_true rfl) rfl) rfl<|pR [1] rfl (olw 0 ti_29 rfl rfl<|.nl) rfl<|pS (fun _ _ h_ => x_stb (i := 1) (vs := [.int .i64 ((checkG (pgOf code words locks regs)).code), .int .i64 ((checkG (pgOf code words locks regs)).thread), .int .i64 ((checkG (pgOf code words locks regs)).at_)]) (cs' := [.int .i64 ((checkG (pgOf code words locks regs)).code), .int .i64 ((checkG (pgOf code words locks regs)).thread), .int .i64 ((checkG (pgOf code words locks regs)).at_)]) h_ ti_29 rfl rfl rfl rfl rfl rfl rfl (allOne_cons rfl (allOne_cons rfl (allOne_cons rfl allOne_nil))) (Nat.le_of_ble_eq_true rfl) rfl) rfl<|pE [] rfl (.nl) rfl<|hK k21<|gR<|uT<|fun a24 w24 h24 => ?_; clear hs17
 refine x_ret2c (fn := Try.f7) (t := 2) (t2 := 3) (i := 2) (i2 := 1) ti_25 ti_29 rfl h24 rfl rfl rfl rfl rfl rfl ?_
 exact ⟨rfl, (h24.sh.sel [] rfl)⟩

end Go.Proofs.Ytmgikmjmdppfmaa
