/-
  Contracts of functions of this program and of the references, each walked once.
-/
import Derived.Test.YtfpaahkleienoaaX6
namespace Go.Proofs.Ytfpaahkleienoaa
open Go.RowKit
set_option linter.unusedSimpArgs false
set_option linter.unusedVariables false

def nextsL (code : List Ins) (i : Nat) : List Int := if (nth code i).op = 14 then [(nth code i).a] else if (nth code i).op = 15 then [((i + 1 : Nat) : Int), (nth code i).b] else [((i + 1 : Nat) : Int)]
set_option maxRecDepth 100000 in
set_option maxHeartbeats 1000000 in
theorem nexts_c (x : Ls Ins) (i : Nat) (W : World) (hx : x.At W) (hi : i < x.l.length) (hl : x.l.length ≤ 100000) :
    Rets Try.prog 96 [x.v, .int .i64 ((i : Nat) : Int)] W (fun v w' => ∃ s : Ls Int, v = s.v ∧ Sh0 W w' [.own 3 (⟨s.v, nextsL x.l i⟩ : Ls Int)]) := by
 refine x_enter (N := 27) Try.func96 rfl Try.ntmps96 (Nat.le_of_ble_eq_true rfl) fun a1 hf1 => ?_
 have h1 : St 27 (fun _ => False) W a1 W [(0, x.v), (1, .int .i64 ((i : Nat) : Int))] [.at_ x] := ⟨hf1.sub ⟨rfl, rfl, trivial⟩, Sh0.ext1 hx⟩
 clear hf1
 refine wp_seq_k fun K2 hK2 => wp_region_lit <| wms 1 h1 rfl fun a3 h3 => wpList_nil <| hK2 _ _ <| wp_seq_k fun K4 hK4 => wp_seq_k fun K5 hK5 => wp_region_lit <| wms 2 h3 rfl fun a6 h6 => ?_; clear h1 h3
 have hl7 : x.l.length ≤ 140737488355328 := (h6.sh.at 0 rfl).len
 refine wv h6 (r_ixN (s := x) (q := i) sl_33 ti_32 rfl rfl rfl (fun w h => (h.at 0 rfl)) (show i < x.l.length from (by omega))) rfl rfl fun a8 h8 => wv h8 (r_ldew (s := x) (i := i) (vs := [.int .i64 ((nth x.l i).op), .int .i64 ((nth x.l i).a), .int .i64 ((nth x.l i).b), .int .i64 ((nth x.l i).c)]) ti_32 rfl rfl rfl (fun w h => (h.at 0 rfl)) (show i < x.l.length from (by omega)) (Nat.le_of_ble_eq_true rfl) rfl) rfl rfl fun a9 h9 => wl_ex (x_alloc h9 ti_32 rfl rfl rfl) (wanted_none rfl _) ?_; clear h6 h8
 rintro a10 w10 ⟨b10, h10⟩; clear h9
 refine wl_ex (x_stb (i := 0) (vs := [.int .i64 ((nth x.l i).op), .int .i64 ((nth x.l i).a), .int .i64 ((nth x.l i).b), .int .i64 ((nth x.l i).c)]) (cs' := [.int .i64 ((nth x.l i).op), .int .i64 ((nth x.l i).a), .int .i64 ((nth x.l i).b), .int .i64 ((nth x.l i).c)]) h10 ti_32 rfl rfl rfl rfl rfl rfl rfl (allOne_cons rfl (allOne_cons rfl (allOne_cons rfl (allOne_cons rfl allOne_nil)))) (Nat.le_of_ble_eq_true rfl) rfl) (wanted_none rfl _) ?_
 rintro a11 w11 h11
 clear h10
 refine wpList_nil <| hK5 _ _ <| wp_seq_k fun K12 hK12 => wp_region_lit <| wv h11 (r_fieldB (r := 0) fl_32_0 rfl rfl rfl) rfl rfl fun a13 h13 => wv h13 (r_ldb (i := 0) ti_3 rfl rfl rfl rfl) rfl rfl fun a14 h14 => wpList_nil <| hK12 _ _ <| wp_block <| wp_seq_k fun K15 hK15 => wp_region_lit <| wv h14 (r_eqlI (p := (nth x.l i).op) (q := 14) rfl rfl rfl) rfl rfl fun a16 h16 => wms 1 h16 rfl fun a17 h17 => wpList_nil ?_; clear h11 h13 h14 h16
 refine hK15 _ _ <| x_cond h17 rfl (fun hb18 => ?_) (fun hb18 => ?_)
 ·have hp18 : (nth x.l i).op = 14 := of_decide_eq_true hb18
  refine wp_seq_k fun K19 hK19 => wp_region_lit <| wv h17 (r_fieldB (r := 1) fl_32_1 rfl rfl rfl) rfl rfl fun a20 h20 => wv h20 (r_ldb (i := 0) ti_3 rfl rfl rfl rfl) rfl rfl fun a21 h21 => wl_ex (x_lit (n := 1) (cs := [.int .i64 ((nth x.l i).a)]) ([(nth x.l i).a] : List Int) h21 sl_23 ti_3 rfl rfl rfl (by decide) rfl (by kernel_rfl) rfl (fun q hq w h => Flat.inner _ _) (fun q hq b hb => (Flat.on _ _ hb).elim) rfl rfl) (wanted_none rfl _) ?_; clear h17 h20
  rintro a22 w22 ⟨v22, h22⟩; clear h21
  refine wms 1 h22 rfl fun a23 h23 => wpList_nil <| hK19 _ _ <| wp_ret ?_; clear h22
  try simp only [Exit.then, Exit.inBlock]
  refine x_ret1 (fn := Try.f96) (t := 4) rfl h23 rfl <| ⟨⟨v22, []⟩, rfl, ?_⟩
  rw [show nextsL x.l i = [(nth x.l i).a] from by unfold nextsL; (repeat' split) <;> first | rfl | (exfalso; omega)]
  exact (h23.sh.sel (L' := [.own 3 (⟨v22, [(nth x.l i).a]⟩ : Ls Int)]) [0] (by decide) ⟨rfl, trivial⟩)
 have hp18 : ¬ ((nth x.l i).op = 14) := of_decide_eq_false hb18
 refine wp_seq_k fun K24 hK24 => wp_region_lit <| wv h17 (r_eqlI (p := (nth x.l i).op) (q := 15) rfl rfl rfl) rfl rfl fun a25 h25 => wms 1 h25 rfl fun a26 h26 => wpList_nil <| hK24 _ _ <| x_cond h26 rfl (fun hb27 => ?_) (fun hb27 => ?_); clear h17 h25
 ·have hp27 : (nth x.l i).op = 15 := of_decide_eq_true hb27
  refine wp_seq_k fun K28 hK28 => wp_region_lit <| wms 1 h26 rfl fun a29 h29 => wv h29 (r_addN (p := i) (q := 1) rfl rfl rfl (show i + 1 < 9223372036854775808 from (by omega))) rfl rfl fun a30 h30 => wv h30 (r_fieldB (r := 2) fl_32_2 rfl rfl rfl) rfl rfl fun a31 h31 => wv h31 (r_ldb (i := 0) ti_3 rfl rfl rfl rfl) rfl rfl fun a32 h32 => wl_ex (x_lit (n := 2) (cs := [.int .i64 ((i + 1 : Nat) : Int), .int .i64 ((nth x.l i).b)]) ([((i + 1 : Nat) : Int), (nth x.l i).b] : List Int) h32 sl_23 ti_3 rfl rfl rfl (by decide) rfl (by kernel_rfl) rfl (fun q hq w h => Flat.inner _ _) (fun q hq b hb => (Flat.on _ _ hb).elim) rfl rfl) (wanted_none rfl _) ?_; clear h26 h29 h30 h31
  rintro a33 w33 ⟨v33, h33⟩; clear h32
  refine wms 1 h33 rfl fun a34 h34 => wpList_nil <| hK28 _ _ <| wp_ret ?_; clear h33
  try simp only [Exit.then, Exit.inBlock]
  refine x_ret1 (fn := Try.f96) (t := 4) rfl h34 rfl <| ⟨⟨v33, []⟩, rfl, ?_⟩
  rw [show nextsL x.l i = [((i + 1 : Nat) : Int), (nth x.l i).b] from by unfold nextsL; (repeat' split) <;> first | rfl | (exfalso; omega)]
  exact (h34.sh.sel (L' := [.own 3 (⟨v33, [((i + 1 : Nat) : Int), (nth x.l i).b]⟩ : Ls Int)]) [0] (by decide) ⟨rfl, trivial⟩)
 have hp27 : ¬ ((nth x.l i).op = 15) := of_decide_eq_false hb27
 refine wp_skip <| hK4 _ _ <| wp_seq_k fun K35 hK35 => wp_region_lit <| wms 1 h26 rfl fun a36 h36 => wv h36 (r_addN (p := i) (q := 1) rfl rfl rfl (show i + 1 < 9223372036854775808 from (by omega))) rfl rfl fun a37 h37 => wl_ex (x_lit (n := 1) (cs := [.int .i64 ((i + 1 : Nat) : Int)]) ([((i + 1 : Nat) : Int)] : List Int) h37 sl_23 ti_3 rfl rfl rfl (by decide) rfl (by kernel_rfl) rfl (fun q hq w h => Flat.inner _ _) (fun q hq b hb => (Flat.on _ _ hb).elim) rfl rfl) (wanted_none rfl _) ?_; clear h26 h36
 rintro a38 w38 ⟨v38, h38⟩; clear h37
 refine wms 1 h38 rfl fun a39 h39 => wpList_nil <| hK35 _ _ <| wp_ret ?_; clear h38
 try simp only [Exit.then, Exit.inBlock]
 refine x_ret1 (fn := Try.f96) (t := 4) rfl h39 rfl <| ⟨⟨v38, []⟩, rfl, ?_⟩
 rw [show nextsL x.l i = [((i + 1 : Nat) : Int)] from by unfold nextsL; (repeat' split) <;> first | rfl | (exfalso; omega)]
 exact (h39.sh.sel (L' := [.own 3 (⟨v38, [((i + 1 : Nat) : Int)]⟩ : Ls Int)]) [0] (by decide) ⟨rfl, trivial⟩)

set_option maxRecDepth 100000 in
set_option maxHeartbeats 1000000 in
theorem rNexts_c (x : Ls Ins) (i : Nat) (W : World) (hx : x.At W) (hi : i < x.l.length) (hl : x.l.length ≤ 100000) :
    Rets Try.prog 108 [x.v, .int .i64 ((i : Nat) : Int)] W (fun v w' => ∃ s : Ls Int, v = s.v ∧ Sh0 W w' [.own 3 (⟨s.v, nextsL x.l i⟩ : Ls Int)]) := by
 refine x_enter (N := 27) Try.func108 rfl Try.ntmps108 (Nat.le_of_ble_eq_true rfl) fun a1 hf1 => ?_
 have h1 : St 27 (fun _ => False) W a1 W [(0, x.v), (1, .int .i64 ((i : Nat) : Int))] [.at_ x] := ⟨hf1.sub ⟨rfl, rfl, trivial⟩, Sh0.ext1 hx⟩
 clear hf1
 refine wp_seq_k fun K2 hK2 => wp_region_lit <| wms 1 h1 rfl fun a3 h3 => wpList_nil <| hK2 _ _ <| wp_seq_k fun K4 hK4 => wp_region_lit <| wms 2 h3 rfl fun a5 h5 => ?_; clear h1 h3
 have hl6 : x.l.length ≤ 140737488355328 := (h5.sh.at 0 rfl).len
 refine wv h5 (r_ixN (s := x) (q := i) sl_33 ti_32 rfl rfl rfl (fun w h => (h.at 0 rfl)) (show i < x.l.length from (by omega))) rfl rfl fun a7 h7 => wv h7 (r_ldew (s := x) (i := i) (vs := [.int .i64 ((nth x.l i).op), .int .i64 ((nth x.l i).a), .int .i64 ((nth x.l i).b), .int .i64 ((nth x.l i).c)]) ti_32 rfl rfl rfl (fun w h => (h.at 0 rfl)) (show i < x.l.length from (by omega)) (Nat.le_of_ble_eq_true rfl) rfl) rfl rfl fun a8 h8 => wl_ex (x_alloc h8 ti_32 rfl rfl rfl) (wanted_none rfl _) ?_; clear h5 h7
 rintro a9 w9 ⟨b9, h9⟩; clear h8
 refine wl_ex (x_stb (i := 0) (vs := [.int .i64 ((nth x.l i).op), .int .i64 ((nth x.l i).a), .int .i64 ((nth x.l i).b), .int .i64 ((nth x.l i).c)]) (cs' := [.int .i64 ((nth x.l i).op), .int .i64 ((nth x.l i).a), .int .i64 ((nth x.l i).b), .int .i64 ((nth x.l i).c)]) h9 ti_32 rfl rfl rfl rfl rfl rfl rfl (allOne_cons rfl (allOne_cons rfl (allOne_cons rfl (allOne_cons rfl allOne_nil)))) (Nat.le_of_ble_eq_true rfl) rfl) (wanted_none rfl _) ?_
 rintro a10 w10 h10
 clear h9
 refine wpList_nil <| hK4 _ _ <| wp_seq_k fun K11 hK11 => wp_seq_k fun K12 hK12 => wp_region_lit <| wv h10 (r_fieldB (r := 0) fl_32_0 rfl rfl rfl) rfl rfl fun a13 h13 => wv h13 (r_ldb (i := 0) ti_3 rfl rfl rfl rfl) rfl rfl fun a14 h14 => wv h14 (r_eqlI (p := (nth x.l i).op) (q := 14) rfl rfl rfl) rfl rfl fun a15 h15 => wpList_nil <| hK12 _ _ <| x_cond h15 rfl (fun hb16 => ?_) (fun hb16 => ?_); clear h10 h13 h14
 ·have hp16 : (nth x.l i).op = 14 := of_decide_eq_true hb16
  refine wp_seq_k fun K17 hK17 => wp_region_lit <| wv h15 (r_fieldB (r := 1) fl_32_1 rfl rfl rfl) rfl rfl fun a18 h18 => wv h18 (r_ldb (i := 0) ti_3 rfl rfl rfl rfl) rfl rfl fun a19 h19 => wl_ex (x_lit (n := 1) (cs := [.int .i64 ((nth x.l i).a)]) ([(nth x.l i).a] : List Int) h19 sl_23 ti_3 rfl rfl rfl (by decide) rfl (by kernel_rfl) rfl (fun q hq w h => Flat.inner _ _) (fun q hq b hb => (Flat.on _ _ hb).elim) rfl rfl) (wanted_none rfl _) ?_; clear h15 h18
  rintro a20 w20 ⟨v20, h20⟩; clear h19
  refine wms 1 h20 rfl fun a21 h21 => wpList_nil <| hK17 _ _ <| wp_ret ?_; clear h20
  try simp only [Exit.then, Exit.inBlock]
  refine x_ret1 (fn := Try.f108) (t := 4) rfl h21 rfl <| ⟨⟨v20, []⟩, rfl, ?_⟩
  rw [show nextsL x.l i = [(nth x.l i).a] from by unfold nextsL; (repeat' split) <;> first | rfl | (exfalso; omega)]
  exact (h21.sh.sel (L' := [.own 3 (⟨v20, [(nth x.l i).a]⟩ : Ls Int)]) [0] (by decide) ⟨rfl, trivial⟩)
 have hp16 : ¬ ((nth x.l i).op = 14) := of_decide_eq_false hb16
 refine wp_skip <| hK11 _ _ <| wp_seq_k fun K22 hK22 => wp_seq_k fun K23 hK23 => wp_region_lit <| wv h15 (r_fieldB (r := 0) fl_32_0 rfl rfl rfl) rfl rfl fun a24 h24 => wv h24 (r_ldb (i := 0) ti_3 rfl rfl rfl rfl) rfl rfl fun a25 h25 => wv h25 (r_eqlI (p := (nth x.l i).op) (q := 15) rfl rfl rfl) rfl rfl fun a26 h26 => wpList_nil <| hK23 _ _ <| x_cond h26 rfl (fun hb27 => ?_) (fun hb27 => ?_); clear h15 h24 h25
 ·have hp27 : (nth x.l i).op = 15 := of_decide_eq_true hb27
  refine wp_seq_k fun K28 hK28 => wp_region_lit <| wms 1 h26 rfl fun a29 h29 => wv h29 (r_addN (p := i) (q := 1) rfl rfl rfl (show i + 1 < 9223372036854775808 from (by omega))) rfl rfl fun a30 h30 => wv h30 (r_fieldB (r := 2) fl_32_2 rfl rfl rfl) rfl rfl fun a31 h31 => wv h31 (r_ldb (i := 0) ti_3 rfl rfl rfl rfl) rfl rfl fun a32 h32 => wl_ex (x_lit (n := 2) (cs := [.int .i64 ((i + 1 : Nat) : Int), .int .i64 ((nth x.l i).b)]) ([((i + 1 : Nat) : Int), (nth x.l i).b] : List Int) h32 sl_23 ti_3 rfl rfl rfl (by decide) rfl (by kernel_rfl) rfl (fun q hq w h => Flat.inner _ _) (fun q hq b hb => (Flat.on _ _ hb).elim) rfl rfl) (wanted_none rfl _) ?_; clear h26 h29 h30 h31
  rintro a33 w33 ⟨v33, h33⟩; clear h32
  refine wms 1 h33 rfl fun a34 h34 => wpList_nil <| hK28 _ _ <| wp_ret ?_; clear h33
  try simp only [Exit.then, Exit.inBlock]
  refine x_ret1 (fn := Try.f108) (t := 4) rfl h34 rfl <| ⟨⟨v33, []⟩, rfl, ?_⟩
  rw [show nextsL x.l i = [((i + 1 : Nat) : Int), (nth x.l i).b] from by unfold nextsL; (repeat' split) <;> first | rfl | (exfalso; omega)]
  exact (h34.sh.sel (L' := [.own 3 (⟨v33, [((i + 1 : Nat) : Int), (nth x.l i).b]⟩ : Ls Int)]) [0] (by decide) ⟨rfl, trivial⟩)
 have hp27 : ¬ ((nth x.l i).op = 15) := of_decide_eq_false hb27
 refine wp_skip <| hK22 _ _ <| wp_seq_k fun K35 hK35 => wp_region_lit <| wms 1 h26 rfl fun a36 h36 => wv h36 (r_addN (p := i) (q := 1) rfl rfl rfl (show i + 1 < 9223372036854775808 from (by omega))) rfl rfl fun a37 h37 => wl_ex (x_lit (n := 1) (cs := [.int .i64 ((i + 1 : Nat) : Int)]) ([((i + 1 : Nat) : Int)] : List Int) h37 sl_23 ti_3 rfl rfl rfl (by decide) rfl (by kernel_rfl) rfl (fun q hq w h => Flat.inner _ _) (fun q hq b hb => (Flat.on _ _ hb).elim) rfl rfl) (wanted_none rfl _) ?_; clear h26 h36
 rintro a38 w38 ⟨v38, h38⟩; clear h37
 refine wms 1 h38 rfl fun a39 h39 => wpList_nil <| hK35 _ _ <| wp_ret ?_; clear h38
 try simp only [Exit.then, Exit.inBlock]
 refine x_ret1 (fn := Try.f108) (t := 4) rfl h39 rfl <| ⟨⟨v38, []⟩, rfl, ?_⟩
 rw [show nextsL x.l i = [((i + 1 : Nat) : Int)] from by unfold nextsL; (repeat' split) <;> first | rfl | (exfalso; omega)]
 exact (h39.sh.sel (L' := [.own 3 (⟨v38, [((i + 1 : Nat) : Int)]⟩ : Ls Int)]) [0] (by decide) ⟨rfl, trivial⟩)

end Go.Proofs.Ytfpaahkleienoaa
