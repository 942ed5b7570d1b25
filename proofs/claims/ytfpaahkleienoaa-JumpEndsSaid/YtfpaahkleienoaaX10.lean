/-
  Contracts of functions of this program and of the references, each walked once.
-/
import Derived.Test.YtfpaahkleienoaaX6
namespace Go.Proofs.Ytfpaahkleienoaa
open Go.RowKit
set_option linter.unusedSimpArgs false
set_option linter.unusedVariables false

def nextsL (code : List Ins) (i : Nat) : List Int := if (nth code i).op = 14 then [(nth code i).a] else if (nth code i).op = 15 then [((i + 1 : Nat) : Int), (nth code i).b] else [((i + 1 : Nat) : Int)]
set_option maxRecDepth 100000 in
set_option maxHeartbeats 1000000 in
theorem nexts_c (x : Ls Ins) (i : Nat) (W : World) (hx : x.At W) (hi : i < x.l.length) (hl : x.l.length ≤ 100000) :
    Rets Try.prog 96 [x.v, .int .i64 ((i : Nat) : Int)] W (fun v w' => ∃ s : Ls Int, v = s.v ∧ Sh0 W w' [.own 3 (⟨s.v, nextsL x.l i⟩ : Ls Int)]) := by
 refine x_enter (N := 27) Try.func96 rfl Try.ntmps96 (Nat.le_of_ble_eq_true rfl) fun a1 hf1 => ?_
 have h1 : St 27 (fun _ => False) W a1 W [(0, x.v), (1, .int .i64 ((i : Nat) : Int))] [.at_ x] := ⟨hf1.sub ⟨rfl, rfl, trivial⟩, Sh0.ext1 hx⟩
 clear hf1
 refine wp_seq_k fun K2 hK2 => wp_region_lit ?_
 refine wms 1 h1 rfl fun a3 h3 => ?_; clear h1
 refine wpList_nil (hK2 _ _ ?_)
 refine wp_seq_k fun K4 hK4 => ?_
 refine wp_seq_k fun K5 hK5 => wp_region_lit ?_
 refine wms 2 h3 rfl fun a6 h6 => ?_; clear h3
 have hl7 : x.l.length ≤ 140737488355328 := (h6.sh.at 0 rfl).len
 refine wv h6 (r_ixN (s := x) (q := i) sl_33 ti_32 rfl rfl rfl (fun w h => (h.at 0 rfl)) (show i < x.l.length from (by omega))) rfl rfl fun a8 h8 => ?_; clear h6
 refine wv h8 (r_ldew (s := x) (i := i) (vs := [.int .i64 ((nth x.l i).op), .int .i64 ((nth x.l i).a), .int .i64 ((nth x.l i).b), .int .i64 ((nth x.l i).c)]) ti_32 rfl rfl rfl (fun w h => (h.at 0 rfl)) (show i < x.l.length from (by omega)) (Nat.le_of_ble_eq_true rfl) rfl) rfl rfl fun a9 h9 => ?_; clear h8
 refine wl_ex (x_alloc h9 ti_32 rfl rfl rfl) (wanted_none rfl _) ?_
 rintro a10 w10 ⟨b10, h10⟩; clear h9
 refine wl_ex (x_stb (i := 0) (vs := [.int .i64 ((nth x.l i).op), .int .i64 ((nth x.l i).a), .int .i64 ((nth x.l i).b), .int .i64 ((nth x.l i).c)]) (cs' := [.int .i64 ((nth x.l i).op), .int .i64 ((nth x.l i).a), .int .i64 ((nth x.l i).b), .int .i64 ((nth x.l i).c)]) h10 ti_32 rfl rfl rfl rfl rfl rfl rfl (allOne_cons rfl (allOne_cons rfl (allOne_cons rfl (allOne_cons rfl allOne_nil)))) (Nat.le_of_ble_eq_true rfl) rfl) (wanted_none rfl _) ?_
 rintro a11 w11 h11
 clear h10
 refine wpList_nil (hK5 _ _ ?_)
 refine wp_seq_k fun K12 hK12 => wp_region_lit ?_
 refine wv h11 (r_fieldB (r := 0) fl_32_0 rfl rfl rfl) rfl rfl fun a13 h13 => ?_; clear h11
 refine wv h13 (r_ldb (i := 0) ti_3 rfl rfl rfl rfl) rfl rfl fun a14 h14 => ?_; clear h13
 refine wpList_nil (hK12 _ _ ?_)
 refine wp_block ?_
 refine wp_seq_k fun K15 hK15 => wp_region_lit ?_
 refine wv h14 (r_eqlI (p := (nth x.l i).op) (q := 14) rfl rfl rfl) rfl rfl fun a16 h16 => ?_; clear h14
 refine wms 1 h16 rfl fun a17 h17 => ?_; clear h16
 refine wpList_nil (hK15 _ _ ?_)
 refine x_cond h17 rfl (fun hb18 => ?_) (fun hb18 => ?_)
 ·
  have hp18 : (nth x.l i).op = 14 := of_decide_eq_true hb18
  refine wp_seq_k fun K19 hK19 => wp_region_lit ?_
  refine wv h17 (r_fieldB (r := 1) fl_32_1 rfl rfl rfl) rfl rfl fun a20 h20 => ?_; clear h17
  refine wv h20 (r_ldb (i := 0) ti_3 rfl rfl rfl rfl) rfl rfl fun a21 h21 => ?_; clear h20
  refine wl_ex (x_lit (n := 1) (cs := [.int .i64 ((nth x.l i).a)]) ([(nth x.l i).a] : List Int) h21 sl_23 ti_3 rfl rfl rfl (by decide) rfl (by kernel_rfl) rfl (fun q hq w h => Flat.inner _ _) (fun q hq b hb => (Flat.on _ _ hb).elim) rfl rfl) (wanted_none rfl _) ?_
  rintro a22 w22 ⟨v22, h22⟩; clear h21
  refine wms 1 h22 rfl fun a23 h23 => ?_; clear h22
  refine wpList_nil (hK19 _ _ ?_)
  refine wp_ret ?_
  try simp only [Exit.then, Exit.inBlock]
  refine x_ret1 (fn := Try.f96) (t := 4) rfl h23 rfl ?_
  refine ⟨⟨v22, []⟩, rfl, ?_⟩
  rw [show nextsL x.l i = [(nth x.l i).a] from by unfold nextsL; (repeat' split) <;> first | rfl | (exfalso; omega)]
  exact (h23.sh.sel (L' := [.own 3 (⟨v22, [(nth x.l i).a]⟩ : Ls Int)]) [0] (by decide) ⟨rfl, trivial⟩)
 have hp18 : ¬ ((nth x.l i).op = 14) := of_decide_eq_false hb18
 refine wp_seq_k fun K24 hK24 => wp_region_lit ?_
 refine wv h17 (r_eqlI (p := (nth x.l i).op) (q := 15) rfl rfl rfl) rfl rfl fun a25 h25 => ?_; clear h17
 refine wms 1 h25 rfl fun a26 h26 => ?_; clear h25
 refine wpList_nil (hK24 _ _ ?_)
 refine x_cond h26 rfl (fun hb27 => ?_) (fun hb27 => ?_)
 ·
  have hp27 : (nth x.l i).op = 15 := of_decide_eq_true hb27
  refine wp_seq_k fun K28 hK28 => wp_region_lit ?_
  refine wms 1 h26 rfl fun a29 h29 => ?_; clear h26
  refine wv h29 (r_addN (p := i) (q := 1) rfl rfl rfl (show i + 1 < 9223372036854775808 from (by omega))) rfl rfl fun a30 h30 => ?_; clear h29
  refine wv h30 (r_fieldB (r := 2) fl_32_2 rfl rfl rfl) rfl rfl fun a31 h31 => ?_; clear h30
  refine wv h31 (r_ldb (i := 0) ti_3 rfl rfl rfl rfl) rfl rfl fun a32 h32 => ?_; clear h31
  refine wl_ex (x_lit (n := 2) (cs := [.int .i64 ((i + 1 : Nat) : Int), .int .i64 ((nth x.l i).b)]) ([((i + 1 : Nat) : Int), (nth x.l i).b] : List Int) h32 sl_23 ti_3 rfl rfl rfl (by decide) rfl (by kernel_rfl) rfl (fun q hq w h => Flat.inner _ _) (fun q hq b hb => (Flat.on _ _ hb).elim) rfl rfl) (wanted_none rfl _) ?_
  rintro a33 w33 ⟨v33, h33⟩; clear h32
  refine wms 1 h33 rfl fun a34 h34 => ?_; clear h33
  refine wpList_nil (hK28 _ _ ?_)
  refine wp_ret ?_
  try simp only [Exit.then, Exit.inBlock]
  refine x_ret1 (fn := Try.f96) (t := 4) rfl h34 rfl ?_
  refine ⟨⟨v33, []⟩, rfl, ?_⟩
  rw [show nextsL x.l i = [((i + 1 : Nat) : Int), (nth x.l i).b] from by unfold nextsL; (repeat' split) <;> first | rfl | (exfalso; omega)]
  exact (h34.sh.sel (L' := [.own 3 (⟨v33, [((i + 1 : Nat) : Int), (nth x.l i).b]⟩ : Ls Int)]) [0] (by decide) ⟨rfl, trivial⟩)
 have hp27 : ¬ ((nth x.l i).op = 15) := of_decide_eq_false hb27
 refine wp_skip ?_
 refine hK4 _ _ ?_
 refine wp_seq_k fun K35 hK35 => wp_region_lit ?_
 refine wms 1 h26 rfl fun a36 h36 => ?_; clear h26
 refine wv h36 (r_addN (p := i) (q := 1) rfl rfl rfl (show i + 1 < 9223372036854775808 from (by omega))) rfl rfl fun a37 h37 => ?_; clear h36
 refine wl_ex (x_lit (n := 1) (cs := [.int .i64 ((i + 1 : Nat) : Int)]) ([((i + 1 : Nat) : Int)] : List Int) h37 sl_23 ti_3 rfl rfl rfl (by decide) rfl (by kernel_rfl) rfl (fun q hq w h => Flat.inner _ _) (fun q hq b hb => (Flat.on _ _ hb).elim) rfl rfl) (wanted_none rfl _) ?_
 rintro a38 w38 ⟨v38, h38⟩; clear h37
 refine wms 1 h38 rfl fun a39 h39 => ?_; clear h38
 refine wpList_nil (hK35 _ _ ?_)
 refine wp_ret ?_
 try simp only [Exit.then, Exit.inBlock]
 refine x_ret1 (fn := Try.f96) (t := 4) rfl h39 rfl ?_
 refine ⟨⟨v38, []⟩, rfl, ?_⟩
 rw [show nextsL x.l i = [((i + 1 : Nat) : Int)] from by unfold nextsL; (repeat' split) <;> first | rfl | (exfalso; omega)]
 exact (h39.sh.sel (L' := [.own 3 (⟨v38, [((i + 1 : Nat) : Int)]⟩ : Ls Int)]) [0] (by decide) ⟨rfl, trivial⟩)

end Go.Proofs.Ytfpaahkleienoaa
