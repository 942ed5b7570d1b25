/-
  The law ScAhead, walked.
-/
import Derived.Test.YtfpaahkleienoaaX66
import Derived.Test.YtfpaahkleienoaaM5
import Derived.Test.YtfpaahkleienoaaC2
import Derived.Test.YtfpaahkleienoaaS14
namespace Go.Proofs.Ytfpaahkleienoaa
open Go.RowKit
set_option linter.unusedSimpArgs false
set_option linter.unusedVariables false


theorem take_hund {β : Type} {l : List β} {t : Nat} (h1 : t ≤ l.length) (h2 : t ≤ 100) (h3 : ¬ (t < l.length ∧ t < 100)) : l.take 100 = l.take t := by
  rcases Nat.lt_or_ge t 100 with h | h
  · rw [List.take_of_length_le (by omega), List.take_of_length_le (by omega)]
  · rw [show t = 100 by omega]
def bufPg : Pg := ⟨[[⟨1, 0, 1, 0⟩, ⟨9, 0, 0, 0⟩, ⟨8, 1, 1, 0⟩, ⟨16, 1, 0, 0⟩], [⟨1, 0, 1, 0⟩, ⟨9, 1, 0, 0⟩, ⟨8, 1, 0, 0⟩, ⟨16, 1, 0, 0⟩]], [0, 0], 0, 2⟩
theorem buf_eq {c : Ls (Ls Ins)} {u : Ls Int} (h1 : c.l.map (·.l) = bufPg.code) (h2 : u.l = [0, 0]) : pgN c u 0 2 = bufPg := by unfold pgN pgOf; rw [h1, h2]; rfl
theorem buf_ok {c : Ls (Ls Ins)} {u : Ls Int} (h1 : c.l.map (·.l) = bufPg.code) (h2 : u.l = [0, 0]) : OkPg (pgN c u 0 2) := by rw [buf_eq h1 h2]; exact checkG_code_pos.1 (by decide +kernel)
theorem buf_run0 : runM bufPg 0 [] = ⟨0, 8, [1, 1], [0, 0, 1, 1]⟩ := by kernel_rfl

set_option maxRecDepth 100000 in
set_option maxHeartbeats 4000000 in
theorem buffers_c (W : World) :
    Rets Try.prog 35 [] W (fun v w' => ∃ (c : Ls (Ls Ins)) (u : Ls Int), v = .agg #[c.v, u.v, .int .i64 0, .int .i64 2] ∧ c.l.map (·.l) = bufPg.code ∧ u.l = [0, 0] ∧ Sh0 W w' [.deep 33 c, .own 3 u]) := by
 refine x_enter (N := 18) Try.func35 rfl Try.ntmps35 (Nat.le_of_ble_eq_true rfl) fun a1 hf1 => ?_
 have h1 : St 18 (fun _ => False) W a1 W [] [] := ⟨hf1.sub trivial, Sh0.start _⟩
 clear hf1
 refine wp_seq_k fun K2 hK2 => wp_region_lit ?_
 refine wl_ex (x_alloc h1 ti_25 rfl rfl rfl) (wanted_none rfl _) ?_
 rintro a3 w3 ⟨b3, h3⟩; clear h1
 refine wpList_nil (hK2 _ _ ?_)
 refine wp_seq_k fun K4 hK4 => wp_region_lit ?_
 refine wv h3 (r_build (cs := [.int .i64 1, .int .i64 0, .int .i64 1, .int .i64 0]) rfl rfl (by kernel_rfl)) rfl rfl fun a5 h5 => ?_; clear h3
 refine wv h5 (r_build (cs := [.int .i64 9, .int .i64 0, .int .i64 0, .int .i64 0]) rfl rfl (by kernel_rfl)) rfl rfl fun a6 h6 => ?_; clear h5
 refine wv h6 (r_build (cs := [.int .i64 8, .int .i64 1, .int .i64 1, .int .i64 0]) rfl rfl (by kernel_rfl)) rfl rfl fun a7 h7 => ?_; clear h6
 refine wv h7 (r_build (cs := [.int .i64 16, .int .i64 1, .int .i64 0, .int .i64 0]) rfl rfl (by kernel_rfl)) rfl rfl fun a8 h8 => ?_; clear h7
 refine wl_ex (x_lit (n := 4) (cs := [.int .i64 1, .int .i64 0, .int .i64 1, .int .i64 0, .int .i64 9, .int .i64 0, .int .i64 0, .int .i64 0, .int .i64 8, .int .i64 1, .int .i64 1, .int .i64 0, .int .i64 16, .int .i64 1, .int .i64 0, .int .i64 0]) ([(⟨1, 0, 1, 0⟩ : Ins), (⟨9, 0, 0, 0⟩ : Ins), (⟨8, 1, 1, 0⟩ : Ins), (⟨16, 1, 0, 0⟩ : Ins)] : List Ins) h8 sl_33 ti_32 rfl rfl rfl (by decide) rfl (by kernel_rfl) rfl (fun q hq w h => Flat.inner _ _) (fun q hq b hb => (Flat.on _ _ hb).elim) rfl rfl) (wanted_none rfl _) ?_
 rintro a9 w9 ⟨v9, h9⟩; clear h8
 refine wms 1 h9 rfl fun a10 h10 => ?_; clear h9
 refine wpList_nil (hK4 _ _ ?_)
 refine wp_seq_k fun K11 hK11 => wp_region_lit ?_
 refine wv h10 (r_build (cs := [.int .i64 1, .int .i64 0, .int .i64 1, .int .i64 0]) rfl rfl (by kernel_rfl)) rfl rfl fun a12 h12 => ?_; clear h10
 refine wv h12 (r_build (cs := [.int .i64 9, .int .i64 1, .int .i64 0, .int .i64 0]) rfl rfl (by kernel_rfl)) rfl rfl fun a13 h13 => ?_; clear h12
 refine wv h13 (r_build (cs := [.int .i64 8, .int .i64 1, .int .i64 0, .int .i64 0]) rfl rfl (by kernel_rfl)) rfl rfl fun a14 h14 => ?_; clear h13
 refine wv h14 (r_build (cs := [.int .i64 16, .int .i64 1, .int .i64 0, .int .i64 0]) rfl rfl (by kernel_rfl)) rfl rfl fun a15 h15 => ?_; clear h14
 refine wl_ex (x_lit (n := 4) (cs := [.int .i64 1, .int .i64 0, .int .i64 1, .int .i64 0, .int .i64 9, .int .i64 1, .int .i64 0, .int .i64 0, .int .i64 8, .int .i64 1, .int .i64 0, .int .i64 0, .int .i64 16, .int .i64 1, .int .i64 0, .int .i64 0]) ([(⟨1, 0, 1, 0⟩ : Ins), (⟨9, 1, 0, 0⟩ : Ins), (⟨8, 1, 0, 0⟩ : Ins), (⟨16, 1, 0, 0⟩ : Ins)] : List Ins) h15 sl_33 ti_32 rfl rfl rfl (by decide) rfl (by kernel_rfl) rfl (fun q hq w h => Flat.inner _ _) (fun q hq b hb => (Flat.on _ _ hb).elim) rfl rfl) (wanted_none rfl _) ?_
 rintro a16 w16 ⟨v16, h16⟩; clear h15
 refine wms 1 h16 rfl fun a17 h17 => ?_; clear h16
 refine wpList_nil (hK11 _ _ ?_)
 refine wp_seq_k fun K18 hK18 => wp_region_lit ?_
 refine wms 2 h17 rfl fun a19 h19 => ?_; clear h17
 refine wl_ex (x_lit (n := 2) (cs := [v9, v16]) ([⟨v9⟩, ⟨v16⟩] : List RV) h19 sl_22 ti_33 rfl rfl rfl (by decide) rfl (by obtain ⟨A21, n21, c21, (e21 : v9 = _)⟩ := ((h19.sh.own 1 rfl)).form; rw [e21]; obtain ⟨A20, n20, c20, (e20 : v16 = _)⟩ := ((h19.sh.own 0 rfl)).form; rw [e20]; kernel_rfl) rfl (fun _ _ _ _ => trivial) (fun q hq b hb => (Flat.on _ _ hb).elim) rfl rfl) (wanted_none rfl _) ?_
 rintro a22 w22 ⟨v22, h22⟩
 have h23 := h22.sel (L' := [.own 33 (⟨v22, [⟨v9⟩, ⟨v16⟩]⟩ : Ls RV), .own 32 (⟨v9, [(⟨1, 0, 1, 0⟩ : Ins), (⟨9, 0, 0, 0⟩ : Ins), (⟨8, 1, 1, 0⟩ : Ins), (⟨16, 1, 0, 0⟩ : Ins)]⟩ : Ls Ins), .own 32 (⟨v16, [(⟨1, 0, 1, 0⟩ : Ins), (⟨9, 1, 0, 0⟩ : Ins), (⟨8, 1, 0, 0⟩ : Ins), (⟨16, 1, 0, 0⟩ : Ins)]⟩ : Ls Ins), .blk b3 25 [(.slice none 0 0), (.slice none 0 0), .int .i64 0, .int .i64 0]]) [0, 2, 1, 3] (by decide) ⟨rfl, rfl, rfl, rfl, trivial⟩
 have h24 : St 18 (fun _ => False) W a22 w22 _ _ := ⟨h23.fr, (Sh.close (B := matX (.own 32) 33 v22 [(⟨v9, [(⟨1, 0, 1, 0⟩ : Ins), (⟨9, 0, 0, 0⟩ : Ins), (⟨8, 1, 1, 0⟩ : Ins), (⟨16, 1, 0, 0⟩ : Ins)]⟩ : Ls Ins), (⟨v16, [(⟨1, 0, 1, 0⟩ : Ins), (⟨9, 1, 0, 0⟩ : Ins), (⟨8, 1, 0, 0⟩ : Ins), (⟨16, 1, 0, 0⟩ : Ins)]⟩ : Ls Ins)]) h23.sh).matDeep own_mat⟩
 clear h23
 clear h19
 refine wl_ex (x_lit (n := 2) (cs := [.int .i64 0, .int .i64 0]) ([0, 0] : List Int) h24 sl_23 ti_3 rfl rfl rfl (by decide) rfl (by kernel_rfl) rfl (fun q hq w h => Flat.inner _ _) (fun q hq b hb => (Flat.on _ _ hb).elim) rfl rfl) (wanted_none rfl _) ?_
 rintro a25 w25 ⟨v25, h25⟩; clear h24
 refine wv h25 (r_build (cs := [v22, v25, .int .i64 0, .int .i64 2]) rfl rfl (by obtain ⟨A27, n27, c27, (e27 : v25 = _)⟩ := ((h25.sh.own 0 rfl)).form; rw [e27]; obtain ⟨A26, n26, c26, (e26 : v22 = _)⟩ := ((h25.sh.deep 1 rfl)).form; rw [e26]; kernel_rfl)) rfl rfl fun a28 h28 => ?_; clear h25
 refine wl_ex (x_stb (i := 2) (vs := [v22, v25, .int .i64 0, .int .i64 2]) (cs' := [v22, v25, .int .i64 0, .int .i64 2]) h28 ti_25 rfl rfl rfl rfl rfl rfl rfl (allOne_cons ((h28.sh.deep 1 rfl)).one (allOne_cons ((h28.sh.own 0 rfl)).one (allOne_cons rfl (allOne_cons rfl allOne_nil)))) (Nat.le_of_ble_eq_true rfl) rfl) (wanted_none rfl _) ?_
 rintro a29 w29 h29
 clear h28
 refine wpList_nil (hK18 _ _ ?_)
 refine wp_ret ?_
 try simp only [Exit.then, Exit.inBlock]
 refine x_ret1c (fn := Try.f35) (t := 0) (i := 2) ti_25 rfl h29 rfl rfl rfl ?_
 exact ⟨⟨v22, [(⟨v9, [(⟨1, 0, 1, 0⟩ : Ins), (⟨9, 0, 0, 0⟩ : Ins), (⟨8, 1, 1, 0⟩ : Ins), (⟨16, 1, 0, 0⟩ : Ins)]⟩ : Ls Ins), (⟨v16, [(⟨1, 0, 1, 0⟩ : Ins), (⟨9, 1, 0, 0⟩ : Ins), (⟨8, 1, 0, 0⟩ : Ins), (⟨16, 1, 0, 0⟩ : Ins)]⟩ : Ls Ins)]⟩, ⟨v25, [0, 0]⟩, rfl, rfl, rfl, (h29.sh.sel (L' := [.deep 33 (⟨v22, [(⟨v9, [(⟨1, 0, 1, 0⟩ : Ins), (⟨9, 0, 0, 0⟩ : Ins), (⟨8, 1, 1, 0⟩ : Ins), (⟨16, 1, 0, 0⟩ : Ins)]⟩ : Ls Ins), (⟨v16, [(⟨1, 0, 1, 0⟩ : Ins), (⟨9, 1, 0, 0⟩ : Ins), (⟨8, 1, 0, 0⟩ : Ins), (⟨16, 1, 0, 0⟩ : Ins)]⟩ : Ls Ins)]⟩ : Ls (Ls Ins)), .own 3 (⟨v25, [0, 0]⟩ : Ls Int)]) [1, 0] (by decide) ⟨rfl, rfl, trivial⟩)⟩

set_option maxRecDepth 100000 in
set_option maxHeartbeats 1000000 in
theorem kints_c (x y : Ls Int) (W : World) (hx : x.At W) (hy : y.At W) :
    Rets Try.prog 36 [x.v, y.v] W (fun v w' => v = .bool (decide (x.l = y.l)) ∧ Sh0 W w' []) := by
 refine x_enter (N := 26) Try.func36 rfl Try.ntmps36 (Nat.le_of_ble_eq_true rfl) fun a1 hf1 => ?_
 have h1 : St 26 (fun _ => False) W a1 W [(0, x.v), (1, y.v)] [.at_ x, .at_ y] := ⟨hf1.sub ⟨rfl, rfl, trivial⟩, Sh0.ext2 hx hy⟩
 clear hf1
 refine wp_seq_k fun K2 hK2 => wp_region_lit ?_
 refine wms 1 h1 rfl fun a3 h3 => ?_; clear h1
 refine wpList_nil (hK2 _ _ ?_)
 refine wp_seq_k fun K4 hK4 => ?_
 refine wp_seq_k fun K5 hK5 => wp_region_lit ?_
 refine wms 1 h3 rfl fun a6 h6 => ?_; clear h3
 have hl7 : x.l.length ≤ 140737488355328 := (h6.sh.at 0 rfl).len
 refine wv h6 (r_len (s := x) (n := x.l.length) sl_23 rfl rfl (fun w h => (h.at 0 rfl)) rfl) rfl rfl fun a8 h8 => ?_; clear h6
 refine wms 1 h8 rfl fun a9 h9 => ?_; clear h8
 have hl10 : y.l.length ≤ 140737488355328 := (h9.sh.at 1 rfl).len
 refine wv h9 (r_len (s := y) (n := y.l.length) sl_23 rfl rfl (fun w h => (h.at 1 rfl)) rfl) rfl rfl fun a11 h11 => ?_; clear h9
 refine wv h11 (r_neqN (p := x.l.length) (q := y.l.length) rfl rfl rfl) rfl rfl fun a12 h12 => ?_; clear h11
 refine wpList_nil (hK5 _ _ ?_)
 refine x_cond h12 rfl (fun hb13 => ?_) (fun hb13 => ?_)
 ·
  have hp13 : x.l.length ≠ y.l.length := of_decide_eq_true hb13
  refine wp_seq_k fun K14 hK14 => wp_region_lit ?_
  refine wms 1 h12 rfl fun a15 h15 => ?_; clear h12
  refine wpList_nil (hK14 _ _ ?_)
  refine wp_ret ?_
  try simp only [Exit.then, Exit.inBlock]
  refine x_ret1 (fn := Try.f36) (t := 4) rfl h15 rfl ?_
  refine ⟨?_, (h15.sh.sel [] (by decide) trivial)⟩
  congr 1
  first | (exact (decide_eq_true (ext_nth _ _ (by omega) fun i hi => hall i (by omega))).symm) | (refine (decide_eq_false fun e => ?_).symm; first | (rw [e] at *; omega) | (simp_all; done))
 have hp13 : ¬ (x.l.length ≠ y.l.length) := of_decide_eq_false hb13
 refine wp_skip ?_
 refine hK4 _ _ ?_
 refine wp_seq_k fun K16 hK16 => ?_
 refine wp_seq_k fun K17 hK17 => wp_region_lit ?_
 refine wms 1 h12 rfl fun a18 h18 => ?_; clear h12
 refine wpList_nil (hK17 _ _ ?_)
 refine wp_block ?_
 refine x_loop (fun m a w => ∃ (k : Nat), (k ≤ x.l.length) ∧ (∀ j, j < k → nth x.l j = nth y.l j) ∧ St 26 (fun _ => False) W a w [(0, x.v), (1, y.v), (5, .int .i64 ((k : Nat) : Int))] [.at_ x, .at_ y] ∧ m = x.l.length - k) ⟨_, 0, (by omega), (fun j hj => absurd hj (by omega)), h18.nrm ⟨rfl, rfl, rfl, trivial⟩ [0, 1] (by decide) ⟨rfl, rfl, trivial⟩, rfl⟩ ?_
 clear h18
 rintro m19 a19 w19 ⟨k, hk, hall, h19, hm19⟩
 refine wp_seq_k fun K20 hK20 => ?_
 refine wp_seq_k fun K21 hK21 => wp_region_lit ?_
 refine wms 2 h19 rfl fun a22 h22 => ?_; clear h19
 refine wv h22 (r_len (s := x) (n := x.l.length) sl_23 rfl rfl (fun w h => (h.at 0 rfl)) rfl) rfl rfl fun a23 h23 => ?_; clear h22
 refine wv h23 (r_lssN (p := k) (q := x.l.length) rfl rfl rfl) rfl rfl fun a24 h24 => ?_; clear h23
 refine wpList_nil (hK21 _ _ ?_)
 refine x_cond h24 rfl (fun hb25 => ?_) (fun hb25 => ?_)
 ·
  have hp25 : k < x.l.length := of_decide_eq_true hb25
  refine wp_skip ?_
  refine hK20 _ _ ?_
  refine wp_seq_k fun K26 hK26 => ?_
  refine wp_block ?_
  refine wp_seq_k fun K27 hK27 => ?_
  refine x_quiet (by kernel_rfl) (by kernel_rfl) h24 fun Z28 hZ28 => ?_
  have hq28 := h24.fr
  refine wq_val hq28 (r_move rfl rfl) (wanted_none rfl _) rfl rfl fun a29 hq29 => ?_; clear hq28
  refine wq_val hq29 (r_move rfl rfl) (wanted_none rfl _) rfl rfl fun a30 hq30 => ?_; clear hq29
  refine wq_val hq30 (r_ixN (s := x) (q := k) sl_23 ti_3 rfl rfl rfl (fun w h => (h.at 0 rfl)) (show k < x.l.length from (by omega))) (wanted_none rfl _) rfl rfl fun a31 hq31 => ?_; clear hq30
  refine wq_val hq31 (r_lde (s := x) (i := k) (v := .int .i64 (nth x.l k)) ti_3 rfl rfl rfl (fun w h => (h.at 0 rfl)) (show k < x.l.length from (by omega)) (Nat.le_of_ble_eq_true rfl) rfl) (wanted_none rfl _) rfl rfl fun a32 hq32 => ?_; clear hq31
  refine wq_val hq32 (r_move rfl rfl) (wanted_none rfl _) rfl rfl fun a33 hq33 => ?_; clear hq32
  refine wq_val hq33 (r_move rfl rfl) (wanted_none rfl _) rfl rfl fun a34 hq34 => ?_; clear hq33
  refine wq_val hq34 (r_ixN (s := y) (q := k) sl_23 ti_3 rfl rfl rfl (fun w h => (h.at 1 rfl)) (show k < y.l.length from (by omega))) (wanted_none rfl _) rfl rfl fun a35 hq35 => ?_; clear hq34
  refine wq_val hq35 (r_lde (s := y) (i := k) (v := .int .i64 (nth y.l k)) ti_3 rfl rfl rfl (fun w h => (h.at 1 rfl)) (show k < y.l.length from (by omega)) (Nat.le_of_ble_eq_true rfl) rfl) (wanted_none rfl _) rfl rfl fun a36 hq36 => ?_; clear hq35
  refine wq_val hq36 (r_neqI (p := nth x.l k) (q := nth y.l k) rfl rfl rfl) (wanted_none rfl _) rfl rfl fun a37 hq37 => ?_; clear hq36
  refine wpQuiet_nil (hZ28 _ fun w38 hw38 => ?_)
  have h38 : St 26 (fun _ => False) W a37 w38 _ _ := ⟨hq37, hw38⟩
  clear hq37 hw38 h24
  refine hK27 _ _ ?_
  refine x_cond h38 rfl (fun hb39 => ?_) (fun hb39 => ?_)
  ·
   have hp39 : nth x.l k ≠ nth y.l k := of_decide_eq_true hb39
   refine wp_seq_k fun K40 hK40 => wp_region_lit ?_
   refine wms 1 h38 rfl fun a41 h41 => ?_; clear h38
   refine wpList_nil (hK40 _ _ ?_)
   refine wp_ret ?_
   try simp only [Exit.then, Exit.inBlock]
   refine x_ret1 (fn := Try.f36) (t := 4) rfl h41 rfl ?_
   refine ⟨?_, (h41.sh.sel [] (by decide) trivial)⟩
   congr 1
   first | (exact (decide_eq_true (ext_nth _ _ (by omega) fun i hi => hall i (by omega))).symm) | (refine (decide_eq_false fun e => ?_).symm; first | (rw [e] at *; omega) | (simp_all; done))
  have hp39 : ¬ (nth x.l k ≠ nth y.l k) := of_decide_eq_false hb39
  refine wp_skip ?_
  refine hK26 _ _ ?_
  refine wp_region_lit ?_
  refine wms 1 h38 rfl fun a42 h42 => ?_; clear h38
  refine wv h42 (r_addN (p := k) (q := 1) rfl rfl rfl (show k + 1 < 9223372036854775808 from (by omega))) rfl rfl fun a43 h43 => ?_; clear h42
  refine wms 1 h43 rfl fun a44 h44 => ?_; clear h43
  refine wpList_nil ?_
  refine x_again ⟨_, ?_, k + 1, ?_, ?_, h44.nrm ⟨rfl, rfl, rfl, trivial⟩ [0, 1] (by decide) ⟨rfl, rfl, trivial⟩, rfl⟩
  · rw [hm19]; first | omega | (simp only [lens9]; omega)
  · omega
  · intro j hj; rcases Nat.lt_or_ge j k with h | h; exact hall j h; obtain rfl : j = k := (by omega); omega
 have hp25 : ¬ (k < x.l.length) := of_decide_eq_false hb25
 refine wp_exit ?_
 refine hK16 _ _ ?_
 refine wp_seq_k fun K45 hK45 => wp_region_lit ?_
 refine wms 1 h24 rfl fun a46 h46 => ?_; clear h24
 refine wpList_nil (hK45 _ _ ?_)
 refine wp_ret ?_
 try simp only [Exit.then, Exit.inBlock]
 refine x_ret1 (fn := Try.f36) (t := 4) rfl h46 rfl ?_
 refine ⟨?_, (h46.sh.sel [] (by decide) trivial)⟩
 congr 1
 first | (exact (decide_eq_true (ext_nth _ _ (by omega) fun i hi => hall i (by omega))).symm) | (refine (decide_eq_false fun e => ?_).symm; first | (rw [e] at *; omega) | (simp_all; done))

set_option maxRecDepth 100000 in
set_option maxHeartbeats 2000000 in
theorem kvast_c (code : Ls (Ls Ins)) (words : Ls Int) (locks regs : Int) (W : World) (hcode : code.At W) (hwords : words.At W) :
    Rets Try.prog 16 [.agg #[code.v, words.v, .int .i64 locks, .int .i64 regs]] W (fun v w' => v = .bool (vastG (code.l.map (·.l)) words.l) ∧ Sh0 W w' []) := by
 refine x_enter (N := 39) Try.func16 rfl Try.ntmps16 (Nat.le_of_ble_eq_true rfl) fun a1 hf1 => ?_
 have h1 : St 39 (fun _ => False) W a1 W [(0, .agg #[code.v, words.v, .int .i64 locks, .int .i64 regs])] [.at_ code, .at_ words] := ⟨hf1.sub ⟨rfl, trivial⟩, Sh0.ext2 hcode hwords⟩
 clear hf1
 refine wp_seq_k fun K2 hK2 => wp_region_lit ?_
 refine wl_ex (x_box (cs := [code.v, words.v, .int .i64 locks, .int .i64 regs]) h1 rfl rfl rfl rfl rfl) (wanted_none rfl _) ?_
 rintro a3 w3 ⟨b3, h3⟩; clear h1
 refine wms 1 h3 rfl fun a4 h4 => ?_; clear h3
 refine wpList_nil (hK2 _ _ ?_)
 refine wp_seq_k fun K5 hK5 => wp_region_lit ?_
 refine wv h4 (r_fieldB (r := 0) fl_25_0 rfl rfl rfl) rfl rfl fun a6 h6 => ?_; clear h4
 refine wv h6 (r_ldb (i := 0) ti_22 rfl rfl rfl rfl) rfl rfl fun a7 h7 => ?_; clear h6
 have hl8 : code.l.length ≤ 140737488355328 := (h7.sh.at 1 rfl).len
 refine wv h7 (r_len (s := code) (n := code.l.length) sl_22 rfl rfl (fun w h => (h.at 1 rfl)) rfl) rfl rfl fun a9 h9 => ?_; clear h7
 refine wv h9 (r_fieldB (r := 1) fl_25_1 rfl rfl rfl) rfl rfl fun a10 h10 => ?_; clear h9
 refine wv h10 (r_ldb (i := 0) ti_23 rfl rfl rfl rfl) rfl rfl fun a11 h11 => ?_; clear h10
 have hl12 : words.l.length ≤ 140737488355328 := (h11.sh.at 2 rfl).len
 refine wv h11 (r_len (s := words) (n := words.l.length) sl_23 rfl rfl (fun w h => (h.at 2 rfl)) rfl) rfl rfl fun a13 h13 => ?_; clear h11
 refine wv h13 (r_addN (p := code.l.length) (q := words.l.length) rfl rfl rfl (show code.l.length + words.l.length < 9223372036854775808 from (by first | omega | (have := (hcode.inner t (by omega) : (nth code.l t).At W).len; omega)))) rfl rfl fun a14 h14 => ?_; clear h13
 refine wms 1 h14 rfl fun a15 h15 => ?_; clear h14
 refine wpList_nil (hK5 _ _ ?_)
 refine wp_seq_k fun K16 hK16 => ?_
 refine wp_seq_k fun K17 hK17 => wp_region_lit ?_
 refine wms 1 h15 rfl fun a18 h18 => ?_; clear h15
 refine wpList_nil (hK17 _ _ ?_)
 refine wp_block ?_
 have hwl := hwords.len
 have hcl := hcode.len
 refine x_loop (fun m a w => ∃ (n t : Nat), (t ≤ code.l.length ∧ t ≤ 100) ∧ ((n : Int) = code.l.length + words.l.length + (((code.l.map (·.l)).take t).map fun s => (s.length : Int)).sum) ∧ (n ≤ (t + 2) * 140737488355328) ∧ St 39 (fun _ => False) W a w [(1, .pointer (some ⟨b3, 0, none⟩)), (3, .int .i64 ((n : Nat) : Int)), (4, .int .i64 ((t : Nat) : Int))] [.blk b3 25 [code.v, words.v, .int .i64 locks, .int .i64 regs], .at_ code, .at_ words] ∧ m = code.l.length - t) ⟨_, code.l.length + words.l.length, 0, (by omega), (by simp), (by omega), h18.nrm ⟨rfl, rfl, rfl, trivial⟩ [0, 1, 2] (by decide) ⟨rfl, rfl, rfl, trivial⟩, rfl⟩ ?_
 clear h18
 rintro m19 a19 w19 ⟨n, t, ht, hn, hn2, h19, hm19⟩
 refine wp_seq_k fun K20 hK20 => ?_
 refine wp_seq_k fun K21 hK21 => wp_region_lit ?_
 refine wms 1 h19 rfl fun a22 h22 => ?_; clear h19
 refine wv h22 (r_fieldB (r := 0) fl_25_0 rfl rfl rfl) rfl rfl fun a23 h23 => ?_; clear h22
 refine wv h23 (r_ldb (i := 0) ti_22 rfl rfl rfl rfl) rfl rfl fun a24 h24 => ?_; clear h23
 refine wv h24 (r_len (s := code) (n := code.l.length) sl_22 rfl rfl (fun w h => (h.at 1 rfl)) rfl) rfl rfl fun a25 h25 => ?_; clear h24
 refine wv h25 (r_lssN (p := t) (q := code.l.length) rfl rfl rfl) rfl rfl fun a26 h26 => ?_; clear h25
 refine wms 1 h26 rfl fun a27 h27 => ?_; clear h26
 rcases Bool.eq_false_or_eq_true (decide (t < code.l.length)) with hb28 | hb28
 ·
  have hp28 : t < code.l.length := of_decide_eq_true hb28
  refine wl_val h27 (r_move rfl rfl) (wanted_yes h27.fr rfl rfl rfl rfl hb28) rfl rfl fun a29 h29 => ?_; clear h27
  refine wl_val h29 (r_lssN (p := t) (q := 100) rfl rfl rfl) (wanted_yes h29.fr rfl rfl rfl rfl hb28) rfl rfl fun a30 h30 => ?_; clear h29
  refine wv h30 (r_pickT rfl rfl hb28 rfl) rfl rfl fun a31 h31 => ?_; clear h30
  refine wpList_nil (hK21 _ _ ?_)
  refine x_cond h31 rfl (fun hb32 => ?_) (fun hb32 => ?_)
  ·
   have hp32 : t < 100 := of_decide_eq_true hb32
   refine wp_skip ?_
   refine hK20 _ _ ?_
   have hlt := (hcode.inner t (by omega) : (nth code.l t).At W).len
   refine wp_seq_k fun K33 hK33 => ?_
   refine wp_block ?_
   refine wp_region_lit ?_
   refine wms 1 h31 rfl fun a34 h34 => ?_; clear h31
   refine wv h34 (r_fieldB (r := 0) fl_25_0 rfl rfl rfl) rfl rfl fun a35 h35 => ?_; clear h34
   refine wv h35 (r_ldb (i := 0) ti_22 rfl rfl rfl rfl) rfl rfl fun a36 h36 => ?_; clear h35
   refine wms 1 h36 rfl fun a37 h37 => ?_; clear h36
   refine wv h37 (r_ixN (s := code) (q := t) sl_22 ti_33 rfl rfl rfl (fun w h => (h.at 1 rfl)) (show t < code.l.length from (by omega))) rfl rfl fun a38 h38 => ?_; clear h37
   refine wv h38 (r_lde (s := code) (i := t) (v := (nth code.l t).v) ti_33 rfl rfl rfl (fun w h => (h.at 1 rfl)) (show t < code.l.length from (by omega)) (Nat.le_of_ble_eq_true rfl) rfl) rfl rfl fun a39 h39 => ?_; clear h38
   have hl40 : ((nth code.l t).l).length ≤ 140737488355328 := ((h39.sh.at 1 rfl).nth t (show t < code.l.length from (by omega))).len
   refine wv h39 (r_len (s := nth code.l t) (n := ((nth code.l t).l).length) sl_33 rfl rfl (fun w h => ((h.at 1 rfl).nth t (show t < code.l.length from (by omega)))) rfl) rfl rfl fun a41 h41 => ?_; clear h39
   refine wv h41 (r_addN (p := n) (q := ((nth code.l t).l).length) rfl rfl rfl (show n + (((nth code.l t).l).length) < 9223372036854775808 from (by first | omega | (have := (hcode.inner t (by omega) : (nth code.l t).At W).len; omega)))) rfl rfl fun a42 h42 => ?_; clear h41
   refine wms 1 h42 rfl fun a43 h43 => ?_; clear h42
   refine wpList_nil (hK33 _ _ ?_)
   refine wp_region_lit ?_
   refine wms 1 h43 rfl fun a44 h44 => ?_; clear h43
   refine wv h44 (r_addN (p := t) (q := 1) rfl rfl rfl (show t + 1 < 9223372036854775808 from (by first | omega | (have := (hcode.inner t (by omega) : (nth code.l t).At W).len; omega)))) rfl rfl fun a45 h45 => ?_; clear h44
   refine wms 1 h45 rfl fun a46 h46 => ?_; clear h45
   refine wpList_nil ?_
   refine x_again ⟨_, ?_, n + (((nth code.l t).l).length), t + 1, ?_, ?_, ?_, h46.nrm ⟨rfl, rfl, rfl, trivial⟩ [0, 1, 2] (by decide) ⟨rfl, rfl, rfl, trivial⟩, rfl⟩
   · rw [hm19]; first | omega | (simp only [lens9]; omega)
   · omega
   · rw [take_succ_nth _ _ (by simp; omega), List.map_append, List.sum_append, nth_map' _ _ _ (by omega)]; simp only [List.map_cons, List.map_nil, List.sum_cons, List.sum_nil]; omega
   · omega
  have hp32 : ¬ (t < 100) := of_decide_eq_false hb32
  refine wp_exit ?_
  refine hK16 _ _ ?_
  refine wp_seq_k fun K47 hK47 => wp_region_lit ?_
  refine wms 1 h31 rfl fun a48 h48 => ?_; clear h31
  refine wv h48 (r_gtrN (p := n) (q := 5000) rfl rfl rfl) rfl rfl fun a49 h49 => ?_; clear h48
  refine wms 1 h49 rfl fun a50 h50 => ?_; clear h49
  rcases Bool.eq_false_or_eq_true (decide (5000 < n)) with hb51 | hb51
  ·
   have hp51 : 5000 < n := of_decide_eq_true hb51
   refine wl_skip h50 (wanted_no h50.fr rfl rfl rfl rfl hb51) rfl rfl fun a52 h52 => ?_; clear h50
   refine wl_skip h52 (wanted_no h52.fr rfl rfl rfl rfl hb51) rfl rfl fun a53 h53 => ?_; clear h52
   refine wl_skip h53 (wanted_no h53.fr rfl rfl rfl rfl hb51) rfl rfl fun a54 h54 => ?_; clear h53
   refine wl_skip h54 (wanted_no h54.fr rfl rfl rfl rfl hb51) rfl rfl fun a55 h55 => ?_; clear h54
   refine wv h55 (r_pickT rfl rfl hb51 rfl) rfl rfl fun a56 h56 => ?_; clear h55
   refine wms 1 h56 rfl fun a57 h57 => ?_; clear h56
   refine wpList_nil (hK47 _ _ ?_)
   refine wp_ret ?_
   try simp only [Exit.then, Exit.inBlock]
   refine x_ret1 (fn := Try.f16) (t := 2) rfl h57 rfl ?_
   refine ⟨?_, (h57.sh.sel [] (by decide) trivial)⟩
   congr 1
   have hv : vastG (code.l.map (·.l)) words.l = (decide (5000 < n) || decide (100 < code.l.length)) := by unfold vastG; rw [take_hund (l := code.l.map (·.l)) (t := t) (by simp; omega) (by omega) (by simp; omega), List.length_map]; congr 1 <;> (rw [decide_eq_decide]; omega)
   rw [hv]
   first | (rw [show decide (5000 < n) = true by assumption]; rfl) | (rw [show decide (5000 < n) = false by assumption]; rfl)
  have hp51 : ¬ (5000 < n) := of_decide_eq_false hb51
  refine wl_val h50 (r_fieldB (r := 0) fl_25_0 rfl rfl rfl) (wanted_yes h50.fr rfl rfl rfl rfl hb51) rfl rfl fun a58 h58 => ?_; clear h50
  refine wl_val h58 (r_ldb (i := 0) ti_22 rfl rfl rfl rfl) (wanted_yes h58.fr rfl rfl rfl rfl hb51) rfl rfl fun a59 h59 => ?_; clear h58
  refine wl_val h59 (r_len (s := code) (n := code.l.length) sl_22 rfl rfl (fun w h => (h.at 1 rfl)) rfl) (wanted_yes h59.fr rfl rfl rfl rfl hb51) rfl rfl fun a60 h60 => ?_; clear h59
  refine wl_val h60 (r_gtrN (p := code.l.length) (q := 100) rfl rfl rfl) (wanted_yes h60.fr rfl rfl rfl rfl hb51) rfl rfl fun a61 h61 => ?_; clear h60
  refine wv h61 (r_pickF rfl rfl hb51 rfl) rfl rfl fun a62 h62 => ?_; clear h61
  refine wms 1 h62 rfl fun a63 h63 => ?_; clear h62
  refine wpList_nil (hK47 _ _ ?_)
  refine wp_ret ?_
  try simp only [Exit.then, Exit.inBlock]
  refine x_ret1 (fn := Try.f16) (t := 2) rfl h63 rfl ?_
  refine ⟨?_, (h63.sh.sel [] (by decide) trivial)⟩
  congr 1
  have hv : vastG (code.l.map (·.l)) words.l = (decide (5000 < n) || decide (100 < code.l.length)) := by unfold vastG; rw [take_hund (l := code.l.map (·.l)) (t := t) (by simp; omega) (by omega) (by simp; omega), List.length_map]; congr 1 <;> (rw [decide_eq_decide]; omega)
  rw [hv]
  first | (rw [show decide (5000 < n) = true by assumption]; rfl) | (rw [show decide (5000 < n) = false by assumption]; rfl)
 have hp28 : ¬ (t < code.l.length) := of_decide_eq_false hb28
 refine wl_skip h27 (wanted_no h27.fr rfl rfl rfl rfl hb28) rfl rfl fun a64 h64 => ?_; clear h27
 refine wl_skip h64 (wanted_no h64.fr rfl rfl rfl rfl hb28) rfl rfl fun a65 h65 => ?_; clear h64
 refine wv h65 (r_pickF rfl rfl hb28 rfl) rfl rfl fun a66 h66 => ?_; clear h65
 refine wpList_nil (hK21 _ _ ?_)
 refine x_condF h66 rfl rfl ?_
 refine wp_exit ?_
 refine hK16 _ _ ?_
 refine wp_seq_k fun K67 hK67 => wp_region_lit ?_
 refine wms 1 h66 rfl fun a68 h68 => ?_; clear h66
 refine wv h68 (r_gtrN (p := n) (q := 5000) rfl rfl rfl) rfl rfl fun a69 h69 => ?_; clear h68
 refine wms 1 h69 rfl fun a70 h70 => ?_; clear h69
 rcases Bool.eq_false_or_eq_true (decide (5000 < n)) with hb71 | hb71
 ·
  have hp71 : 5000 < n := of_decide_eq_true hb71
  refine wl_skip h70 (wanted_no h70.fr rfl rfl rfl rfl hb71) rfl rfl fun a72 h72 => ?_; clear h70
  refine wl_skip h72 (wanted_no h72.fr rfl rfl rfl rfl hb71) rfl rfl fun a73 h73 => ?_; clear h72
  refine wl_skip h73 (wanted_no h73.fr rfl rfl rfl rfl hb71) rfl rfl fun a74 h74 => ?_; clear h73
  refine wl_skip h74 (wanted_no h74.fr rfl rfl rfl rfl hb71) rfl rfl fun a75 h75 => ?_; clear h74
  refine wv h75 (r_pickT rfl rfl hb71 rfl) rfl rfl fun a76 h76 => ?_; clear h75
  refine wms 1 h76 rfl fun a77 h77 => ?_; clear h76
  refine wpList_nil (hK67 _ _ ?_)
  refine wp_ret ?_
  try simp only [Exit.then, Exit.inBlock]
  refine x_ret1 (fn := Try.f16) (t := 2) rfl h77 rfl ?_
  refine ⟨?_, (h77.sh.sel [] (by decide) trivial)⟩
  congr 1
  have hv : vastG (code.l.map (·.l)) words.l = (decide (5000 < n) || decide (100 < code.l.length)) := by unfold vastG; rw [take_hund (l := code.l.map (·.l)) (t := t) (by simp; omega) (by omega) (by simp; omega), List.length_map]; congr 1 <;> (rw [decide_eq_decide]; omega)
  rw [hv]
  first | (rw [show decide (5000 < n) = true by assumption]; rfl) | (rw [show decide (5000 < n) = false by assumption]; rfl)
 have hp71 : ¬ (5000 < n) := of_decide_eq_false hb71
 refine wl_val h70 (r_fieldB (r := 0) fl_25_0 rfl rfl rfl) (wanted_yes h70.fr rfl rfl rfl rfl hb71) rfl rfl fun a78 h78 => ?_; clear h70
 refine wl_val h78 (r_ldb (i := 0) ti_22 rfl rfl rfl rfl) (wanted_yes h78.fr rfl rfl rfl rfl hb71) rfl rfl fun a79 h79 => ?_; clear h78
 refine wl_val h79 (r_len (s := code) (n := code.l.length) sl_22 rfl rfl (fun w h => (h.at 1 rfl)) rfl) (wanted_yes h79.fr rfl rfl rfl rfl hb71) rfl rfl fun a80 h80 => ?_; clear h79
 refine wl_val h80 (r_gtrN (p := code.l.length) (q := 100) rfl rfl rfl) (wanted_yes h80.fr rfl rfl rfl rfl hb71) rfl rfl fun a81 h81 => ?_; clear h80
 refine wv h81 (r_pickF rfl rfl hb71 rfl) rfl rfl fun a82 h82 => ?_; clear h81
 refine wms 1 h82 rfl fun a83 h83 => ?_; clear h82
 refine wpList_nil (hK67 _ _ ?_)
 refine wp_ret ?_
 try simp only [Exit.then, Exit.inBlock]
 refine x_ret1 (fn := Try.f16) (t := 2) rfl h83 rfl ?_
 refine ⟨?_, (h83.sh.sel [] (by decide) trivial)⟩
 congr 1
 have hv : vastG (code.l.map (·.l)) words.l = (decide (5000 < n) || decide (100 < code.l.length)) := by unfold vastG; rw [take_hund (l := code.l.map (·.l)) (t := t) (by simp; omega) (by omega) (by simp; omega), List.length_map]; congr 1 <;> (rw [decide_eq_decide]; omega)
 rw [hv]
 first | (rw [show decide (5000 < n) = true by assumption]; rfl) | (rw [show decide (5000 < n) = false by assumption]; rfl)

set_option maxRecDepth 100000 in
set_option maxHeartbeats 8000000 in
theorem scAhead_v (code : Ls (Ls Ins)) (words script : Ls Int) (locks regs : Int) (W : World) (hcode : code.At W) (hwords : words.At W) (hscript : script.At W) (hsl : script.l.length * 8 ≤ 140737488351232) (hv : vastG (code.l.map (·.l)) words.l = true) :
    Rets Try.prog 9 [.agg #[code.v, words.v, .int .i64 locks, .int .i64 regs], script.v] W (fun v w' => v = .bool true ∧ Sh0 W w' []) := by
 refine x_enter (N := 102) Try.func9 rfl Try.ntmps9 (Nat.le_of_ble_eq_true rfl) fun a1 hf1 => ?_
 have h1 : St 102 (fun _ => False) W a1 W [(0, .agg #[code.v, words.v, .int .i64 locks, .int .i64 regs]), (1, script.v)] [.at_ code, .at_ words, .at_ script] := ⟨hf1.sub ⟨rfl, rfl, trivial⟩, Sh0.ext3 hcode hwords hscript⟩
 clear hf1
 refine wp_seq_k fun K2 hK2 => wp_region_lit ?_
 refine wl_ex (x_box (cs := [code.v, words.v, .int .i64 locks, .int .i64 regs]) h1 rfl rfl rfl rfl rfl) (wanted_none rfl _) ?_
 rintro a3 w3 ⟨b3, h3⟩; clear h1
 refine wms 1 h3 rfl fun a4 h4 => ?_; clear h3
 refine wpList_nil (hK2 _ _ ?_)
 refine wp_seq_k fun K5 hK5 => wp_region_lit ?_
 refine wl_ex (x_call h4 bd_35 rfl rfl rfl rfl rfl (buffers_c _)) (wanted_none rfl _) ?_
 rintro a6 w6 ⟨_, ⟨c6, u6, rfl, hbc6, hbu6, hs6⟩, hf6⟩
 have h6 := (⟨hf6, h4.sh.call hs6 (by intro A hA b hb; simp only [List.mem_cons, List.not_mem_nil, or_false] at hA; first | (subst hA; exact Flat.noRd hb) | (rcases hA with rfl | rfl <;> first | exact (hb : False).elim | exact Flat.noRd hb | exact .inl (hb : _)))⟩ : St 102 (fun _ => False) W a6 w6 _ _)
 clear hf6 hs6
 clear h4
 refine wl_ex (x_call h6 bd_31 rfl rfl rfl rfl rfl (scRun_k c6 u6 (⟨.slice none 0 0, []⟩ : Ls Int) 0 2 _ (h6.sh.deep 0 rfl) (h6.sh.own 1 rfl) (Sh.nilAt (α := Int) h6.sh) (buf_ok hbc6 hbu6))) (wanted_none rfl _) ?_
 rintro a7 w7 ⟨_, ⟨pr7, wd7, st7, sn7, rfl, hrun7, hs7⟩, hf7⟩
 have h7 := (⟨hf7, h6.sh.call hs7 (by intro A hA b hb; simp only [List.mem_cons, List.not_mem_nil, or_false] at hA; first | (subst hA; exact Flat.noRd hb) | (rcases hA with rfl | rfl <;> first | exact (hb : False).elim | exact Flat.noRd hb | exact .inl (hb : _)))⟩ : St 102 (fun _ => False) W a7 w7 _ _)
 clear hf7 hs7
 clear h6
 refine wms 1 h7 rfl fun a8 h8 => ?_; clear h7
 refine wv h8 (r_extract rfl rfl rfl) rfl rfl fun a9 h9 => ?_; clear h8
 refine wv h9 (r_extract rfl rfl rfl) rfl rfl fun a10 h10 => ?_; clear h9
 refine wl_ex (x_alloc h10 ti_49 rfl rfl rfl) (wanted_none rfl _) ?_
 rintro a11 w11 ⟨b11, h11⟩; clear h10
 refine wl_ex (x_alloc h11 ti_28 rfl rfl rfl) (wanted_none rfl _) ?_
 rintro a12 w12 ⟨b12, h12⟩; clear h11
 refine wl_ex (x_stb (i := 1) (vs := [pr7.v, .int .i64 st7, wd7.v, .int .i64 ((sn7 : Nat) : Int)]) (cs' := [pr7.v, .int .i64 st7, wd7.v, .int .i64 ((sn7 : Nat) : Int)]) h12 ti_49 rfl rfl rfl rfl rfl rfl rfl (allOne_cons ((h12.sh.own 2 rfl)).one (allOne_cons rfl (allOne_cons ((h12.sh.own 3 rfl)).one (allOne_cons rfl allOne_nil)))) (Nat.le_of_ble_eq_true rfl) rfl) (wanted_none rfl _) ?_
 rintro a13 w13 h13
 clear h12
 refine wl_ex (x_stb (i := 0) (vs := [.int .i64 0, .int .i64 0, .int .i64 0]) (cs' := [.int .i64 0, .int .i64 0, .int .i64 0]) h13 ti_28 rfl rfl rfl rfl rfl rfl rfl (allOne_cons rfl (allOne_cons rfl (allOne_cons rfl allOne_nil))) (Nat.le_of_ble_eq_true rfl) rfl) (wanted_none rfl _) ?_
 rintro a14 w14 h14
 clear h13
 refine wpList_nil (hK5 _ _ ?_)
 rw [buf_eq hbc6 hbu6] at hrun7
 have hb0 := buf_run0.symm.trans hrun7
 simp only [TrM.mk.injEq] at hb0
 obtain ⟨hb1, hb2, hb3, hb4⟩ := hb0
 refine wp_seq_k fun K15 hK15 => ?_
 refine wp_seq_k fun K16 hK16 => wp_region_lit ?_
 refine wv h14 (r_fieldB (r := 0) fl_28_0 rfl rfl rfl) rfl rfl fun a17 h17 => ?_; clear h14
 refine wv h17 (r_ldb (i := 0) ti_26 rfl rfl rfl rfl) rfl rfl fun a18 h18 => ?_; clear h17
 refine wv h18 (r_neqN (p := 0) (q := 0) rfl rfl rfl) rfl rfl fun a19 h19 => ?_; clear h18
 refine wms 1 h19 rfl fun a20 h20 => ?_; clear h19
 refine wl_val h20 (r_fieldB (r := 1) fl_49_1 rfl rfl rfl) (wanted_yes h20.fr rfl rfl rfl rfl (by decide)) rfl rfl fun a21 h21 => ?_; clear h20
 refine wl_val h21 (r_ldb (i := 1) ti_3 rfl rfl rfl rfl) (wanted_yes h21.fr rfl rfl rfl rfl (by decide)) rfl rfl fun a22 h22 => ?_; clear h21
 refine wl_val h22 (r_neqI (p := st7) (q := 0) rfl rfl rfl) (wanted_yes h22.fr rfl rfl rfl rfl (by decide)) rfl rfl fun a23 h23 => ?_; clear h22
 refine wv h23 (r_pickF rfl rfl (by decide) rfl) rfl rfl fun a24 h24 => ?_; clear h23
 refine wms 1 h24 rfl fun a25 h25 => ?_; clear h24
 refine wl_val h25 (r_fieldB (r := 3) fl_49_3 rfl rfl rfl) (wanted_yes h25.fr rfl rfl rfl rfl (decide_eq_false (by omega))) rfl rfl fun a26 h26 => ?_; clear h25
 refine wl_val h26 (r_ldb (i := 1) ti_3 rfl rfl rfl rfl) (wanted_yes h26.fr rfl rfl rfl rfl (decide_eq_false (by omega))) rfl rfl fun a27 h27 => ?_; clear h26
 refine wl_val h27 (r_neqN (p := sn7) (q := 8) rfl rfl rfl) (wanted_yes h27.fr rfl rfl rfl rfl (decide_eq_false (by omega))) rfl rfl fun a28 h28 => ?_; clear h27
 refine wv h28 (r_pickF rfl rfl (decide_eq_false (by omega)) rfl) rfl rfl fun a29 h29 => ?_; clear h28
 refine wms 1 h29 rfl fun a30 h30 => ?_; clear h29
 refine wl_val h30 (r_fieldB (r := 0) fl_49_0 rfl rfl rfl) (wanted_yes h30.fr rfl rfl rfl rfl (decide_eq_false (by omega))) rfl rfl fun a31 h31 => ?_; clear h30
 refine wl_val h31 (r_ldb (i := 1) ti_23 rfl rfl rfl rfl) (wanted_yes h31.fr rfl rfl rfl rfl (decide_eq_false (by omega))) rfl rfl fun a32 h32 => ?_; clear h31
 refine wl_ex (x_lit (n := 4) (cs := [.int .i64 0, .int .i64 0, .int .i64 1, .int .i64 1]) ([0, 0, 1, 1] : List Int) h32 sl_23 ti_3 rfl rfl rfl (by decide) rfl (by kernel_rfl) rfl (fun q hq w h => Flat.inner _ _) (fun q hq b hb => (Flat.on _ _ hb).elim) rfl rfl) (wanted_yes h32.fr rfl rfl rfl rfl (decide_eq_false (by omega))) ?_
 rintro a33 w33 ⟨v33, h33⟩; clear h32
 refine wl_ex (x_call h33 bd_36 rfl rfl rfl rfl rfl (kints_c pr7 (⟨v33, [0, 0, 1, 1]⟩ : Ls Int) _ (h33.sh.own 3 rfl) (h33.sh.own 0 rfl))) (wanted_yes h33.fr rfl rfl rfl rfl (decide_eq_false (by omega))) ?_
 rintro a34 w34 ⟨_, ⟨rfl, hs34⟩, hf34⟩
 have h34 : St 102 (fun _ => False) W a34 w34 _ _ := ⟨hf34, h33.sh.call0 hs34⟩
 clear hf34 hs34
 clear h33
 refine wl_val h34 (r_not rfl rfl) (wanted_yes h34.fr rfl rfl rfl rfl (decide_eq_false (by omega))) rfl rfl fun a35 h35 => ?_; clear h34
 refine wv h35 (r_pickF rfl rfl (decide_eq_false (by omega)) rfl) rfl rfl fun a36 h36 => ?_; clear h35
 refine wpList_nil (hK16 _ _ ?_)
 have h37 : St 102 (fun _ => False) W a36 w34 [(1, script.v), (2, .pointer (some ⟨b3, 0, none⟩)), (5, .pointer (some ⟨b11, 0, none⟩)), (6, .pointer (some ⟨b12, 0, none⟩)), (36, .bool (!(decide (pr7.l = [0, 0, 1, 1]))))] [.own 3 (⟨v33, [0, 0, 1, 1]⟩ : Ls Int), .blk b12 28 [.int .i64 0, .int .i64 0, .int .i64 0], .blk b11 49 [pr7.v, .int .i64 st7, wd7.v, .int .i64 ((sn7 : Nat) : Int)], .own 3 pr7, .own 3 wd7, .deep 33 c6, .own 3 u6, .blk b3 25 [code.v, words.v, .int .i64 locks, .int .i64 regs], .at_ code, .at_ words, .at_ script] := h36.nrm ⟨rfl, rfl, rfl, rfl, rfl, trivial⟩ [0, 1, 2, 3, 4, 5, 6, 7, 8, 9, 10] (by decide) ⟨rfl, rfl, rfl, rfl, rfl, rfl, rfl, rfl, rfl, rfl, rfl, trivial⟩
 clear h36
 refine x_condF h37 rfl (by rw [(decide_eq_true hb4.symm)]; rfl) ?_
 refine wp_skip ?_
 refine hK15 _ _ ?_
 refine wp_seq_k fun K38 hK38 => ?_
 refine wp_seq_k fun K39 hK39 => wp_region_lit ?_
 refine wv h37 (r_ldbw (i := 7) (vs := [code.v, words.v, .int .i64 locks, .int .i64 regs]) ti_25 rfl rfl rfl rfl rfl) rfl rfl fun a40 h40 => ?_; clear h37
 refine wl_ex (x_call h40 bd_16 rfl rfl rfl rfl rfl (kvast_c code words locks regs _ (h40.sh.at 8 rfl) (h40.sh.at 9 rfl))) (wanted_none rfl _) ?_
 rintro a41 w41 ⟨_, ⟨rfl, hs41⟩, hf41⟩
 have h41 : St 102 (fun _ => False) W a41 w41 _ _ := ⟨hf41, h40.sh.call0 hs41⟩
 clear hf41 hs41
 clear h40
 refine wpList_nil (hK39 _ _ ?_)
 refine x_condT h41 rfl hv ?_
 refine wp_seq_k fun K42 hK42 => wp_region_lit ?_
 refine wms 1 h41 rfl fun a43 h43 => ?_; clear h41
 refine wpList_nil (hK42 _ _ ?_)
 refine wp_ret ?_
 try simp only [Exit.then, Exit.inBlock]
 refine x_ret1 (fn := Try.f9) (t := 4) rfl h43 rfl ?_
 refine ⟨?_, (h43.sh.sel [] (by decide) trivial)⟩
 first | rfl | (congr 1; exact decide_eq_true he9.2.1) | (congr 1; assumption)

set_option maxRecDepth 100000 in
set_option maxHeartbeats 8000000 in
theorem scAhead_b (code : Ls (Ls Ins)) (words script : Ls Int) (locks regs : Int) (W : World) (hcode : code.At W) (hwords : words.At W) (hscript : script.At W) (hsl : script.l.length * 8 ≤ 140737488351232) (hv : vastG (code.l.map (·.l)) words.l = false) (hz : (checkG (pgOf code words locks regs)).code ≠ 0) :
    Rets Try.prog 9 [.agg #[code.v, words.v, .int .i64 locks, .int .i64 regs], script.v] W (fun v w' => v = .bool true ∧ Sh0 W w' []) := by
 refine x_enter (N := 102) Try.func9 rfl Try.ntmps9 (Nat.le_of_ble_eq_true rfl) fun a1 hf1 => ?_
 have h1 : St 102 (fun _ => False) W a1 W [(0, .agg #[code.v, words.v, .int .i64 locks, .int .i64 regs]), (1, script.v)] [.at_ code, .at_ words, .at_ script] := ⟨hf1.sub ⟨rfl, rfl, trivial⟩, Sh0.ext3 hcode hwords hscript⟩
 clear hf1
 refine wp_seq_k fun K2 hK2 => wp_region_lit ?_
 refine wl_ex (x_box (cs := [code.v, words.v, .int .i64 locks, .int .i64 regs]) h1 rfl rfl rfl rfl rfl) (wanted_none rfl _) ?_
 rintro a3 w3 ⟨b3, h3⟩; clear h1
 refine wms 1 h3 rfl fun a4 h4 => ?_; clear h3
 refine wpList_nil (hK2 _ _ ?_)
 refine wp_seq_k fun K5 hK5 => wp_region_lit ?_
 refine wl_ex (x_call h4 bd_35 rfl rfl rfl rfl rfl (buffers_c _)) (wanted_none rfl _) ?_
 rintro a6 w6 ⟨_, ⟨c6, u6, rfl, hbc6, hbu6, hs6⟩, hf6⟩
 have h6 := (⟨hf6, h4.sh.call hs6 (by intro A hA b hb; simp only [List.mem_cons, List.not_mem_nil, or_false] at hA; first | (subst hA; exact Flat.noRd hb) | (rcases hA with rfl | rfl <;> first | exact (hb : False).elim | exact Flat.noRd hb | exact .inl (hb : _)))⟩ : St 102 (fun _ => False) W a6 w6 _ _)
 clear hf6 hs6
 clear h4
 refine wl_ex (x_call h6 bd_31 rfl rfl rfl rfl rfl (scRun_k c6 u6 (⟨.slice none 0 0, []⟩ : Ls Int) 0 2 _ (h6.sh.deep 0 rfl) (h6.sh.own 1 rfl) (Sh.nilAt (α := Int) h6.sh) (buf_ok hbc6 hbu6))) (wanted_none rfl _) ?_
 rintro a7 w7 ⟨_, ⟨pr7, wd7, st7, sn7, rfl, hrun7, hs7⟩, hf7⟩
 have h7 := (⟨hf7, h6.sh.call hs7 (by intro A hA b hb; simp only [List.mem_cons, List.not_mem_nil, or_false] at hA; first | (subst hA; exact Flat.noRd hb) | (rcases hA with rfl | rfl <;> first | exact (hb : False).elim | exact Flat.noRd hb | exact .inl (hb : _)))⟩ : St 102 (fun _ => False) W a7 w7 _ _)
 clear hf7 hs7
 clear h6
 refine wms 1 h7 rfl fun a8 h8 => ?_; clear h7
 refine wv h8 (r_extract rfl rfl rfl) rfl rfl fun a9 h9 => ?_; clear h8
 refine wv h9 (r_extract rfl rfl rfl) rfl rfl fun a10 h10 => ?_; clear h9
 refine wl_ex (x_alloc h10 ti_49 rfl rfl rfl) (wanted_none rfl _) ?_
 rintro a11 w11 ⟨b11, h11⟩; clear h10
 refine wl_ex (x_alloc h11 ti_28 rfl rfl rfl) (wanted_none rfl _) ?_
 rintro a12 w12 ⟨b12, h12⟩; clear h11
 refine wl_ex (x_stb (i := 1) (vs := [pr7.v, .int .i64 st7, wd7.v, .int .i64 ((sn7 : Nat) : Int)]) (cs' := [pr7.v, .int .i64 st7, wd7.v, .int .i64 ((sn7 : Nat) : Int)]) h12 ti_49 rfl rfl rfl rfl rfl rfl rfl (allOne_cons ((h12.sh.own 2 rfl)).one (allOne_cons rfl (allOne_cons ((h12.sh.own 3 rfl)).one (allOne_cons rfl allOne_nil)))) (Nat.le_of_ble_eq_true rfl) rfl) (wanted_none rfl _) ?_
 rintro a13 w13 h13
 clear h12
 refine wl_ex (x_stb (i := 0) (vs := [.int .i64 0, .int .i64 0, .int .i64 0]) (cs' := [.int .i64 0, .int .i64 0, .int .i64 0]) h13 ti_28 rfl rfl rfl rfl rfl rfl rfl (allOne_cons rfl (allOne_cons rfl (allOne_cons rfl allOne_nil))) (Nat.le_of_ble_eq_true rfl) rfl) (wanted_none rfl _) ?_
 rintro a14 w14 h14
 clear h13
 refine wpList_nil (hK5 _ _ ?_)
 rw [buf_eq hbc6 hbu6] at hrun7
 have hb0 := buf_run0.symm.trans hrun7
 simp only [TrM.mk.injEq] at hb0
 obtain ⟨hb1, hb2, hb3, hb4⟩ := hb0
 refine wp_seq_k fun K15 hK15 => ?_
 refine wp_seq_k fun K16 hK16 => wp_region_lit ?_
 refine wv h14 (r_fieldB (r := 0) fl_28_0 rfl rfl rfl) rfl rfl fun a17 h17 => ?_; clear h14
 refine wv h17 (r_ldb (i := 0) ti_26 rfl rfl rfl rfl) rfl rfl fun a18 h18 => ?_; clear h17
 refine wv h18 (r_neqN (p := 0) (q := 0) rfl rfl rfl) rfl rfl fun a19 h19 => ?_; clear h18
 refine wms 1 h19 rfl fun a20 h20 => ?_; clear h19
 refine wl_val h20 (r_fieldB (r := 1) fl_49_1 rfl rfl rfl) (wanted_yes h20.fr rfl rfl rfl rfl (by decide)) rfl rfl fun a21 h21 => ?_; clear h20
 refine wl_val h21 (r_ldb (i := 1) ti_3 rfl rfl rfl rfl) (wanted_yes h21.fr rfl rfl rfl rfl (by decide)) rfl rfl fun a22 h22 => ?_; clear h21
 refine wl_val h22 (r_neqI (p := st7) (q := 0) rfl rfl rfl) (wanted_yes h22.fr rfl rfl rfl rfl (by decide)) rfl rfl fun a23 h23 => ?_; clear h22
 refine wv h23 (r_pickF rfl rfl (by decide) rfl) rfl rfl fun a24 h24 => ?_; clear h23
 refine wms 1 h24 rfl fun a25 h25 => ?_; clear h24
 refine wl_val h25 (r_fieldB (r := 3) fl_49_3 rfl rfl rfl) (wanted_yes h25.fr rfl rfl rfl rfl (decide_eq_false (by omega))) rfl rfl fun a26 h26 => ?_; clear h25
 refine wl_val h26 (r_ldb (i := 1) ti_3 rfl rfl rfl rfl) (wanted_yes h26.fr rfl rfl rfl rfl (decide_eq_false (by omega))) rfl rfl fun a27 h27 => ?_; clear h26
 refine wl_val h27 (r_neqN (p := sn7) (q := 8) rfl rfl rfl) (wanted_yes h27.fr rfl rfl rfl rfl (decide_eq_false (by omega))) rfl rfl fun a28 h28 => ?_; clear h27
 refine wv h28 (r_pickF rfl rfl (decide_eq_false (by omega)) rfl) rfl rfl fun a29 h29 => ?_; clear h28
 refine wms 1 h29 rfl fun a30 h30 => ?_; clear h29
 refine wl_val h30 (r_fieldB (r := 0) fl_49_0 rfl rfl rfl) (wanted_yes h30.fr rfl rfl rfl rfl (decide_eq_false (by omega))) rfl rfl fun a31 h31 => ?_; clear h30
 refine wl_val h31 (r_ldb (i := 1) ti_23 rfl rfl rfl rfl) (wanted_yes h31.fr rfl rfl rfl rfl (decide_eq_false (by omega))) rfl rfl fun a32 h32 => ?_; clear h31
 refine wl_ex (x_lit (n := 4) (cs := [.int .i64 0, .int .i64 0, .int .i64 1, .int .i64 1]) ([0, 0, 1, 1] : List Int) h32 sl_23 ti_3 rfl rfl rfl (by decide) rfl (by kernel_rfl) rfl (fun q hq w h => Flat.inner _ _) (fun q hq b hb => (Flat.on _ _ hb).elim) rfl rfl) (wanted_yes h32.fr rfl rfl rfl rfl (decide_eq_false (by omega))) ?_
 rintro a33 w33 ⟨v33, h33⟩; clear h32
 refine wl_ex (x_call h33 bd_36 rfl rfl rfl rfl rfl (kints_c pr7 (⟨v33, [0, 0, 1, 1]⟩ : Ls Int) _ (h33.sh.own 3 rfl) (h33.sh.own 0 rfl))) (wanted_yes h33.fr rfl rfl rfl rfl (decide_eq_false (by omega))) ?_
 rintro a34 w34 ⟨_, ⟨rfl, hs34⟩, hf34⟩
 have h34 : St 102 (fun _ => False) W a34 w34 _ _ := ⟨hf34, h33.sh.call0 hs34⟩
 clear hf34 hs34
 clear h33
 refine wl_val h34 (r_not rfl rfl) (wanted_yes h34.fr rfl rfl rfl rfl (decide_eq_false (by omega))) rfl rfl fun a35 h35 => ?_; clear h34
 refine wv h35 (r_pickF rfl rfl (decide_eq_false (by omega)) rfl) rfl rfl fun a36 h36 => ?_; clear h35
 refine wpList_nil (hK16 _ _ ?_)
 have h37 : St 102 (fun _ => False) W a36 w34 [(1, script.v), (2, .pointer (some ⟨b3, 0, none⟩)), (5, .pointer (some ⟨b11, 0, none⟩)), (6, .pointer (some ⟨b12, 0, none⟩)), (36, .bool (!(decide (pr7.l = [0, 0, 1, 1]))))] [.own 3 (⟨v33, [0, 0, 1, 1]⟩ : Ls Int), .blk b12 28 [.int .i64 0, .int .i64 0, .int .i64 0], .blk b11 49 [pr7.v, .int .i64 st7, wd7.v, .int .i64 ((sn7 : Nat) : Int)], .own 3 pr7, .own 3 wd7, .deep 33 c6, .own 3 u6, .blk b3 25 [code.v, words.v, .int .i64 locks, .int .i64 regs], .at_ code, .at_ words, .at_ script] := h36.nrm ⟨rfl, rfl, rfl, rfl, rfl, trivial⟩ [0, 1, 2, 3, 4, 5, 6, 7, 8, 9, 10] (by decide) ⟨rfl, rfl, rfl, rfl, rfl, rfl, rfl, rfl, rfl, rfl, rfl, trivial⟩
 clear h36
 refine x_condF h37 rfl (by rw [(decide_eq_true hb4.symm)]; rfl) ?_
 refine wp_skip ?_
 refine hK15 _ _ ?_
 refine wp_seq_k fun K38 hK38 => ?_
 refine wp_seq_k fun K39 hK39 => wp_region_lit ?_
 refine wv h37 (r_ldbw (i := 7) (vs := [code.v, words.v, .int .i64 locks, .int .i64 regs]) ti_25 rfl rfl rfl rfl rfl) rfl rfl fun a40 h40 => ?_; clear h37
 refine wl_ex (x_call h40 bd_16 rfl rfl rfl rfl rfl (kvast_c code words locks regs _ (h40.sh.at 8 rfl) (h40.sh.at 9 rfl))) (wanted_none rfl _) ?_
 rintro a41 w41 ⟨_, ⟨rfl, hs41⟩, hf41⟩
 have h41 : St 102 (fun _ => False) W a41 w41 _ _ := ⟨hf41, h40.sh.call0 hs41⟩
 clear hf41 hs41
 clear h40
 refine wpList_nil (hK39 _ _ ?_)
 refine x_condF h41 rfl hv ?_
 refine wp_skip ?_
 refine hK38 _ _ ?_
 refine wp_seq_k fun K42 hK42 => wp_region_lit ?_
 refine wv h41 (r_ldbw (i := 7) (vs := [code.v, words.v, .int .i64 locks, .int .i64 regs]) ti_25 rfl rfl rfl rfl rfl) rfl rfl fun a43 h43 => ?_; clear h41
 refine wms 1 h43 rfl fun a44 h44 => ?_; clear h43
 refine wl_ex (x_call h44 bd_31 rfl rfl rfl rfl rfl (scRun_b code words script locks regs _ (h44.sh.at 8 rfl) (h44.sh.at 9 rfl) (h44.sh.at 10 rfl) hz)) (wanted_none rfl _) ?_
 rintro a45 w45 ⟨_, ⟨rfl, hs45⟩, hf45⟩
 have h45 : St 102 (fun _ => False) W a45 w45 _ _ := ⟨hf45, h44.sh.call0 hs45⟩
 clear hf45 hs45
 clear h44
 refine wms 1 h45 rfl fun a46 h46 => ?_; clear h45
 refine wv h46 (r_extract rfl rfl rfl) rfl rfl fun a47 h47 => ?_; clear h46
 refine wv h47 (r_extract rfl rfl rfl) rfl rfl fun a48 h48 => ?_; clear h47
 refine wl_ex (x_stb (i := 2) (vs := [(.slice none 0 0), .int .i64 0, (.slice none 0 0), .int .i64 0]) (cs' := [(.slice none 0 0), .int .i64 0, (.slice none 0 0), .int .i64 0]) h48 ti_49 rfl rfl rfl rfl rfl rfl rfl (allOne_cons ((Sh.nilAt (α := Int) h48.sh)).one (allOne_cons rfl (allOne_cons ((Sh.nilAt (α := Int) h48.sh)).one (allOne_cons rfl allOne_nil)))) (Nat.le_of_ble_eq_true rfl) rfl) (wanted_none rfl _) ?_
 rintro a49 w49 h49
 clear h48
 refine wl_ex (x_stb (i := 1) (vs := [.int .i64 ((checkG (pgOf code words locks regs)).code), .int .i64 ((checkG (pgOf code words locks regs)).thread), .int .i64 ((checkG (pgOf code words locks regs)).at_)]) (cs' := [.int .i64 ((checkG (pgOf code words locks regs)).code), .int .i64 ((checkG (pgOf code words locks regs)).thread), .int .i64 ((checkG (pgOf code words locks regs)).at_)]) h49 ti_28 rfl rfl rfl rfl rfl rfl rfl (allOne_cons rfl (allOne_cons rfl (allOne_cons rfl allOne_nil))) (Nat.le_of_ble_eq_true rfl) rfl) (wanted_none rfl _) ?_
 rintro a50 w50 h50
 clear h49
 refine wpList_nil (hK42 _ _ ?_)
 refine wp_seq_k fun K51 hK51 => ?_
 refine wp_seq_k fun K52 hK52 => wp_region_lit ?_
 refine wv h50 (r_fieldB (r := 0) fl_28_0 rfl rfl rfl) rfl rfl fun a53 h53 => ?_; clear h50
 refine wv h53 (r_ldb (i := 1) ti_26 rfl rfl rfl rfl) rfl rfl fun a54 h54 => ?_; clear h53
 refine wv h54 (r_neqI (p := (checkG (pgOf code words locks regs)).code) (q := 0) rfl rfl rfl) rfl rfl fun a55 h55 => ?_; clear h54
 refine wpList_nil (hK52 _ _ ?_)
 refine x_condT h55 rfl (decide_eq_true hz) ?_
 refine wp_seq_k fun K56 hK56 => wp_region_lit ?_
 refine wms 1 h55 rfl fun a57 h57 => ?_; clear h55
 refine wpList_nil (hK56 _ _ ?_)
 refine wp_ret ?_
 try simp only [Exit.then, Exit.inBlock]
 refine x_ret1 (fn := Try.f9) (t := 4) rfl h57 rfl ?_
 refine ⟨?_, (h57.sh.sel [] (by decide) trivial)⟩
 first | rfl | (congr 1; exact decide_eq_true he9.2.1) | (congr 1; assumption)

set_option maxRecDepth 100000 in
set_option maxHeartbeats 8000000 in
theorem scAhead_k (code : Ls (Ls Ins)) (words script : Ls Int) (Lk R : Nat) (W : World) (hcode : code.At W) (hwords : words.At W) (hscript : script.At W) (hsl : script.l.length * 8 ≤ 140737488351232) (hv : vastG (code.l.map (·.l)) words.l = false) (hok : OkPg (pgN code words Lk R)) :
    Rets Try.prog 9 [.agg #[code.v, words.v, .int .i64 ((Lk : Nat) : Int), .int .i64 ((R : Nat) : Int)], script.v] W (fun v w' => v = .bool true ∧ Sh0 W w' []) := by
 have hz : checkG (pgOf code words ((Lk : Nat) : Int) ((R : Nat) : Int)) = ⟨0, 0, 0⟩ := checkG_ok hok
 refine x_enter (N := 102) Try.func9 rfl Try.ntmps9 (Nat.le_of_ble_eq_true rfl) fun a1 hf1 => ?_
 have h1 : St 102 (fun _ => False) W a1 W [(0, .agg #[code.v, words.v, .int .i64 ((Lk : Nat) : Int), .int .i64 ((R : Nat) : Int)]), (1, script.v)] [.at_ code, .at_ words, .at_ script] := ⟨hf1.sub ⟨rfl, rfl, trivial⟩, Sh0.ext3 hcode hwords hscript⟩
 clear hf1
 refine wp_seq_k fun K2 hK2 => wp_region_lit ?_
 refine wl_ex (x_box (cs := [code.v, words.v, .int .i64 ((Lk : Nat) : Int), .int .i64 ((R : Nat) : Int)]) h1 rfl rfl rfl rfl rfl) (wanted_none rfl _) ?_
 rintro a3 w3 ⟨b3, h3⟩; clear h1
 refine wms 1 h3 rfl fun a4 h4 => ?_; clear h3
 refine wpList_nil (hK2 _ _ ?_)
 refine wp_seq_k fun K5 hK5 => wp_region_lit ?_
 refine wl_ex (x_call h4 bd_35 rfl rfl rfl rfl rfl (buffers_c _)) (wanted_none rfl _) ?_
 rintro a6 w6 ⟨_, ⟨c6, u6, rfl, hbc6, hbu6, hs6⟩, hf6⟩
 have h6 := (⟨hf6, h4.sh.call hs6 (by intro A hA b hb; simp only [List.mem_cons, List.not_mem_nil, or_false] at hA; first | (subst hA; exact Flat.noRd hb) | (rcases hA with rfl | rfl <;> first | exact (hb : False).elim | exact Flat.noRd hb | exact .inl (hb : _)))⟩ : St 102 (fun _ => False) W a6 w6 _ _)
 clear hf6 hs6
 clear h4
 refine wl_ex (x_call h6 bd_31 rfl rfl rfl rfl rfl (scRun_k c6 u6 (⟨.slice none 0 0, []⟩ : Ls Int) 0 2 _ (h6.sh.deep 0 rfl) (h6.sh.own 1 rfl) (Sh.nilAt (α := Int) h6.sh) (buf_ok hbc6 hbu6))) (wanted_none rfl _) ?_
 rintro a7 w7 ⟨_, ⟨pr7, wd7, st7, sn7, rfl, hrun7, hs7⟩, hf7⟩
 have h7 := (⟨hf7, h6.sh.call hs7 (by intro A hA b hb; simp only [List.mem_cons, List.not_mem_nil, or_false] at hA; first | (subst hA; exact Flat.noRd hb) | (rcases hA with rfl | rfl <;> first | exact (hb : False).elim | exact Flat.noRd hb | exact .inl (hb : _)))⟩ : St 102 (fun _ => False) W a7 w7 _ _)
 clear hf7 hs7
 clear h6
 refine wms 1 h7 rfl fun a8 h8 => ?_; clear h7
 refine wv h8 (r_extract rfl rfl rfl) rfl rfl fun a9 h9 => ?_; clear h8
 refine wv h9 (r_extract rfl rfl rfl) rfl rfl fun a10 h10 => ?_; clear h9
 refine wl_ex (x_alloc h10 ti_49 rfl rfl rfl) (wanted_none rfl _) ?_
 rintro a11 w11 ⟨b11, h11⟩; clear h10
 refine wl_ex (x_alloc h11 ti_28 rfl rfl rfl) (wanted_none rfl _) ?_
 rintro a12 w12 ⟨b12, h12⟩; clear h11
 refine wl_ex (x_stb (i := 1) (vs := [pr7.v, .int .i64 st7, wd7.v, .int .i64 ((sn7 : Nat) : Int)]) (cs' := [pr7.v, .int .i64 st7, wd7.v, .int .i64 ((sn7 : Nat) : Int)]) h12 ti_49 rfl rfl rfl rfl rfl rfl rfl (allOne_cons ((h12.sh.own 2 rfl)).one (allOne_cons rfl (allOne_cons ((h12.sh.own 3 rfl)).one (allOne_cons rfl allOne_nil)))) (Nat.le_of_ble_eq_true rfl) rfl) (wanted_none rfl _) ?_
 rintro a13 w13 h13
 clear h12
 refine wl_ex (x_stb (i := 0) (vs := [.int .i64 0, .int .i64 0, .int .i64 0]) (cs' := [.int .i64 0, .int .i64 0, .int .i64 0]) h13 ti_28 rfl rfl rfl rfl rfl rfl rfl (allOne_cons rfl (allOne_cons rfl (allOne_cons rfl allOne_nil))) (Nat.le_of_ble_eq_true rfl) rfl) (wanted_none rfl _) ?_
 rintro a14 w14 h14
 clear h13
 refine wpList_nil (hK5 _ _ ?_)
 rw [buf_eq hbc6 hbu6] at hrun7
 have hb0 := buf_run0.symm.trans hrun7
 simp only [TrM.mk.injEq] at hb0
 obtain ⟨hb1, hb2, hb3, hb4⟩ := hb0
 refine wp_seq_k fun K15 hK15 => ?_
 refine wp_seq_k fun K16 hK16 => wp_region_lit ?_
 refine wv h14 (r_fieldB (r := 0) fl_28_0 rfl rfl rfl) rfl rfl fun a17 h17 => ?_; clear h14
 refine wv h17 (r_ldb (i := 0) ti_26 rfl rfl rfl rfl) rfl rfl fun a18 h18 => ?_; clear h17
 refine wv h18 (r_neqN (p := 0) (q := 0) rfl rfl rfl) rfl rfl fun a19 h19 => ?_; clear h18
 refine wms 1 h19 rfl fun a20 h20 => ?_; clear h19
 refine wl_val h20 (r_fieldB (r := 1) fl_49_1 rfl rfl rfl) (wanted_yes h20.fr rfl rfl rfl rfl (by decide)) rfl rfl fun a21 h21 => ?_; clear h20
 refine wl_val h21 (r_ldb (i := 1) ti_3 rfl rfl rfl rfl) (wanted_yes h21.fr rfl rfl rfl rfl (by decide)) rfl rfl fun a22 h22 => ?_; clear h21
 refine wl_val h22 (r_neqI (p := st7) (q := 0) rfl rfl rfl) (wanted_yes h22.fr rfl rfl rfl rfl (by decide)) rfl rfl fun a23 h23 => ?_; clear h22
 refine wv h23 (r_pickF rfl rfl (by decide) rfl) rfl rfl fun a24 h24 => ?_; clear h23
 refine wms 1 h24 rfl fun a25 h25 => ?_; clear h24
 refine wl_val h25 (r_fieldB (r := 3) fl_49_3 rfl rfl rfl) (wanted_yes h25.fr rfl rfl rfl rfl (decide_eq_false (by omega))) rfl rfl fun a26 h26 => ?_; clear h25
 refine wl_val h26 (r_ldb (i := 1) ti_3 rfl rfl rfl rfl) (wanted_yes h26.fr rfl rfl rfl rfl (decide_eq_false (by omega))) rfl rfl fun a27 h27 => ?_; clear h26
 refine wl_val h27 (r_neqN (p := sn7) (q := 8) rfl rfl rfl) (wanted_yes h27.fr rfl rfl rfl rfl (decide_eq_false (by omega))) rfl rfl fun a28 h28 => ?_; clear h27
 refine wv h28 (r_pickF rfl rfl (decide_eq_false (by omega)) rfl) rfl rfl fun a29 h29 => ?_; clear h28
 refine wms 1 h29 rfl fun a30 h30 => ?_; clear h29
 refine wl_val h30 (r_fieldB (r := 0) fl_49_0 rfl rfl rfl) (wanted_yes h30.fr rfl rfl rfl rfl (decide_eq_false (by omega))) rfl rfl fun a31 h31 => ?_; clear h30
 refine wl_val h31 (r_ldb (i := 1) ti_23 rfl rfl rfl rfl) (wanted_yes h31.fr rfl rfl rfl rfl (decide_eq_false (by omega))) rfl rfl fun a32 h32 => ?_; clear h31
 refine wl_ex (x_lit (n := 4) (cs := [.int .i64 0, .int .i64 0, .int .i64 1, .int .i64 1]) ([0, 0, 1, 1] : List Int) h32 sl_23 ti_3 rfl rfl rfl (by decide) rfl (by kernel_rfl) rfl (fun q hq w h => Flat.inner _ _) (fun q hq b hb => (Flat.on _ _ hb).elim) rfl rfl) (wanted_yes h32.fr rfl rfl rfl rfl (decide_eq_false (by omega))) ?_
 rintro a33 w33 ⟨v33, h33⟩; clear h32
 refine wl_ex (x_call h33 bd_36 rfl rfl rfl rfl rfl (kints_c pr7 (⟨v33, [0, 0, 1, 1]⟩ : Ls Int) _ (h33.sh.own 3 rfl) (h33.sh.own 0 rfl))) (wanted_yes h33.fr rfl rfl rfl rfl (decide_eq_false (by omega))) ?_
 rintro a34 w34 ⟨_, ⟨rfl, hs34⟩, hf34⟩
 have h34 : St 102 (fun _ => False) W a34 w34 _ _ := ⟨hf34, h33.sh.call0 hs34⟩
 clear hf34 hs34
 clear h33
 refine wl_val h34 (r_not rfl rfl) (wanted_yes h34.fr rfl rfl rfl rfl (decide_eq_false (by omega))) rfl rfl fun a35 h35 => ?_; clear h34
 refine wv h35 (r_pickF rfl rfl (decide_eq_false (by omega)) rfl) rfl rfl fun a36 h36 => ?_; clear h35
 refine wpList_nil (hK16 _ _ ?_)
 have h37 : St 102 (fun _ => False) W a36 w34 [(1, script.v), (2, .pointer (some ⟨b3, 0, none⟩)), (5, .pointer (some ⟨b11, 0, none⟩)), (6, .pointer (some ⟨b12, 0, none⟩)), (36, .bool (!(decide (pr7.l = [0, 0, 1, 1]))))] [.own 3 (⟨v33, [0, 0, 1, 1]⟩ : Ls Int), .blk b12 28 [.int .i64 0, .int .i64 0, .int .i64 0], .blk b11 49 [pr7.v, .int .i64 st7, wd7.v, .int .i64 ((sn7 : Nat) : Int)], .own 3 pr7, .own 3 wd7, .deep 33 c6, .own 3 u6, .blk b3 25 [code.v, words.v, .int .i64 ((Lk : Nat) : Int), .int .i64 ((R : Nat) : Int)], .at_ code, .at_ words, .at_ script] := h36.nrm ⟨rfl, rfl, rfl, rfl, rfl, trivial⟩ [0, 1, 2, 3, 4, 5, 6, 7, 8, 9, 10] (by decide) ⟨rfl, rfl, rfl, rfl, rfl, rfl, rfl, rfl, rfl, rfl, rfl, trivial⟩
 clear h36
 refine x_condF h37 rfl (by rw [(decide_eq_true hb4.symm)]; rfl) ?_
 refine wp_skip ?_
 refine hK15 _ _ ?_
 refine wp_seq_k fun K38 hK38 => ?_
 refine wp_seq_k fun K39 hK39 => wp_region_lit ?_
 refine wv h37 (r_ldbw (i := 7) (vs := [code.v, words.v, .int .i64 ((Lk : Nat) : Int), .int .i64 ((R : Nat) : Int)]) ti_25 rfl rfl rfl rfl rfl) rfl rfl fun a40 h40 => ?_; clear h37
 refine wl_ex (x_call h40 bd_16 rfl rfl rfl rfl rfl (kvast_c code words ((Lk : Nat) : Int) ((R : Nat) : Int) _ (h40.sh.at 8 rfl) (h40.sh.at 9 rfl))) (wanted_none rfl _) ?_
 rintro a41 w41 ⟨_, ⟨rfl, hs41⟩, hf41⟩
 have h41 : St 102 (fun _ => False) W a41 w41 _ _ := ⟨hf41, h40.sh.call0 hs41⟩
 clear hf41 hs41
 clear h40
 refine wpList_nil (hK39 _ _ ?_)
 refine x_condF h41 rfl hv ?_
 refine wp_skip ?_
 refine hK38 _ _ ?_
 refine wp_seq_k fun K42 hK42 => wp_region_lit ?_
 refine wv h41 (r_ldbw (i := 7) (vs := [code.v, words.v, .int .i64 ((Lk : Nat) : Int), .int .i64 ((R : Nat) : Int)]) ti_25 rfl rfl rfl rfl rfl) rfl rfl fun a43 h43 => ?_; clear h41
 refine wms 1 h43 rfl fun a44 h44 => ?_; clear h43
 refine wl_ex (x_call h44 bd_31 rfl rfl rfl rfl rfl (scRun_k code words script Lk R _ (h44.sh.at 8 rfl) (h44.sh.at 9 rfl) (h44.sh.at 10 rfl) hok)) (wanted_none rfl _) ?_
 rintro a45 w45 ⟨_, ⟨pr45, wd45, st45, sn45, rfl, hrun45, hs45⟩, hf45⟩
 have h45 := (⟨hf45, h44.sh.call hs45 (by intro A hA b hb; simp only [List.mem_cons, List.not_mem_nil, or_false] at hA; first | (subst hA; exact Flat.noRd hb) | (rcases hA with rfl | rfl <;> first | exact (hb : False).elim | exact Flat.noRd hb | exact .inl (hb : _)))⟩ : St 102 (fun _ => False) W a45 w45 _ _)
 clear hf45 hs45
 clear h44
 refine wms 1 h45 rfl fun a46 h46 => ?_; clear h45
 refine wv h46 (r_extract rfl rfl rfl) rfl rfl fun a47 h47 => ?_; clear h46
 refine wv h47 (r_extract rfl rfl rfl) rfl rfl fun a48 h48 => ?_; clear h47
 refine wl_ex (x_stb (i := 4) (vs := [pr45.v, .int .i64 st45, wd45.v, .int .i64 ((sn45 : Nat) : Int)]) (cs' := [pr45.v, .int .i64 st45, wd45.v, .int .i64 ((sn45 : Nat) : Int)]) h48 ti_49 rfl rfl rfl rfl rfl rfl rfl (allOne_cons ((h48.sh.own 0 rfl)).one (allOne_cons rfl (allOne_cons ((h48.sh.own 1 rfl)).one (allOne_cons rfl allOne_nil)))) (Nat.le_of_ble_eq_true rfl) rfl) (wanted_none rfl _) ?_
 rintro a49 w49 h49
 clear h48
 refine wl_ex (x_stb (i := 3) (vs := [.int .i64 0, .int .i64 0, .int .i64 0]) (cs' := [.int .i64 0, .int .i64 0, .int .i64 0]) h49 ti_28 rfl rfl rfl rfl rfl rfl rfl (allOne_cons rfl (allOne_cons rfl (allOne_cons rfl allOne_nil))) (Nat.le_of_ble_eq_true rfl) rfl) (wanted_none rfl _) ?_
 rintro a50 w50 h50
 clear h49
 refine wpList_nil (hK42 _ _ ?_)
 refine wp_seq_k fun K51 hK51 => ?_
 refine wp_seq_k fun K52 hK52 => wp_region_lit ?_
 refine wv h50 (r_fieldB (r := 0) fl_28_0 rfl rfl rfl) rfl rfl fun a53 h53 => ?_; clear h50
 refine wv h53 (r_ldb (i := 3) ti_26 rfl rfl rfl rfl) rfl rfl fun a54 h54 => ?_; clear h53
 refine wv h54 (r_neqN (p := 0) (q := 0) rfl rfl rfl) rfl rfl fun a55 h55 => ?_; clear h54
 refine wpList_nil (hK52 _ _ ?_)
 refine x_condF h55 rfl (by decide) ?_
 refine wp_skip ?_
 refine hK51 _ _ ?_
 refine wp_seq_k fun K56 hK56 => wp_region_lit ?_
 refine wl_ex (x_lit0 (α := Int) h55 sl_23 ti_3 rfl rfl rfl) (wanted_none rfl _) ?_
 rintro a57 w57 ⟨v57, h57⟩; clear h55
 refine wms 1 h57 rfl fun a58 h58 => ?_; clear h57
 refine wl_ex (x_app (r := 0) (rm := 13) (s := (⟨v57, []⟩ : Ls Int)) (m := script) h58 sl_23 ti_3 rfl rfl rfl rfl rfl rfl rfl (fun w h => (h.at 13 rfl)) (fun b hb => .inr hb) (fun q hq b hb => .inr ⟨q, hq, hb⟩) rfl rfl rfl inferInstance (show (([]).length + script.l.length) * 8 ≤ 140737488355328 ∧ ([]).length + script.l.length ≤ 140737488355328 from (by first | omega | (simp only [lens9]; omega))) rfl rfl) (wanted_none rfl _) ?_
 rintro a59 w59 ⟨v59, h59⟩; clear h58
 refine wms 1 h59 rfl fun a60 h60 => ?_; clear h59
 refine wpList_nil (hK56 _ _ ?_)
 refine wp_seq_k fun K61 hK61 => wp_region_lit ?_
 refine wms 1 h60 rfl fun a62 h62 => ?_; clear h60
 refine wl_ex (x_lit (n := 2) (cs := [.int .i64 0, .int .i64 0]) ([0, 0] : List Int) h62 sl_23 ti_3 rfl rfl rfl (by decide) rfl (by kernel_rfl) rfl (fun q hq w h => Flat.inner _ _) (fun q hq b hb => (Flat.on _ _ hb).elim) rfl rfl) (wanted_none rfl _) ?_
 rintro a63 w63 ⟨v63, h63⟩; clear h62
 refine wl_ex (x_app (r := 1) (rm := 0) (s := (⟨v59, script.l⟩ : Ls Int)) (m := (⟨v63, [0, 0]⟩ : Ls Int)) h63 sl_23 ti_3 rfl rfl rfl rfl rfl rfl rfl (fun w h => (h.own 0 rfl)) (fun b hb => own_on (h63.sh.ok _ (List.mem_of_getElem? (i := 0) rfl)) hb) (fun q hq b hb => ⟨q, hq, hb⟩) rfl rfl rfl inferInstance (show (script.l.length + ([0, 0]).length) * 8 ≤ 140737488355328 ∧ script.l.length + ([0, 0]).length ≤ 140737488355328 from (by first | omega | (simp only [lens9]; omega))) rfl rfl) (wanted_none rfl _) ?_
 rintro a64 w64 ⟨v64, h64⟩; clear h63
 refine wms 1 h64 rfl fun a65 h65 => ?_; clear h64
 refine wpList_nil (hK61 _ _ ?_)
 refine wp_seq_k fun K66 hK66 => wp_region_lit ?_
 refine wv h65 (r_ldbw (i := 11) (vs := [code.v, words.v, .int .i64 ((Lk : Nat) : Int), .int .i64 ((R : Nat) : Int)]) ti_25 rfl rfl rfl rfl rfl) rfl rfl fun a67 h67 => ?_; clear h65
 refine wms 1 h67 rfl fun a68 h68 => ?_; clear h67
 refine wl_ex (x_call h68 bd_31 rfl rfl rfl rfl rfl (scRun_k code words (⟨v64, script.l ++ ([0, 0])⟩ : Ls Int) Lk R _ (h68.sh.at 12 rfl) (h68.sh.at 13 rfl) (h68.sh.own 1 rfl) hok)) (wanted_none rfl _) ?_
 rintro a69 w69 ⟨_, ⟨pr69, wd69, st69, sn69, rfl, hrun69, hs69⟩, hf69⟩
 have h69 := (⟨hf69, h68.sh.call hs69 (by intro A hA b hb; simp only [List.mem_cons, List.not_mem_nil, or_false] at hA; first | (subst hA; exact Flat.noRd hb) | (rcases hA with rfl | rfl <;> first | exact (hb : False).elim | exact Flat.noRd hb | exact .inl (hb : _)))⟩ : St 102 (fun _ => False) W a69 w69 _ _)
 clear hf69 hs69
 clear h68
 refine wms 1 h69 rfl fun a70 h70 => ?_; clear h69
 refine wv h70 (r_extract rfl rfl rfl) rfl rfl fun a71 h71 => ?_; clear h70
 refine wv h71 (r_extract rfl rfl rfl) rfl rfl fun a72 h72 => ?_; clear h71
 refine wl_ex (x_alloc h72 ti_49 rfl rfl rfl) (wanted_none rfl _) ?_
 rintro a73 w73 ⟨b73, h73⟩; clear h72
 refine wl_ex (x_alloc h73 ti_28 rfl rfl rfl) (wanted_none rfl _) ?_
 rintro a74 w74 ⟨b74, h74⟩; clear h73
 refine wl_ex (x_stb (i := 1) (vs := [pr69.v, .int .i64 st69, wd69.v, .int .i64 ((sn69 : Nat) : Int)]) (cs' := [pr69.v, .int .i64 st69, wd69.v, .int .i64 ((sn69 : Nat) : Int)]) h74 ti_49 rfl rfl rfl rfl rfl rfl rfl (allOne_cons ((h74.sh.own 2 rfl)).one (allOne_cons rfl (allOne_cons ((h74.sh.own 3 rfl)).one (allOne_cons rfl allOne_nil)))) (Nat.le_of_ble_eq_true rfl) rfl) (wanted_none rfl _) ?_
 rintro a75 w75 h75
 clear h74
 refine wl_ex (x_stb (i := 0) (vs := [.int .i64 0, .int .i64 0, .int .i64 0]) (cs' := [.int .i64 0, .int .i64 0, .int .i64 0]) h75 ti_28 rfl rfl rfl rfl rfl rfl rfl (allOne_cons rfl (allOne_cons rfl (allOne_cons rfl allOne_nil))) (Nat.le_of_ble_eq_true rfl) rfl) (wanted_none rfl _) ?_
 rintro a76 w76 h76
 clear h75
 refine wpList_nil (hK66 _ _ ?_)
 have h77 : St 102 (fun _ => False) W a76 w76 [(2, .pointer (some ⟨b3, 0, none⟩)), (5, .pointer (some ⟨b11, 0, none⟩)), (8, .pointer (some ⟨b73, 0, none⟩)), (9, .pointer (some ⟨b74, 0, none⟩))] [.blk b74 28 [.int .i64 0, .int .i64 0, .int .i64 0], .blk b73 49 [pr69.v, .int .i64 st69, wd69.v, .int .i64 ((sn69 : Nat) : Int)], .own 3 pr69, .own 3 wd69, .own 3 (⟨v63, [0, 0]⟩ : Ls Int), .own 3 (⟨v64, script.l ++ ([0, 0])⟩ : Ls Int), .own 3 pr45, .own 3 wd45, .own 3 (⟨v33, [0, 0, 1, 1]⟩ : Ls Int), .blk b12 28 [.int .i64 0, .int .i64 0, .int .i64 0], .blk b11 49 [pr45.v, .int .i64 st45, wd45.v, .int .i64 ((sn45 : Nat) : Int)], .own 3 pr7, .own 3 wd7, .deep 33 c6, .own 3 u6, .blk b3 25 [code.v, words.v, .int .i64 ((Lk : Nat) : Int), .int .i64 ((R : Nat) : Int)], .at_ code, .at_ words, .at_ script] := h76.nrm ⟨rfl, rfl, rfl, rfl, trivial⟩ [0, 1, 2, 3, 4, 5, 6, 7, 8, 9, 10, 11, 12, 13, 14, 15, 16, 17, 18] (by decide) ⟨rfl, rfl, rfl, rfl, rfl, rfl, rfl, rfl, rfl, rfl, rfl, rfl, rfl, rfl, rfl, rfl, rfl, rfl, rfl, trivial⟩
 clear h76
 refine wp_seq_k fun K78 hK78 => ?_
 refine wp_seq_k fun K79 hK79 => wp_region_lit ?_
 refine wv h77 (r_fieldB (r := 0) fl_25_0 rfl rfl rfl) rfl rfl fun a80 h80 => ?_; clear h77
 refine wv h80 (r_ldb (i := 15) ti_22 rfl rfl rfl rfl) rfl rfl fun a81 h81 => ?_; clear h80
 have hl82 : code.l.length ≤ 140737488355328 := (h81.sh.at 16 rfl).len
 refine wv h81 (r_len (s := code) (n := code.l.length) sl_22 rfl rfl (fun w h => (h.at 16 rfl)) rfl) rfl rfl fun a83 h83 => ?_; clear h81
 refine wv h83 (r_eqlN (p := code.l.length) (q := 1) rfl rfl rfl) rfl rfl fun a84 h84 => ?_; clear h83
 refine wpList_nil (hK79 _ _ ?_)
 refine x_cond h84 rfl (fun hb85 => ?_) (fun hb85 => ?_)
 ·
  have hp85 : code.l.length = 1 := of_decide_eq_true hb85
  refine wp_region_lit ?_
  refine wv h84 (r_ldbw (i := 15) (vs := [code.v, words.v, .int .i64 ((Lk : Nat) : Int), .int .i64 ((R : Nat) : Int)]) ti_25 rfl rfl rfl rfl rfl) rfl rfl fun a86 h86 => ?_; clear h84
  refine wl_ex (x_call h86 bd_31 rfl rfl rfl rfl rfl (scRun_k code words (⟨.slice none 0 0, []⟩ : Ls Int) Lk R _ (h86.sh.at 16 rfl) (h86.sh.at 17 rfl) (Sh.nilAt (α := Int) h86.sh) hok)) (wanted_none rfl _) ?_
  rintro a87 w87 ⟨_, ⟨pr87, wd87, st87, sn87, rfl, hrun87, hs87⟩, hf87⟩
  have h87 := (⟨hf87, h86.sh.call hs87 (by intro A hA b hb; simp only [List.mem_cons, List.not_mem_nil, or_false] at hA; first | (subst hA; exact Flat.noRd hb) | (rcases hA with rfl | rfl <;> first | exact (hb : False).elim | exact Flat.noRd hb | exact .inl (hb : _)))⟩ : St 102 (fun _ => False) W a87 w87 _ _)
  clear hf87 hs87
  clear h86
  refine wms 1 h87 rfl fun a88 h88 => ?_; clear h87
  refine wv h88 (r_extract rfl rfl rfl) rfl rfl fun a89 h89 => ?_; clear h88
  refine wv h89 (r_extract rfl rfl rfl) rfl rfl fun a90 h90 => ?_; clear h89
  refine wl_ex (x_stb (i := 3) (vs := [pr87.v, .int .i64 st87, wd87.v, .int .i64 ((sn87 : Nat) : Int)]) (cs' := [pr87.v, .int .i64 st87, wd87.v, .int .i64 ((sn87 : Nat) : Int)]) h90 ti_49 rfl rfl rfl rfl rfl rfl rfl (allOne_cons ((h90.sh.own 0 rfl)).one (allOne_cons rfl (allOne_cons ((h90.sh.own 1 rfl)).one (allOne_cons rfl allOne_nil)))) (Nat.le_of_ble_eq_true rfl) rfl) (wanted_none rfl _) ?_
  rintro a91 w91 h91
  clear h90
  refine wl_ex (x_stb (i := 2) (vs := [.int .i64 0, .int .i64 0, .int .i64 0]) (cs' := [.int .i64 0, .int .i64 0, .int .i64 0]) h91 ti_28 rfl rfl rfl rfl rfl rfl rfl (allOne_cons rfl (allOne_cons rfl (allOne_cons rfl allOne_nil))) (Nat.le_of_ble_eq_true rfl) rfl) (wanted_none rfl _) ?_
  rintro a92 w92 h92
  clear h91
  refine wpList_nil (hK78 _ _ ?_)
  have he9 := hrun45.symm.trans ((runM_one (by rw [pgN_len]; assumption) _ _).trans hrun87)
  simp only [TrM.mk.injEq] at he9
  refine wp_seq_k fun K93 hK93 => wp_region_lit ?_
  refine wv h92 (r_fieldB (r := 0) fl_49_0 rfl rfl rfl) rfl rfl fun a94 h94 => ?_; clear h92
  refine wv h94 (r_ldb (i := 12) ti_23 rfl rfl rfl rfl) rfl rfl fun a95 h95 => ?_; clear h94
  refine wv h95 (r_fieldB (r := 0) fl_49_0 rfl rfl rfl) rfl rfl fun a96 h96 => ?_; clear h95
  refine wv h96 (r_ldb (i := 3) ti_23 rfl rfl rfl rfl) rfl rfl fun a97 h97 => ?_; clear h96
  refine wl_ex (x_call h97 bd_36 rfl rfl rfl rfl rfl (kints_c pr45 pr87 _ (h97.sh.own 8 rfl) (h97.sh.own 0 rfl))) (wanted_none rfl _) ?_
  rintro a98 w98 ⟨_, ⟨rfl, hs98⟩, hf98⟩
  have h98 : St 102 (fun _ => False) W a98 w98 _ _ := ⟨hf98, h97.sh.call0 hs98⟩
  clear hf98 hs98
  clear h97
  refine wms 1 h98 rfl fun a99 h99 => ?_; clear h98
  refine wpList_nil (hK93 _ _ ?_)
  refine wp_seq_k fun K100 hK100 => wp_region_lit ?_
  refine wv h99 (r_fieldB (r := 2) fl_49_2 rfl rfl rfl) rfl rfl fun a101 h101 => ?_; clear h99
  refine wv h101 (r_ldb (i := 12) ti_23 rfl rfl rfl rfl) rfl rfl fun a102 h102 => ?_; clear h101
  refine wv h102 (r_fieldB (r := 2) fl_49_2 rfl rfl rfl) rfl rfl fun a103 h103 => ?_; clear h102
  refine wv h103 (r_ldb (i := 3) ti_23 rfl rfl rfl rfl) rfl rfl fun a104 h104 => ?_; clear h103
  refine wl_ex (x_call h104 bd_36 rfl rfl rfl rfl rfl (kints_c wd45 wd87 _ (h104.sh.own 9 rfl) (h104.sh.own 1 rfl))) (wanted_none rfl _) ?_
  rintro a105 w105 ⟨_, ⟨rfl, hs105⟩, hf105⟩
  have h105 : St 102 (fun _ => False) W a105 w105 _ _ := ⟨hf105, h104.sh.call0 hs105⟩
  clear hf105 hs105
  clear h104
  refine wms 1 h105 rfl fun a106 h106 => ?_; clear h105
  refine wpList_nil (hK100 _ _ ?_)
  refine wp_seq_k fun K107 hK107 => wp_region_lit ?_
  refine wv h106 (r_fieldB (r := 0) fl_28_0 rfl rfl rfl) rfl rfl fun a108 h108 => ?_; clear h106
  refine wv h108 (r_ldb (i := 2) ti_26 rfl rfl rfl rfl) rfl rfl fun a109 h109 => ?_; clear h108
  refine wv h109 (r_eqlN (p := 0) (q := 0) rfl rfl rfl) rfl rfl fun a110 h110 => ?_; clear h109
  refine wms 1 h110 rfl fun a111 h111 => ?_; clear h110
  refine wl_val h111 (r_move rfl rfl) (wanted_yes h111.fr rfl rfl rfl rfl (by decide)) rfl rfl fun a112 h112 => ?_; clear h111
  refine wv h112 (r_pickT rfl rfl (by decide) rfl) rfl rfl fun a113 h113 => ?_; clear h112
  refine wms 1 h113 rfl fun a114 h114 => ?_; clear h113
  refine wl_val h114 (r_move rfl rfl) (wanted_yes h114.fr rfl rfl rfl rfl (decide_eq_true he9.2.2.2)) rfl rfl fun a115 h115 => ?_; clear h114
  refine wv h115 (r_pickT rfl rfl (decide_eq_true he9.2.2.2) rfl) rfl rfl fun a116 h116 => ?_; clear h115
  refine wms 1 h116 rfl fun a117 h117 => ?_; clear h116
  refine wl_val h117 (r_fieldB (r := 1) fl_49_1 rfl rfl rfl) (wanted_yes h117.fr rfl rfl rfl rfl (decide_eq_true he9.2.2.1)) rfl rfl fun a118 h118 => ?_; clear h117
  refine wl_val h118 (r_ldb (i := 12) ti_3 rfl rfl rfl rfl) (wanted_yes h118.fr rfl rfl rfl rfl (decide_eq_true he9.2.2.1)) rfl rfl fun a119 h119 => ?_; clear h118
  refine wl_val h119 (r_fieldB (r := 1) fl_49_1 rfl rfl rfl) (wanted_yes h119.fr rfl rfl rfl rfl (decide_eq_true he9.2.2.1)) rfl rfl fun a120 h120 => ?_; clear h119
  refine wl_val h120 (r_ldb (i := 3) ti_3 rfl rfl rfl rfl) (wanted_yes h120.fr rfl rfl rfl rfl (decide_eq_true he9.2.2.1)) rfl rfl fun a121 h121 => ?_; clear h120
  refine wl_val h121 (r_eqlI (p := st45) (q := st87) rfl rfl rfl) (wanted_yes h121.fr rfl rfl rfl rfl (decide_eq_true he9.2.2.1)) rfl rfl fun a122 h122 => ?_; clear h121
  refine wv h122 (r_pickT rfl rfl (decide_eq_true he9.2.2.1) rfl) rfl rfl fun a123 h123 => ?_; clear h122
  refine wms 1 h123 rfl fun a124 h124 => ?_; clear h123
  refine wl_val h124 (r_fieldB (r := 3) fl_49_3 rfl rfl rfl) (wanted_yes h124.fr rfl rfl rfl rfl (decide_eq_true he9.1)) rfl rfl fun a125 h125 => ?_; clear h124
  refine wl_val h125 (r_ldb (i := 12) ti_3 rfl rfl rfl rfl) (wanted_yes h125.fr rfl rfl rfl rfl (decide_eq_true he9.1)) rfl rfl fun a126 h126 => ?_; clear h125
  refine wl_val h126 (r_fieldB (r := 3) fl_49_3 rfl rfl rfl) (wanted_yes h126.fr rfl rfl rfl rfl (decide_eq_true he9.1)) rfl rfl fun a127 h127 => ?_; clear h126
  refine wl_val h127 (r_ldb (i := 3) ti_3 rfl rfl rfl rfl) (wanted_yes h127.fr rfl rfl rfl rfl (decide_eq_true he9.1)) rfl rfl fun a128 h128 => ?_; clear h127
  refine wl_val h128 (r_eqlN (p := sn45) (q := sn87) rfl rfl rfl) (wanted_yes h128.fr rfl rfl rfl rfl (decide_eq_true he9.1)) rfl rfl fun a129 h129 => ?_; clear h128
  refine wv h129 (r_pickT rfl rfl (decide_eq_true he9.1) rfl) rfl rfl fun a130 h130 => ?_; clear h129
  refine wms 1 h130 rfl fun a131 h131 => ?_; clear h130
  refine wpList_nil (hK107 _ _ ?_)
  have h132 : St 102 (fun _ => False) W a131 w105 [(4, .bool (decide (sn45 = sn87)))] [.own 3 pr87, .own 3 wd87, .blk b74 28 [.int .i64 0, .int .i64 0, .int .i64 0], .blk b73 49 [pr87.v, .int .i64 st87, wd87.v, .int .i64 ((sn87 : Nat) : Int)], .own 3 pr69, .own 3 wd69, .own 3 (⟨v63, [0, 0]⟩ : Ls Int), .own 3 (⟨v64, script.l ++ ([0, 0])⟩ : Ls Int), .own 3 pr45, .own 3 wd45, .own 3 (⟨v33, [0, 0, 1, 1]⟩ : Ls Int), .blk b12 28 [.int .i64 0, .int .i64 0, .int .i64 0], .blk b11 49 [pr45.v, .int .i64 st45, wd45.v, .int .i64 ((sn45 : Nat) : Int)], .own 3 pr7, .own 3 wd7, .deep 33 c6, .own 3 u6, .blk b3 25 [code.v, words.v, .int .i64 ((Lk : Nat) : Int), .int .i64 ((R : Nat) : Int)], .at_ code, .at_ words, .at_ script] := h131.nrm ⟨rfl, trivial⟩ [0, 1, 2, 3, 4, 5, 6, 7, 8, 9, 10, 11, 12, 13, 14, 15, 16, 17, 18, 19, 20] (by decide) ⟨rfl, rfl, rfl, rfl, rfl, rfl, rfl, rfl, rfl, rfl, rfl, rfl, rfl, rfl, rfl, rfl, rfl, rfl, rfl, rfl, rfl, trivial⟩
  clear h131
  refine wp_ret ?_
  try simp only [Exit.then, Exit.inBlock]
  refine x_ret1 (fn := Try.f9) (t := 4) rfl h132 rfl ?_
  refine ⟨?_, (h132.sh.sel [] (by decide) trivial)⟩
  first | rfl | (congr 1; exact decide_eq_true he9.2.1) | (congr 1; assumption)
 have hp85 : ¬ (code.l.length = 1) := of_decide_eq_false hb85
 refine wp_skip ?_
 refine hK78 _ _ ?_
 have he9 := hrun45.symm.trans ((runM_ahead).symm.trans hrun69)
 simp only [TrM.mk.injEq] at he9
 refine wp_seq_k fun K133 hK133 => wp_region_lit ?_
 refine wv h84 (r_fieldB (r := 0) fl_49_0 rfl rfl rfl) rfl rfl fun a134 h134 => ?_; clear h84
 refine wv h134 (r_ldb (i := 10) ti_23 rfl rfl rfl rfl) rfl rfl fun a135 h135 => ?_; clear h134
 refine wv h135 (r_fieldB (r := 0) fl_49_0 rfl rfl rfl) rfl rfl fun a136 h136 => ?_; clear h135
 refine wv h136 (r_ldb (i := 1) ti_23 rfl rfl rfl rfl) rfl rfl fun a137 h137 => ?_; clear h136
 refine wl_ex (x_call h137 bd_36 rfl rfl rfl rfl rfl (kints_c pr45 pr69 _ (h137.sh.own 6 rfl) (h137.sh.own 2 rfl))) (wanted_none rfl _) ?_
 rintro a138 w138 ⟨_, ⟨rfl, hs138⟩, hf138⟩
 have h138 : St 102 (fun _ => False) W a138 w138 _ _ := ⟨hf138, h137.sh.call0 hs138⟩
 clear hf138 hs138
 clear h137
 refine wms 1 h138 rfl fun a139 h139 => ?_; clear h138
 refine wpList_nil (hK133 _ _ ?_)
 refine wp_seq_k fun K140 hK140 => wp_region_lit ?_
 refine wv h139 (r_fieldB (r := 2) fl_49_2 rfl rfl rfl) rfl rfl fun a141 h141 => ?_; clear h139
 refine wv h141 (r_ldb (i := 10) ti_23 rfl rfl rfl rfl) rfl rfl fun a142 h142 => ?_; clear h141
 refine wv h142 (r_fieldB (r := 2) fl_49_2 rfl rfl rfl) rfl rfl fun a143 h143 => ?_; clear h142
 refine wv h143 (r_ldb (i := 1) ti_23 rfl rfl rfl rfl) rfl rfl fun a144 h144 => ?_; clear h143
 refine wl_ex (x_call h144 bd_36 rfl rfl rfl rfl rfl (kints_c wd45 wd69 _ (h144.sh.own 7 rfl) (h144.sh.own 3 rfl))) (wanted_none rfl _) ?_
 rintro a145 w145 ⟨_, ⟨rfl, hs145⟩, hf145⟩
 have h145 : St 102 (fun _ => False) W a145 w145 _ _ := ⟨hf145, h144.sh.call0 hs145⟩
 clear hf145 hs145
 clear h144
 refine wms 1 h145 rfl fun a146 h146 => ?_; clear h145
 refine wpList_nil (hK140 _ _ ?_)
 refine wp_seq_k fun K147 hK147 => wp_region_lit ?_
 refine wv h146 (r_fieldB (r := 0) fl_28_0 rfl rfl rfl) rfl rfl fun a148 h148 => ?_; clear h146
 refine wv h148 (r_ldb (i := 0) ti_26 rfl rfl rfl rfl) rfl rfl fun a149 h149 => ?_; clear h148
 refine wv h149 (r_eqlN (p := 0) (q := 0) rfl rfl rfl) rfl rfl fun a150 h150 => ?_; clear h149
 refine wms 1 h150 rfl fun a151 h151 => ?_; clear h150
 refine wl_val h151 (r_move rfl rfl) (wanted_yes h151.fr rfl rfl rfl rfl (by decide)) rfl rfl fun a152 h152 => ?_; clear h151
 refine wv h152 (r_pickT rfl rfl (by decide) rfl) rfl rfl fun a153 h153 => ?_; clear h152
 refine wms 1 h153 rfl fun a154 h154 => ?_; clear h153
 refine wl_val h154 (r_move rfl rfl) (wanted_yes h154.fr rfl rfl rfl rfl (decide_eq_true he9.2.2.2)) rfl rfl fun a155 h155 => ?_; clear h154
 refine wv h155 (r_pickT rfl rfl (decide_eq_true he9.2.2.2) rfl) rfl rfl fun a156 h156 => ?_; clear h155
 refine wms 1 h156 rfl fun a157 h157 => ?_; clear h156
 refine wl_val h157 (r_fieldB (r := 1) fl_49_1 rfl rfl rfl) (wanted_yes h157.fr rfl rfl rfl rfl (decide_eq_true he9.2.2.1)) rfl rfl fun a158 h158 => ?_; clear h157
 refine wl_val h158 (r_ldb (i := 10) ti_3 rfl rfl rfl rfl) (wanted_yes h158.fr rfl rfl rfl rfl (decide_eq_true he9.2.2.1)) rfl rfl fun a159 h159 => ?_; clear h158
 refine wl_val h159 (r_fieldB (r := 1) fl_49_1 rfl rfl rfl) (wanted_yes h159.fr rfl rfl rfl rfl (decide_eq_true he9.2.2.1)) rfl rfl fun a160 h160 => ?_; clear h159
 refine wl_val h160 (r_ldb (i := 1) ti_3 rfl rfl rfl rfl) (wanted_yes h160.fr rfl rfl rfl rfl (decide_eq_true he9.2.2.1)) rfl rfl fun a161 h161 => ?_; clear h160
 refine wl_val h161 (r_eqlI (p := st45) (q := st69) rfl rfl rfl) (wanted_yes h161.fr rfl rfl rfl rfl (decide_eq_true he9.2.2.1)) rfl rfl fun a162 h162 => ?_; clear h161
 refine wv h162 (r_pickT rfl rfl (decide_eq_true he9.2.2.1) rfl) rfl rfl fun a163 h163 => ?_; clear h162
 refine wms 1 h163 rfl fun a164 h164 => ?_; clear h163
 refine wl_val h164 (r_fieldB (r := 3) fl_49_3 rfl rfl rfl) (wanted_yes h164.fr rfl rfl rfl rfl (decide_eq_true he9.1)) rfl rfl fun a165 h165 => ?_; clear h164
 refine wl_val h165 (r_ldb (i := 10) ti_3 rfl rfl rfl rfl) (wanted_yes h165.fr rfl rfl rfl rfl (decide_eq_true he9.1)) rfl rfl fun a166 h166 => ?_; clear h165
 refine wl_val h166 (r_fieldB (r := 3) fl_49_3 rfl rfl rfl) (wanted_yes h166.fr rfl rfl rfl rfl (decide_eq_true he9.1)) rfl rfl fun a167 h167 => ?_; clear h166
 refine wl_val h167 (r_ldb (i := 1) ti_3 rfl rfl rfl rfl) (wanted_yes h167.fr rfl rfl rfl rfl (decide_eq_true he9.1)) rfl rfl fun a168 h168 => ?_; clear h167
 refine wl_val h168 (r_eqlN (p := sn45) (q := sn69) rfl rfl rfl) (wanted_yes h168.fr rfl rfl rfl rfl (decide_eq_true he9.1)) rfl rfl fun a169 h169 => ?_; clear h168
 refine wv h169 (r_pickT rfl rfl (decide_eq_true he9.1) rfl) rfl rfl fun a170 h170 => ?_; clear h169
 refine wms 1 h170 rfl fun a171 h171 => ?_; clear h170
 refine wpList_nil (hK147 _ _ ?_)
 have h172 : St 102 (fun _ => False) W a171 w145 [(4, .bool (decide (sn45 = sn69)))] [.blk b74 28 [.int .i64 0, .int .i64 0, .int .i64 0], .blk b73 49 [pr69.v, .int .i64 st69, wd69.v, .int .i64 ((sn69 : Nat) : Int)], .own 3 pr69, .own 3 wd69, .own 3 (⟨v63, [0, 0]⟩ : Ls Int), .own 3 (⟨v64, script.l ++ ([0, 0])⟩ : Ls Int), .own 3 pr45, .own 3 wd45, .own 3 (⟨v33, [0, 0, 1, 1]⟩ : Ls Int), .blk b12 28 [.int .i64 0, .int .i64 0, .int .i64 0], .blk b11 49 [pr45.v, .int .i64 st45, wd45.v, .int .i64 ((sn45 : Nat) : Int)], .own 3 pr7, .own 3 wd7, .deep 33 c6, .own 3 u6, .blk b3 25 [code.v, words.v, .int .i64 ((Lk : Nat) : Int), .int .i64 ((R : Nat) : Int)], .at_ code, .at_ words, .at_ script] := h171.nrm ⟨rfl, trivial⟩ [0, 1, 2, 3, 4, 5, 6, 7, 8, 9, 10, 11, 12, 13, 14, 15, 16, 17, 18] (by decide) ⟨rfl, rfl, rfl, rfl, rfl, rfl, rfl, rfl, rfl, rfl, rfl, rfl, rfl, rfl, rfl, rfl, rfl, rfl, rfl, trivial⟩
 clear h171
 refine wp_ret ?_
 try simp only [Exit.then, Exit.inBlock]
 refine x_ret1 (fn := Try.f9) (t := 4) rfl h172 rfl ?_
 refine ⟨?_, (h172.sh.sel [] (by decide) trivial)⟩
 first | rfl | (congr 1; exact decide_eq_true he9.2.1) | (congr 1; assumption)

theorem scAhead_any (code : Ls (Ls Ins)) (words script : Ls Int) (locks regs : Int) (W : World) (hcode : code.At W) (hwords : words.At W) (hscript : script.At W) (hsl : script.l.length * 8 ≤ 140737488351232) : Rets Try.prog 9 [.agg #[code.v, words.v, .int .i64 locks, .int .i64 regs], script.v] W (fun v w' => v = .bool true ∧ Sh0 W w' []) := by
  cases hv : vastG (code.l.map (·.l)) words.l with
  | true => exact scAhead_v code words script locks regs W hcode hwords hscript hsl hv
  | false =>
    by_cases hok : OkPg (pgOf code words locks regs)
    · obtain ⟨Lk, rfl⟩ := Int.eq_ofNat_of_zero_le hok.locks.1
      obtain ⟨R, rfl⟩ := Int.eq_ofNat_of_zero_le (show 0 ≤ regs by have := hok.regs.1; have e : (pgOf code words (Lk : Int) regs).regs = regs := rfl; omega)
      exact scAhead_k code words script Lk R W hcode hwords hscript hsl hv hok
    · exact scAhead_b code words script locks regs W hcode hwords hscript hsl hv (fun h => hok (checkG_code_pos.1 h))
end Go.Proofs.Ytfpaahkleienoaa
