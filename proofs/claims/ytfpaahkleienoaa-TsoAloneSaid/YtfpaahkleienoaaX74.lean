/-
  The law TsoAlone, walked.
-/
import Derived.Test.YtfpaahkleienoaaX70
import Derived.Test.YtfpaahkleienoaaM6
import Derived.Test.YtfpaahkleienoaaC2
import Derived.Test.YtfpaahkleienoaaS14
namespace Go.Proofs.Ytfpaahkleienoaa
open Go.RowKit
set_option linter.unusedSimpArgs false
set_option linter.unusedVariables false


theorem take_hund {β : Type} {l : List β} {t : Nat} (h1 : t ≤ l.length) (h2 : t ≤ 100) (h3 : ¬ (t < l.length ∧ t < 100)) : l.take 100 = l.take t := by
  rcases Nat.lt_or_ge t 100 with h | h
  · rw [List.take_of_length_le (by omega), List.take_of_length_le (by omega)]
  · rw [show t = 100 by omega]
def bufPg : Pg := ⟨[[⟨1, 0, 1, 0⟩, ⟨9, 0, 0, 0⟩, ⟨8, 1, 1, 0⟩, ⟨16, 1, 0, 0⟩], [⟨1, 0, 1, 0⟩, ⟨9, 1, 0, 0⟩, ⟨8, 1, 0, 0⟩, ⟨16, 1, 0, 0⟩]], [0, 0], 0, 2⟩
theorem buf_eq {c : Ls (Ls Ins)} {u : Ls Int} (h1 : c.l.map (·.l) = bufPg.code) (h2 : u.l = [0, 0]) : pgN c u 0 2 = bufPg := by unfold pgN pgOf; rw [h1, h2]; rfl
theorem buf_ok {c : Ls (Ls Ins)} {u : Ls Int} (h1 : c.l.map (·.l) = bufPg.code) (h2 : u.l = [0, 0]) : OkPg (pgN c u 0 2) := by rw [buf_eq h1 h2]; exact checkG_code_pos.1 (by decide +kernel)
theorem buf_run1 : runM bufPg 1 [0, 0, 1, 0, 1, 1, 1, 1] = ⟨0, 10, [1, 1], [1, 1, 0, 0]⟩ := by kernel_rfl

set_option maxRecDepth 100000 in
set_option maxHeartbeats 4000000 in
theorem buffers_c (W : World) :
    Rets Try.prog 35 [] W (fun v w' => ∃ (c : Ls (Ls Ins)) (u : Ls Int), v = .agg #[c.v, u.v, .int .i64 0, .int .i64 2] ∧ c.l.map (·.l) = bufPg.code ∧ u.l = [0, 0] ∧ Sh0 W w' [.deep 33 c, .own 3 u]) := by
 refine x_enter (N := 18) Try.func35 rfl Try.ntmps35 (Nat.le_of_ble_eq_true rfl) fun a1 hf1 => ?_
 have h1 : St 18 (fun _ => False) W a1 W [] [] := ⟨hf1.sub trivial, Sh0.start _⟩
 clear hf1
 refine wp_seq_k fun K2 hK2 => wp_region_lit <| wl_ex (x_alloc h1 ti_25 rfl rfl rfl) (wanted_none rfl _) ?_
 rintro a3 w3 ⟨b3, h3⟩; clear h1
 refine wpList_nil <| hK2 _ _ <| wp_seq_k fun K4 hK4 => wp_region_lit <| wv h3 (r_build (cs := [.int .i64 1, .int .i64 0, .int .i64 1, .int .i64 0]) rfl rfl (by kernel_rfl)) rfl rfl fun a5 h5 => wv h5 (r_build (cs := [.int .i64 9, .int .i64 0, .int .i64 0, .int .i64 0]) rfl rfl (by kernel_rfl)) rfl rfl fun a6 h6 => wv h6 (r_build (cs := [.int .i64 8, .int .i64 1, .int .i64 1, .int .i64 0]) rfl rfl (by kernel_rfl)) rfl rfl fun a7 h7 => wv h7 (r_build (cs := [.int .i64 16, .int .i64 1, .int .i64 0, .int .i64 0]) rfl rfl (by kernel_rfl)) rfl rfl fun a8 h8 => wl_ex (x_lit (n := 4) (cs := [.int .i64 1, .int .i64 0, .int .i64 1, .int .i64 0, .int .i64 9, .int .i64 0, .int .i64 0, .int .i64 0, .int .i64 8, .int .i64 1, .int .i64 1, .int .i64 0, .int .i64 16, .int .i64 1, .int .i64 0, .int .i64 0]) ([(⟨1, 0, 1, 0⟩ : Ins), (⟨9, 0, 0, 0⟩ : Ins), (⟨8, 1, 1, 0⟩ : Ins), (⟨16, 1, 0, 0⟩ : Ins)] : List Ins) h8 sl_33 ti_32 rfl rfl rfl (by decide) rfl (by kernel_rfl) rfl (fun q hq w h => Flat.inner _ _) (fun q hq b hb => (Flat.on _ _ hb).elim) rfl rfl) (wanted_none rfl _) ?_; clear h3 h5 h6 h7
 rintro a9 w9 ⟨v9, h9⟩; clear h8
 refine wms 1 h9 rfl fun a10 h10 => wpList_nil <| hK4 _ _ <| wp_seq_k fun K11 hK11 => wp_region_lit <| wv h10 (r_build (cs := [.int .i64 1, .int .i64 0, .int .i64 1, .int .i64 0]) rfl rfl (by kernel_rfl)) rfl rfl fun a12 h12 => wv h12 (r_build (cs := [.int .i64 9, .int .i64 1, .int .i64 0, .int .i64 0]) rfl rfl (by kernel_rfl)) rfl rfl fun a13 h13 => wv h13 (r_build (cs := [.int .i64 8, .int .i64 1, .int .i64 0, .int .i64 0]) rfl rfl (by kernel_rfl)) rfl rfl fun a14 h14 => wv h14 (r_build (cs := [.int .i64 16, .int .i64 1, .int .i64 0, .int .i64 0]) rfl rfl (by kernel_rfl)) rfl rfl fun a15 h15 => wl_ex (x_lit (n := 4) (cs := [.int .i64 1, .int .i64 0, .int .i64 1, .int .i64 0, .int .i64 9, .int .i64 1, .int .i64 0, .int .i64 0, .int .i64 8, .int .i64 1, .int .i64 0, .int .i64 0, .int .i64 16, .int .i64 1, .int .i64 0, .int .i64 0]) ([(⟨1, 0, 1, 0⟩ : Ins), (⟨9, 1, 0, 0⟩ : Ins), (⟨8, 1, 0, 0⟩ : Ins), (⟨16, 1, 0, 0⟩ : Ins)] : List Ins) h15 sl_33 ti_32 rfl rfl rfl (by decide) rfl (by kernel_rfl) rfl (fun q hq w h => Flat.inner _ _) (fun q hq b hb => (Flat.on _ _ hb).elim) rfl rfl) (wanted_none rfl _) ?_; clear h9 h10 h12 h13 h14
 rintro a16 w16 ⟨v16, h16⟩; clear h15
 refine wms 1 h16 rfl fun a17 h17 => wpList_nil <| hK11 _ _ <| wp_seq_k fun K18 hK18 => wp_region_lit <| wms 2 h17 rfl fun a19 h19 => wl_ex (x_lit (n := 2) (cs := [v9, v16]) ([⟨v9⟩, ⟨v16⟩] : List RV) h19 sl_22 ti_33 rfl rfl rfl (by decide) rfl (by obtain ⟨A21, n21, c21, (e21 : v9 = _)⟩ := ((h19.sh.own 1 rfl)).form; rw [e21]; obtain ⟨A20, n20, c20, (e20 : v16 = _)⟩ := ((h19.sh.own 0 rfl)).form; rw [e20]; kernel_rfl) rfl (fun _ _ _ _ => trivial) (fun q hq b hb => (Flat.on _ _ hb).elim) rfl rfl) (wanted_none rfl _) ?_; clear h16 h17
 rintro a22 w22 ⟨v22, h22⟩
 have h23 := h22.sel (L' := [.own 33 (⟨v22, [⟨v9⟩, ⟨v16⟩]⟩ : Ls RV), .own 32 (⟨v9, [(⟨1, 0, 1, 0⟩ : Ins), (⟨9, 0, 0, 0⟩ : Ins), (⟨8, 1, 1, 0⟩ : Ins), (⟨16, 1, 0, 0⟩ : Ins)]⟩ : Ls Ins), .own 32 (⟨v16, [(⟨1, 0, 1, 0⟩ : Ins), (⟨9, 1, 0, 0⟩ : Ins), (⟨8, 1, 0, 0⟩ : Ins), (⟨16, 1, 0, 0⟩ : Ins)]⟩ : Ls Ins), .blk b3 25 [(.slice none 0 0), (.slice none 0 0), .int .i64 0, .int .i64 0]]) [0, 2, 1, 3] (by decide) ⟨rfl, rfl, rfl, rfl, trivial⟩
 have h24 : St 18 (fun _ => False) W a22 w22 _ _ := ⟨h23.fr, (Sh.close (B := matX (.own 32) 33 v22 [(⟨v9, [(⟨1, 0, 1, 0⟩ : Ins), (⟨9, 0, 0, 0⟩ : Ins), (⟨8, 1, 1, 0⟩ : Ins), (⟨16, 1, 0, 0⟩ : Ins)]⟩ : Ls Ins), (⟨v16, [(⟨1, 0, 1, 0⟩ : Ins), (⟨9, 1, 0, 0⟩ : Ins), (⟨8, 1, 0, 0⟩ : Ins), (⟨16, 1, 0, 0⟩ : Ins)]⟩ : Ls Ins)]) h23.sh).matDeep own_mat⟩
 clear h23
 clear h19
 refine wl_ex (x_lit (n := 2) (cs := [.int .i64 0, .int .i64 0]) ([0, 0] : List Int) h24 sl_23 ti_3 rfl rfl rfl (by decide) rfl (by kernel_rfl) rfl (fun q hq w h => Flat.inner _ _) (fun q hq b hb => (Flat.on _ _ hb).elim) rfl rfl) (wanted_none rfl _) ?_
 rintro a25 w25 ⟨v25, h25⟩; clear h24
 refine wv h25 (r_build (cs := [v22, v25, .int .i64 0, .int .i64 2]) rfl rfl (by obtain ⟨A27, n27, c27, (e27 : v25 = _)⟩ := ((h25.sh.own 0 rfl)).form; rw [e27]; obtain ⟨A26, n26, c26, (e26 : v22 = _)⟩ := ((h25.sh.deep 1 rfl)).form; rw [e26]; kernel_rfl)) rfl rfl fun a28 h28 => wl_ex (x_stb (i := 2) (vs := [v22, v25, .int .i64 0, .int .i64 2]) (cs' := [v22, v25, .int .i64 0, .int .i64 2]) h28 ti_25 rfl rfl rfl rfl rfl rfl rfl (allOne_cons ((h28.sh.deep 1 rfl)).one (allOne_cons ((h28.sh.own 0 rfl)).one (allOne_cons rfl (allOne_cons rfl allOne_nil)))) (Nat.le_of_ble_eq_true rfl) rfl) (wanted_none rfl _) ?_; clear h25
 rintro a29 w29 h29
 clear h28
 refine wpList_nil <| hK18 _ _ <| wp_ret ?_
 try simp only [Exit.then, Exit.inBlock]
 refine x_ret1c (fn := Try.f35) (t := 0) (i := 2) ti_25 rfl h29 rfl rfl rfl ?_
 exact ⟨⟨v22, [(⟨v9, [(⟨1, 0, 1, 0⟩ : Ins), (⟨9, 0, 0, 0⟩ : Ins), (⟨8, 1, 1, 0⟩ : Ins), (⟨16, 1, 0, 0⟩ : Ins)]⟩ : Ls Ins), (⟨v16, [(⟨1, 0, 1, 0⟩ : Ins), (⟨9, 1, 0, 0⟩ : Ins), (⟨8, 1, 0, 0⟩ : Ins), (⟨16, 1, 0, 0⟩ : Ins)]⟩ : Ls Ins)]⟩, ⟨v25, [0, 0]⟩, rfl, rfl, rfl, (h29.sh.sel (L' := [.deep 33 (⟨v22, [(⟨v9, [(⟨1, 0, 1, 0⟩ : Ins), (⟨9, 0, 0, 0⟩ : Ins), (⟨8, 1, 1, 0⟩ : Ins), (⟨16, 1, 0, 0⟩ : Ins)]⟩ : Ls Ins), (⟨v16, [(⟨1, 0, 1, 0⟩ : Ins), (⟨9, 1, 0, 0⟩ : Ins), (⟨8, 1, 0, 0⟩ : Ins), (⟨16, 1, 0, 0⟩ : Ins)]⟩ : Ls Ins)]⟩ : Ls (Ls Ins)), .own 3 (⟨v25, [0, 0]⟩ : Ls Int)]) [1, 0] (by decide) ⟨rfl, rfl, trivial⟩)⟩

set_option maxRecDepth 100000 in
set_option maxHeartbeats 1000000 in
theorem kints_c (x y : Ls Int) (W : World) (hx : x.At W) (hy : y.At W) :
    Rets Try.prog 36 [x.v, y.v] W (fun v w' => v = .bool (decide (x.l = y.l)) ∧ Sh0 W w' []) := by
 refine x_enter (N := 26) Try.func36 rfl Try.ntmps36 (Nat.le_of_ble_eq_true rfl) fun a1 hf1 => ?_
 have h1 : St 26 (fun _ => False) W a1 W [(0, x.v), (1, y.v)] [.at_ x, .at_ y] := ⟨hf1.sub ⟨rfl, rfl, trivial⟩, Sh0.ext2 hx hy⟩
 clear hf1
 refine wp_seq_k fun K2 hK2 => wp_region_lit <| wms 1 h1 rfl fun a3 h3 => wpList_nil <| hK2 _ _ <| wp_seq_k fun K4 hK4 => wp_seq_k fun K5 hK5 => wp_region_lit <| wms 1 h3 rfl fun a6 h6 => ?_; clear h1 h3
 have hl7 : x.l.length ≤ 140737488355328 := (h6.sh.at 0 rfl).len
 refine wv h6 (r_len (s := x) (n := x.l.length) sl_23 rfl rfl (fun w h => (h.at 0 rfl)) rfl) rfl rfl fun a8 h8 => wms 1 h8 rfl fun a9 h9 => ?_; clear h6 h8
 have hl10 : y.l.length ≤ 140737488355328 := (h9.sh.at 1 rfl).len
 refine wv h9 (r_len (s := y) (n := y.l.length) sl_23 rfl rfl (fun w h => (h.at 1 rfl)) rfl) rfl rfl fun a11 h11 => wv h11 (r_neqN (p := x.l.length) (q := y.l.length) rfl rfl rfl) rfl rfl fun a12 h12 => wpList_nil <| hK5 _ _ <| x_cond h12 rfl (fun hb13 => ?_) (fun hb13 => ?_); clear h9 h11
 ·have hp13 : x.l.length ≠ y.l.length := of_decide_eq_true hb13
  refine wp_seq_k fun K14 hK14 => wp_region_lit <| wms 1 h12 rfl fun a15 h15 => wpList_nil <| hK14 _ _ <| wp_ret ?_; clear h12
  try simp only [Exit.then, Exit.inBlock]
  refine x_ret1 (fn := Try.f36) (t := 4) rfl h15 rfl <| ⟨?_, (h15.sh.sel [] (by decide) trivial)⟩
  congr 1
  first | (exact (decide_eq_true (ext_nth _ _ (by omega) fun i hi => hall i (by omega))).symm) | (refine (decide_eq_false fun e => ?_).symm; first | (rw [e] at *; omega) | (simp_all; done))
 have hp13 : ¬ (x.l.length ≠ y.l.length) := of_decide_eq_false hb13
 refine wp_skip <| hK4 _ _ <| wp_seq_k fun K16 hK16 => wp_seq_k fun K17 hK17 => wp_region_lit <| wms 1 h12 rfl fun a18 h18 => wpList_nil <| hK17 _ _ <| wp_block <| x_loop (fun m a w => ∃ (k : Nat), (k ≤ x.l.length) ∧ (∀ j, j < k → nth x.l j = nth y.l j) ∧ St 26 (fun _ => False) W a w [(0, x.v), (1, y.v), (5, .int .i64 ((k : Nat) : Int))] [.at_ x, .at_ y] ∧ m = x.l.length - k) ⟨_, 0, (by omega), (fun j hj => absurd hj (by omega)), h18.nrm ⟨rfl, rfl, rfl, trivial⟩ [0, 1] (by decide) ⟨rfl, rfl, trivial⟩, rfl⟩ ?_; clear h12
 clear h18
 rintro m19 a19 w19 ⟨k, hk, hall, h19, hm19⟩
 refine wp_seq_k fun K20 hK20 => wp_seq_k fun K21 hK21 => wp_region_lit <| wms 2 h19 rfl fun a22 h22 => wv h22 (r_len (s := x) (n := x.l.length) sl_23 rfl rfl (fun w h => (h.at 0 rfl)) rfl) rfl rfl fun a23 h23 => wv h23 (r_lssN (p := k) (q := x.l.length) rfl rfl rfl) rfl rfl fun a24 h24 => wpList_nil <| hK21 _ _ <| x_cond h24 rfl (fun hb25 => ?_) (fun hb25 => ?_); clear h19 h22 h23
 ·have hp25 : k < x.l.length := of_decide_eq_true hb25
  refine wp_skip <| hK20 _ _ <| wp_seq_k fun K26 hK26 => wp_block <| wp_seq_k fun K27 hK27 => x_quiet (by kernel_rfl) (by kernel_rfl) h24 fun Z28 hZ28 => ?_
  have hq28 := h24.fr
  refine wq_val hq28 (r_move rfl rfl) (wanted_none rfl _) rfl rfl fun a29 hq29 => wq_val hq29 (r_move rfl rfl) (wanted_none rfl _) rfl rfl fun a30 hq30 => wq_val hq30 (r_ixN (s := x) (q := k) sl_23 ti_3 rfl rfl rfl (fun w h => (h.at 0 rfl)) (show k < x.l.length from (by omega))) (wanted_none rfl _) rfl rfl fun a31 hq31 => wq_val hq31 (r_lde (s := x) (i := k) (v := .int .i64 (nth x.l k)) ti_3 rfl rfl rfl (fun w h => (h.at 0 rfl)) (show k < x.l.length from (by omega)) (Nat.le_of_ble_eq_true rfl) rfl) (wanted_none rfl _) rfl rfl fun a32 hq32 => wq_val hq32 (r_move rfl rfl) (wanted_none rfl _) rfl rfl fun a33 hq33 => wq_val hq33 (r_move rfl rfl) (wanted_none rfl _) rfl rfl fun a34 hq34 => wq_val hq34 (r_ixN (s := y) (q := k) sl_23 ti_3 rfl rfl rfl (fun w h => (h.at 1 rfl)) (show k < y.l.length from (by omega))) (wanted_none rfl _) rfl rfl fun a35 hq35 => wq_val hq35 (r_lde (s := y) (i := k) (v := .int .i64 (nth y.l k)) ti_3 rfl rfl rfl (fun w h => (h.at 1 rfl)) (show k < y.l.length from (by omega)) (Nat.le_of_ble_eq_true rfl) rfl) (wanted_none rfl _) rfl rfl fun a36 hq36 => wq_val hq36 (r_neqI (p := nth x.l k) (q := nth y.l k) rfl rfl rfl) (wanted_none rfl _) rfl rfl fun a37 hq37 => wpQuiet_nil (hZ28 _ fun w38 hw38 => ?_); clear hq28 hq29 hq30 hq31 hq32 hq33 hq34 hq35 hq36
  have h38 : St 26 (fun _ => False) W a37 w38 _ _ := ⟨hq37, hw38⟩
  clear hq37 hw38 h24
  refine hK27 _ _ <| x_cond h38 rfl (fun hb39 => ?_) (fun hb39 => ?_)
  ·have hp39 : nth x.l k ≠ nth y.l k := of_decide_eq_true hb39
   refine wp_seq_k fun K40 hK40 => wp_region_lit <| wms 1 h38 rfl fun a41 h41 => wpList_nil <| hK40 _ _ <| wp_ret ?_; clear h38
   try simp only [Exit.then, Exit.inBlock]
   refine x_ret1 (fn := Try.f36) (t := 4) rfl h41 rfl <| ⟨?_, (h41.sh.sel [] (by decide) trivial)⟩
   congr 1
   first | (exact (decide_eq_true (ext_nth _ _ (by omega) fun i hi => hall i (by omega))).symm) | (refine (decide_eq_false fun e => ?_).symm; first | (rw [e] at *; omega) | (simp_all; done))
  have hp39 : ¬ (nth x.l k ≠ nth y.l k) := of_decide_eq_false hb39
  refine wp_skip <| hK26 _ _ <| wp_region_lit <| wms 1 h38 rfl fun a42 h42 => wv h42 (r_addN (p := k) (q := 1) rfl rfl rfl (show k + 1 < 9223372036854775808 from (by omega))) rfl rfl fun a43 h43 => wms 1 h43 rfl fun a44 h44 => wpList_nil <| x_again ⟨_, ?_, k + 1, ?_, ?_, h44.nrm ⟨rfl, rfl, rfl, trivial⟩ [0, 1] (by decide) ⟨rfl, rfl, trivial⟩, rfl⟩; clear h38 h42 h43
  · rw [hm19]; first | omega | (simp only [lens9]; omega)
  · omega
  · intro j hj; rcases Nat.lt_or_ge j k with h | h; exact hall j h; obtain rfl : j = k := (by omega); omega
 have hp25 : ¬ (k < x.l.length) := of_decide_eq_false hb25
 refine wp_exit <| hK16 _ _ <| wp_seq_k fun K45 hK45 => wp_region_lit <| wms 1 h24 rfl fun a46 h46 => wpList_nil <| hK45 _ _ <| wp_ret ?_; clear h24
 try simp only [Exit.then, Exit.inBlock]
 refine x_ret1 (fn := Try.f36) (t := 4) rfl h46 rfl <| ⟨?_, (h46.sh.sel [] (by decide) trivial)⟩
 congr 1
 first | (exact (decide_eq_true (ext_nth _ _ (by omega) fun i hi => hall i (by omega))).symm) | (refine (decide_eq_false fun e => ?_).symm; first | (rw [e] at *; omega) | (simp_all; done))

set_option maxRecDepth 100000 in
set_option maxHeartbeats 2000000 in
theorem kvast_c (code : Ls (Ls Ins)) (words : Ls Int) (locks regs : Int) (W : World) (hcode : code.At W) (hwords : words.At W) :
    Rets Try.prog 16 [.agg #[code.v, words.v, .int .i64 locks, .int .i64 regs]] W (fun v w' => v = .bool (vastG (code.l.map (·.l)) words.l) ∧ Sh0 W w' []) := by
 refine x_enter (N := 39) Try.func16 rfl Try.ntmps16 (Nat.le_of_ble_eq_true rfl) fun a1 hf1 => ?_
 have h1 : St 39 (fun _ => False) W a1 W [(0, .agg #[code.v, words.v, .int .i64 locks, .int .i64 regs])] [.at_ code, .at_ words] := ⟨hf1.sub ⟨rfl, trivial⟩, Sh0.ext2 hcode hwords⟩
 clear hf1
 refine wp_seq_k fun K2 hK2 => wp_region_lit <| wl_ex (x_box (cs := [code.v, words.v, .int .i64 locks, .int .i64 regs]) h1 rfl rfl rfl rfl rfl) (wanted_none rfl _) ?_
 rintro a3 w3 ⟨b3, h3⟩; clear h1
 refine wms 1 h3 rfl fun a4 h4 => wpList_nil <| hK2 _ _ <| wp_seq_k fun K5 hK5 => wp_region_lit <| wv h4 (r_fieldB (r := 0) fl_25_0 rfl rfl rfl) rfl rfl fun a6 h6 => wv h6 (r_ldb (i := 0) ti_22 rfl rfl rfl rfl) rfl rfl fun a7 h7 => ?_; clear h3 h4 h6
 have hl8 : code.l.length ≤ 140737488355328 := (h7.sh.at 1 rfl).len
 refine wv h7 (r_len (s := code) (n := code.l.length) sl_22 rfl rfl (fun w h => (h.at 1 rfl)) rfl) rfl rfl fun a9 h9 => wv h9 (r_fieldB (r := 1) fl_25_1 rfl rfl rfl) rfl rfl fun a10 h10 => wv h10 (r_ldb (i := 0) ti_23 rfl rfl rfl rfl) rfl rfl fun a11 h11 => ?_; clear h7 h9 h10
 have hl12 : words.l.length ≤ 140737488355328 := (h11.sh.at 2 rfl).len
 refine wv h11 (r_len (s := words) (n := words.l.length) sl_23 rfl rfl (fun w h => (h.at 2 rfl)) rfl) rfl rfl fun a13 h13 => wv h13 (r_addN (p := code.l.length) (q := words.l.length) rfl rfl rfl (show code.l.length + words.l.length < 9223372036854775808 from (by first | omega | (have := (hcode.inner t (by omega) : (nth code.l t).At W).len; omega)))) rfl rfl fun a14 h14 => wms 1 h14 rfl fun a15 h15 => wpList_nil <| hK5 _ _ <| wp_seq_k fun K16 hK16 => wp_seq_k fun K17 hK17 => wp_region_lit <| wms 1 h15 rfl fun a18 h18 => wpList_nil <| hK17 _ _ <| wp_block ?_; clear h11 h13 h14 h15
 have hwl := hwords.len
 have hcl := hcode.len
 refine x_loop (fun m a w => ∃ (n t : Nat), (t ≤ code.l.length ∧ t ≤ 100) ∧ ((n : Int) = code.l.length + words.l.length + (((code.l.map (·.l)).take t).map fun s => (s.length : Int)).sum) ∧ (n ≤ (t + 2) * 140737488355328) ∧ St 39 (fun _ => False) W a w [(1, .pointer (some ⟨b3, 0, none⟩)), (3, .int .i64 ((n : Nat) : Int)), (4, .int .i64 ((t : Nat) : Int))] [.blk b3 25 [code.v, words.v, .int .i64 locks, .int .i64 regs], .at_ code, .at_ words] ∧ m = code.l.length - t) ⟨_, code.l.length + words.l.length, 0, (by omega), (by simp), (by omega), h18.nrm ⟨rfl, rfl, rfl, trivial⟩ [0, 1, 2] (by decide) ⟨rfl, rfl, rfl, trivial⟩, rfl⟩ ?_
 clear h18
 rintro m19 a19 w19 ⟨n, t, ht, hn, hn2, h19, hm19⟩
 refine wp_seq_k fun K20 hK20 => wp_seq_k fun K21 hK21 => wp_region_lit <| wms 1 h19 rfl fun a22 h22 => wv h22 (r_fieldB (r := 0) fl_25_0 rfl rfl rfl) rfl rfl fun a23 h23 => wv h23 (r_ldb (i := 0) ti_22 rfl rfl rfl rfl) rfl rfl fun a24 h24 => wv h24 (r_len (s := code) (n := code.l.length) sl_22 rfl rfl (fun w h => (h.at 1 rfl)) rfl) rfl rfl fun a25 h25 => wv h25 (r_lssN (p := t) (q := code.l.length) rfl rfl rfl) rfl rfl fun a26 h26 => wms 1 h26 rfl fun a27 h27 => ?_; clear h19 h22 h23 h24 h25 h26
 rcases Bool.eq_false_or_eq_true (decide (t < code.l.length)) with hb28 | hb28
 ·have hp28 : t < code.l.length := of_decide_eq_true hb28
  refine wl_val h27 (r_move rfl rfl) (wanted_yes h27.fr rfl rfl rfl rfl hb28) rfl rfl fun a29 h29 => wl_val h29 (r_lssN (p := t) (q := 100) rfl rfl rfl) (wanted_yes h29.fr rfl rfl rfl rfl hb28) rfl rfl fun a30 h30 => wv h30 (r_pickT rfl rfl hb28 rfl) rfl rfl fun a31 h31 => wpList_nil <| hK21 _ _ <| x_cond h31 rfl (fun hb32 => ?_) (fun hb32 => ?_); clear h27 h29 h30
  ·have hp32 : t < 100 := of_decide_eq_true hb32
   refine wp_skip <| hK20 _ _ ?_
   have hlt := (hcode.inner t (by omega) : (nth code.l t).At W).len
   refine wp_seq_k fun K33 hK33 => wp_block <| wp_region_lit <| wms 1 h31 rfl fun a34 h34 => wv h34 (r_fieldB (r := 0) fl_25_0 rfl rfl rfl) rfl rfl fun a35 h35 => wv h35 (r_ldb (i := 0) ti_22 rfl rfl rfl rfl) rfl rfl fun a36 h36 => wms 1 h36 rfl fun a37 h37 => wv h37 (r_ixN (s := code) (q := t) sl_22 ti_33 rfl rfl rfl (fun w h => (h.at 1 rfl)) (show t < code.l.length from (by omega))) rfl rfl fun a38 h38 => wv h38 (r_lde (s := code) (i := t) (v := (nth code.l t).v) ti_33 rfl rfl rfl (fun w h => (h.at 1 rfl)) (show t < code.l.length from (by omega)) (Nat.le_of_ble_eq_true rfl) rfl) rfl rfl fun a39 h39 => ?_; clear h31 h34 h35 h36 h37 h38
   have hl40 : ((nth code.l t).l).length ≤ 140737488355328 := ((h39.sh.at 1 rfl).nth t (show t < code.l.length from (by omega))).len
   refine wv h39 (r_len (s := nth code.l t) (n := ((nth code.l t).l).length) sl_33 rfl rfl (fun w h => ((h.at 1 rfl).nth t (show t < code.l.length from (by omega)))) rfl) rfl rfl fun a41 h41 => wv h41 (r_addN (p := n) (q := ((nth code.l t).l).length) rfl rfl rfl (show n + (((nth code.l t).l).length) < 9223372036854775808 from (by first | omega | (have := (hcode.inner t (by omega) : (nth code.l t).At W).len; omega)))) rfl rfl fun a42 h42 => wms 1 h42 rfl fun a43 h43 => wpList_nil <| hK33 _ _ <| wp_region_lit <| wms 1 h43 rfl fun a44 h44 => wv h44 (r_addN (p := t) (q := 1) rfl rfl rfl (show t + 1 < 9223372036854775808 from (by first | omega | (have := (hcode.inner t (by omega) : (nth code.l t).At W).len; omega)))) rfl rfl fun a45 h45 => wms 1 h45 rfl fun a46 h46 => wpList_nil <| x_again ⟨_, ?_, n + (((nth code.l t).l).length), t + 1, ?_, ?_, ?_, h46.nrm ⟨rfl, rfl, rfl, trivial⟩ [0, 1, 2] (by decide) ⟨rfl, rfl, rfl, trivial⟩, rfl⟩; clear h39 h41 h42 h43 h44 h45
   · rw [hm19]; first | omega | (simp only [lens9]; omega)
   · omega
   · rw [take_succ_nth _ _ (by simp; omega), List.map_append, List.sum_append, nth_map' _ _ _ (by omega)]; simp only [List.map_cons, List.map_nil, List.sum_cons, List.sum_nil]; omega
   · omega
  have hp32 : ¬ (t < 100) := of_decide_eq_false hb32
  refine wp_exit <| hK16 _ _ <| wp_seq_k fun K47 hK47 => wp_region_lit <| wms 1 h31 rfl fun a48 h48 => wv h48 (r_gtrN (p := n) (q := 5000) rfl rfl rfl) rfl rfl fun a49 h49 => wms 1 h49 rfl fun a50 h50 => ?_; clear h31 h48 h49
  rcases Bool.eq_false_or_eq_true (decide (5000 < n)) with hb51 | hb51
  ·have hp51 : 5000 < n := of_decide_eq_true hb51
   refine wl_skip h50 (wanted_no h50.fr rfl rfl rfl rfl hb51) rfl rfl fun a52 h52 => wl_skip h52 (wanted_no h52.fr rfl rfl rfl rfl hb51) rfl rfl fun a53 h53 => wl_skip h53 (wanted_no h53.fr rfl rfl rfl rfl hb51) rfl rfl fun a54 h54 => wl_skip h54 (wanted_no h54.fr rfl rfl rfl rfl hb51) rfl rfl fun a55 h55 => wv h55 (r_pickT rfl rfl hb51 rfl) rfl rfl fun a56 h56 => wms 1 h56 rfl fun a57 h57 => wpList_nil <| hK47 _ _ <| wp_ret ?_; clear h50 h52 h53 h54 h55 h56
   try simp only [Exit.then, Exit.inBlock]
   refine x_ret1 (fn := Try.f16) (t := 2) rfl h57 rfl <| ⟨?_, (h57.sh.sel [] (by decide) trivial)⟩
   congr 1
   have hv : vastG (code.l.map (·.l)) words.l = (decide (5000 < n) || decide (100 < code.l.length)) := by unfold vastG; rw [take_hund (l := code.l.map (·.l)) (t := t) (by simp; omega) (by omega) (by simp; omega), List.length_map]; congr 1 <;> (rw [decide_eq_decide]; omega)
   rw [hv]
   first | (rw [show decide (5000 < n) = true by assumption]; rfl) | (rw [show decide (5000 < n) = false by assumption]; rfl)
  have hp51 : ¬ (5000 < n) := of_decide_eq_false hb51
  refine wl_val h50 (r_fieldB (r := 0) fl_25_0 rfl rfl rfl) (wanted_yes h50.fr rfl rfl rfl rfl hb51) rfl rfl fun a58 h58 => wl_val h58 (r_ldb (i := 0) ti_22 rfl rfl rfl rfl) (wanted_yes h58.fr rfl rfl rfl rfl hb51) rfl rfl fun a59 h59 => wl_val h59 (r_len (s := code) (n := code.l.length) sl_22 rfl rfl (fun w h => (h.at 1 rfl)) rfl) (wanted_yes h59.fr rfl rfl rfl rfl hb51) rfl rfl fun a60 h60 => wl_val h60 (r_gtrN (p := code.l.length) (q := 100) rfl rfl rfl) (wanted_yes h60.fr rfl rfl rfl rfl hb51) rfl rfl fun a61 h61 => wv h61 (r_pickF rfl rfl hb51 rfl) rfl rfl fun a62 h62 => wms 1 h62 rfl fun a63 h63 => wpList_nil <| hK47 _ _ <| wp_ret ?_; clear h50 h58 h59 h60 h61 h62
  try simp only [Exit.then, Exit.inBlock]
  refine x_ret1 (fn := Try.f16) (t := 2) rfl h63 rfl <| ⟨?_, (h63.sh.sel [] (by decide) trivial)⟩
  congr 1
  have hv : vastG (code.l.map (·.l)) words.l = (decide (5000 < n) || decide (100 < code.l.length)) := by unfold vastG; rw [take_hund (l := code.l.map (·.l)) (t := t) (by simp; omega) (by omega) (by simp; omega), List.length_map]; congr 1 <;> (rw [decide_eq_decide]; omega)
  rw [hv]
  first | (rw [show decide (5000 < n) = true by assumption]; rfl) | (rw [show decide (5000 < n) = false by assumption]; rfl)
 have hp28 : ¬ (t < code.l.length) := of_decide_eq_false hb28
 refine wl_skip h27 (wanted_no h27.fr rfl rfl rfl rfl hb28) rfl rfl fun a64 h64 => wl_skip h64 (wanted_no h64.fr rfl rfl rfl rfl hb28) rfl rfl fun a65 h65 => wv h65 (r_pickF rfl rfl hb28 rfl) rfl rfl fun a66 h66 => wpList_nil <| hK21 _ _ <| x_condF h66 rfl rfl <| wp_exit <| hK16 _ _ <| wp_seq_k fun K67 hK67 => wp_region_lit <| wms 1 h66 rfl fun a68 h68 => wv h68 (r_gtrN (p := n) (q := 5000) rfl rfl rfl) rfl rfl fun a69 h69 => wms 1 h69 rfl fun a70 h70 => ?_; clear h27 h64 h65 h66 h68 h69
 rcases Bool.eq_false_or_eq_true (decide (5000 < n)) with hb71 | hb71
 ·have hp71 : 5000 < n := of_decide_eq_true hb71
  refine wl_skip h70 (wanted_no h70.fr rfl rfl rfl rfl hb71) rfl rfl fun a72 h72 => wl_skip h72 (wanted_no h72.fr rfl rfl rfl rfl hb71) rfl rfl fun a73 h73 => wl_skip h73 (wanted_no h73.fr rfl rfl rfl rfl hb71) rfl rfl fun a74 h74 => wl_skip h74 (wanted_no h74.fr rfl rfl rfl rfl hb71) rfl rfl fun a75 h75 => wv h75 (r_pickT rfl rfl hb71 rfl) rfl rfl fun a76 h76 => wms 1 h76 rfl fun a77 h77 => wpList_nil <| hK67 _ _ <| wp_ret ?_; clear h70 h72 h73 h74 h75 h76
  try simp only [Exit.then, Exit.inBlock]
  refine x_ret1 (fn := Try.f16) (t := 2) rfl h77 rfl <| ⟨?_, (h77.sh.sel [] (by decide) trivial)⟩
  congr 1
  have hv : vastG (code.l.map (·.l)) words.l = (decide (5000 < n) || decide (100 < code.l.length)) := by unfold vastG; rw [take_hund (l := code.l.map (·.l)) (t := t) (by simp; omega) (by omega) (by simp; omega), List.length_map]; congr 1 <;> (rw [decide_eq_decide]; omega)
  rw [hv]
  first | (rw [show decide (5000 < n) = true by assumption]; rfl) | (rw [show decide (5000 < n) = false by assumption]; rfl)
 have hp71 : ¬ (5000 < n) := of_decide_eq_false hb71
 refine wl_val h70 (r_fieldB (r := 0) fl_25_0 rfl rfl rfl) (wanted_yes h70.fr rfl rfl rfl rfl hb71) rfl rfl fun a78 h78 => wl_val h78 (r_ldb (i := 0) ti_22 rfl rfl rfl rfl) (wanted_yes h78.fr rfl rfl rfl rfl hb71) rfl rfl fun a79 h79 => wl_val h79 (r_len (s := code) (n := code.l.length) sl_22 rfl rfl (fun w h => (h.at 1 rfl)) rfl) (wanted_yes h79.fr rfl rfl rfl rfl hb71) rfl rfl fun a80 h80 => wl_val h80 (r_gtrN (p := code.l.length) (q := 100) rfl rfl rfl) (wanted_yes h80.fr rfl rfl rfl rfl hb71) rfl rfl fun a81 h81 => wv h81 (r_pickF rfl rfl hb71 rfl) rfl rfl fun a82 h82 => wms 1 h82 rfl fun a83 h83 => wpList_nil <| hK67 _ _ <| wp_ret ?_; clear h70 h78 h79 h80 h81 h82
 try simp only [Exit.then, Exit.inBlock]
 refine x_ret1 (fn := Try.f16) (t := 2) rfl h83 rfl <| ⟨?_, (h83.sh.sel [] (by decide) trivial)⟩
 congr 1
 have hv : vastG (code.l.map (·.l)) words.l = (decide (5000 < n) || decide (100 < code.l.length)) := by unfold vastG; rw [take_hund (l := code.l.map (·.l)) (t := t) (by simp; omega) (by omega) (by simp; omega), List.length_map]; congr 1 <;> (rw [decide_eq_decide]; omega)
 rw [hv]
 first | (rw [show decide (5000 < n) = true by assumption]; rfl) | (rw [show decide (5000 < n) = false by assumption]; rfl)

set_option maxRecDepth 100000 in
set_option maxHeartbeats 8000000 in
theorem tsoAlone_v (code : Ls (Ls Ins)) (words script : Ls Int) (locks regs : Int) (W : World) (hcode : code.At W) (hwords : words.At W) (hscript : script.At W) (hv : vastG (code.l.map (·.l)) words.l = true) :
    Rets Try.prog 12 [.agg #[code.v, words.v, .int .i64 locks, .int .i64 regs], script.v] W (fun v w' => v = .bool true ∧ Sh0 W w' []) := by
 refine x_enter (N := 94) Try.func12 rfl Try.ntmps12 (Nat.le_of_ble_eq_true rfl) fun a1 hf1 => ?_
 have h1 : St 94 (fun _ => False) W a1 W [(0, .agg #[code.v, words.v, .int .i64 locks, .int .i64 regs]), (1, script.v)] [.at_ code, .at_ words, .at_ script] := ⟨hf1.sub ⟨rfl, rfl, trivial⟩, Sh0.ext3 hcode hwords hscript⟩
 clear hf1
 refine wp_seq_k fun K2 hK2 => wp_region_lit <| wl_ex (x_box (cs := [code.v, words.v, .int .i64 locks, .int .i64 regs]) h1 rfl rfl rfl rfl rfl) (wanted_none rfl _) ?_
 rintro a3 w3 ⟨b3, h3⟩; clear h1
 refine wms 1 h3 rfl fun a4 h4 => wpList_nil <| hK2 _ _ <| wp_seq_k fun K5 hK5 => wp_region_lit <| wl_ex (x_call h4 bd_35 rfl rfl rfl rfl rfl (buffers_c _)) (wanted_none rfl _) ?_; clear h3
 rintro a6 w6 ⟨_, ⟨c6, u6, rfl, hbc6, hbu6, hs6⟩, hf6⟩
 have h6 := (⟨hf6, h4.sh.call hs6 (by intro A hA b hb; simp only [List.mem_cons, List.not_mem_nil, or_false] at hA; first | (subst hA; exact Flat.noRd hb) | (rcases hA with rfl | rfl <;> first | exact (hb : False).elim | exact Flat.noRd hb | exact .inl (hb : _)))⟩ : St 94 (fun _ => False) W a6 w6 _ _)
 clear hf6 hs6
 clear h4
 refine wl_ex (x_lit (n := 8) (cs := [.int .i64 0, .int .i64 0, .int .i64 1, .int .i64 0, .int .i64 1, .int .i64 1, .int .i64 1, .int .i64 1]) ([0, 0, 1, 0, 1, 1, 1, 1] : List Int) h6 sl_23 ti_3 rfl rfl rfl (by decide) rfl (by kernel_rfl) rfl (fun q hq w h => Flat.inner _ _) (fun q hq b hb => (Flat.on _ _ hb).elim) rfl rfl) (wanted_none rfl _) ?_
 rintro a7 w7 ⟨v7, h7⟩; clear h6
 refine wl_ex (x_call h7 bd_37 rfl rfl rfl rfl rfl (tsoRun_k c6 u6 (⟨v7, [0, 0, 1, 0, 1, 1, 1, 1]⟩ : Ls Int) 0 2 _ (h7.sh.deep 1 rfl) (h7.sh.own 2 rfl) (h7.sh.own 0 rfl) (buf_ok hbc6 hbu6))) (wanted_none rfl _) ?_
 rintro a8 w8 ⟨_, ⟨pr8, wd8, st8, sn8, rfl, hrun8, hs8⟩, hf8⟩
 have h8 := (⟨hf8, h7.sh.call hs8 (by intro A hA b hb; simp only [List.mem_cons, List.not_mem_nil, or_false] at hA; first | (subst hA; exact Flat.noRd hb) | (rcases hA with rfl | rfl <;> first | exact (hb : False).elim | exact Flat.noRd hb | exact .inl (hb : _)))⟩ : St 94 (fun _ => False) W a8 w8 _ _)
 clear hf8 hs8
 clear h7
 refine wms 1 h8 rfl fun a9 h9 => wv h9 (r_extract rfl rfl rfl) rfl rfl fun a10 h10 => wv h10 (r_extract rfl rfl rfl) rfl rfl fun a11 h11 => wl_ex (x_alloc h11 ti_49 rfl rfl rfl) (wanted_none rfl _) ?_; clear h8 h9 h10
 rintro a12 w12 ⟨b12, h12⟩; clear h11
 refine wl_ex (x_alloc h12 ti_28 rfl rfl rfl) (wanted_none rfl _) ?_
 rintro a13 w13 ⟨b13, h13⟩; clear h12
 refine wl_ex (x_stb (i := 1) (vs := [pr8.v, .int .i64 st8, wd8.v, .int .i64 ((sn8 : Nat) : Int)]) (cs' := [pr8.v, .int .i64 st8, wd8.v, .int .i64 ((sn8 : Nat) : Int)]) h13 ti_49 rfl rfl rfl rfl rfl rfl rfl (allOne_cons ((h13.sh.own 2 rfl)).one (allOne_cons rfl (allOne_cons ((h13.sh.own 3 rfl)).one (allOne_cons rfl allOne_nil)))) (Nat.le_of_ble_eq_true rfl) rfl) (wanted_none rfl _) ?_
 rintro a14 w14 h14
 clear h13
 refine wl_ex (x_stb (i := 0) (vs := [.int .i64 0, .int .i64 0, .int .i64 0]) (cs' := [.int .i64 0, .int .i64 0, .int .i64 0]) h14 ti_28 rfl rfl rfl rfl rfl rfl rfl (allOne_cons rfl (allOne_cons rfl (allOne_cons rfl allOne_nil))) (Nat.le_of_ble_eq_true rfl) rfl) (wanted_none rfl _) ?_
 rintro a15 w15 h15
 clear h14
 refine wpList_nil <| hK5 _ _ ?_
 rw [buf_eq hbc6 hbu6] at hrun8
 have hb0 := buf_run1.symm.trans hrun8
 simp only [TrM.mk.injEq] at hb0
 obtain ⟨hb1, hb2, hb3, hb4⟩ := hb0
 refine wp_seq_k fun K16 hK16 => wp_seq_k fun K17 hK17 => wp_region_lit <| wv h15 (r_fieldB (r := 0) fl_28_0 rfl rfl rfl) rfl rfl fun a18 h18 => wv h18 (r_ldb (i := 0) ti_26 rfl rfl rfl rfl) rfl rfl fun a19 h19 => wv h19 (r_neqN (p := 0) (q := 0) rfl rfl rfl) rfl rfl fun a20 h20 => wms 1 h20 rfl fun a21 h21 => wl_val h21 (r_fieldB (r := 1) fl_49_1 rfl rfl rfl) (wanted_yes h21.fr rfl rfl rfl rfl (by decide)) rfl rfl fun a22 h22 => wl_val h22 (r_ldb (i := 1) ti_3 rfl rfl rfl rfl) (wanted_yes h22.fr rfl rfl rfl rfl (by decide)) rfl rfl fun a23 h23 => wl_val h23 (r_neqI (p := st8) (q := 0) rfl rfl rfl) (wanted_yes h23.fr rfl rfl rfl rfl (by decide)) rfl rfl fun a24 h24 => wv h24 (r_pickF rfl rfl (by decide) rfl) rfl rfl fun a25 h25 => wms 1 h25 rfl fun a26 h26 => wl_val h26 (r_fieldB (r := 0) fl_49_0 rfl rfl rfl) (wanted_yes h26.fr rfl rfl rfl rfl (decide_eq_false (by omega))) rfl rfl fun a27 h27 => wl_val h27 (r_ldb (i := 1) ti_23 rfl rfl rfl rfl) (wanted_yes h27.fr rfl rfl rfl rfl (decide_eq_false (by omega))) rfl rfl fun a28 h28 => ?_; clear h15 h18 h19 h20 h21 h22 h23 h24 h25 h26 h27
 have hl29 : pr8.l.length ≤ 140737488355328 := (h28.sh.own 2 rfl).len
 refine wl_val h28 (r_len (s := pr8) (n := pr8.l.length) sl_23 rfl rfl (fun w h => (h.own 2 rfl)) rfl) (wanted_yes h28.fr rfl rfl rfl rfl (decide_eq_false (by omega))) rfl rfl fun a30 h30 => wl_val h30 (r_neqN (p := pr8.l.length) (q := 4) rfl rfl rfl) (wanted_yes h30.fr rfl rfl rfl rfl (decide_eq_false (by omega))) rfl rfl fun a31 h31 => wv h31 (r_pickF rfl rfl (decide_eq_false (by omega)) rfl) rfl rfl fun a32 h32 => wpList_nil <| hK17 _ _ <| x_condF h32 rfl (decide_eq_false (by rw [← hb4]; decide)) ?_; clear h28 h30 h31
 refine wp_skip <| hK16 _ _ <| wp_seq_k fun K33 hK33 => wp_seq_k fun K34 hK34 => wp_region_lit <| wv h32 (r_ldbw (i := 7) (vs := [code.v, words.v, .int .i64 locks, .int .i64 regs]) ti_25 rfl rfl rfl rfl rfl) rfl rfl fun a35 h35 => wl_ex (x_call h35 bd_16 rfl rfl rfl rfl rfl (kvast_c code words locks regs _ (h35.sh.at 8 rfl) (h35.sh.at 9 rfl))) (wanted_none rfl _) ?_; clear h32
 rintro a36 w36 ⟨_, ⟨rfl, hs36⟩, hf36⟩
 have h36 : St 94 (fun _ => False) W a36 w36 _ _ := ⟨hf36, h35.sh.call0 hs36⟩
 clear hf36 hs36
 clear h35
 refine wms 1 h36 rfl fun a37 h37 => wl_skip h37 (wanted_no h37.fr rfl rfl rfl rfl hv) rfl rfl fun a38 h38 => wl_skip h38 (wanted_no h38.fr rfl rfl rfl rfl hv) rfl rfl fun a39 h39 => wl_skip h39 (wanted_no h39.fr rfl rfl rfl rfl hv) rfl rfl fun a40 h40 => wl_skip h40 (wanted_no h40.fr rfl rfl rfl rfl hv) rfl rfl fun a41 h41 => wv h41 (r_pickT rfl rfl hv rfl) rfl rfl fun a42 h42 => wpList_nil <| hK34 _ _ ?_; clear h36 h37 h38 h39 h40 h41
 have h43 : St 94 (fun _ => False) W a42 w36 [(1, script.v), (2, .pointer (some ⟨b3, 0, none⟩)), (5, .pointer (some ⟨b12, 0, none⟩)), (6, .pointer (some ⟨b13, 0, none⟩)), (38, .bool true)] [.blk b13 28 [.int .i64 0, .int .i64 0, .int .i64 0], .blk b12 49 [pr8.v, .int .i64 st8, wd8.v, .int .i64 ((sn8 : Nat) : Int)], .own 3 pr8, .own 3 wd8, .own 3 (⟨v7, [0, 0, 1, 0, 1, 1, 1, 1]⟩ : Ls Int), .deep 33 c6, .own 3 u6, .blk b3 25 [code.v, words.v, .int .i64 locks, .int .i64 regs], .at_ code, .at_ words, .at_ script] := h42.nrm ⟨rfl, rfl, rfl, rfl, rfl, trivial⟩ [0, 1, 2, 3, 4, 5, 6, 7, 8, 9, 10] (by decide) ⟨rfl, rfl, rfl, rfl, rfl, rfl, rfl, rfl, rfl, rfl, rfl, trivial⟩
 clear h42
 refine x_condT h43 rfl rfl <| wp_seq_k fun K44 hK44 => wp_region_lit <| wms 1 h43 rfl fun a45 h45 => wpList_nil <| hK44 _ _ <| wp_ret ?_; clear h43
 try simp only [Exit.then, Exit.inBlock]
 refine x_ret1 (fn := Try.f12) (t := 4) rfl h45 rfl <| ⟨?_, (h45.sh.sel [] (by decide) trivial)⟩
 first | rfl | (congr 1; exact decide_eq_true (hal.2.2.resolve_left (by assumption))) | (congr 1; assumption) | (congr 1; exact decide_eq_true (hal.2.2.resolve_left (of_decide_eq_false (by assumption))))

set_option maxRecDepth 100000 in
set_option maxHeartbeats 8000000 in
theorem tsoAlone_b (code : Ls (Ls Ins)) (words script : Ls Int) (locks regs : Int) (W : World) (hcode : code.At W) (hwords : words.At W) (hscript : script.At W) (hv : vastG (code.l.map (·.l)) words.l = false) (hz : (checkG (pgOf code words locks regs)).code ≠ 0) :
    Rets Try.prog 12 [.agg #[code.v, words.v, .int .i64 locks, .int .i64 regs], script.v] W (fun v w' => v = .bool true ∧ Sh0 W w' []) := by
 refine x_enter (N := 94) Try.func12 rfl Try.ntmps12 (Nat.le_of_ble_eq_true rfl) fun a1 hf1 => ?_
 have h1 : St 94 (fun _ => False) W a1 W [(0, .agg #[code.v, words.v, .int .i64 locks, .int .i64 regs]), (1, script.v)] [.at_ code, .at_ words, .at_ script] := ⟨hf1.sub ⟨rfl, rfl, trivial⟩, Sh0.ext3 hcode hwords hscript⟩
 clear hf1
 refine wp_seq_k fun K2 hK2 => wp_region_lit <| wl_ex (x_box (cs := [code.v, words.v, .int .i64 locks, .int .i64 regs]) h1 rfl rfl rfl rfl rfl) (wanted_none rfl _) ?_
 rintro a3 w3 ⟨b3, h3⟩; clear h1
 refine wms 1 h3 rfl fun a4 h4 => wpList_nil <| hK2 _ _ <| wp_seq_k fun K5 hK5 => wp_region_lit <| wl_ex (x_call h4 bd_35 rfl rfl rfl rfl rfl (buffers_c _)) (wanted_none rfl _) ?_; clear h3
 rintro a6 w6 ⟨_, ⟨c6, u6, rfl, hbc6, hbu6, hs6⟩, hf6⟩
 have h6 := (⟨hf6, h4.sh.call hs6 (by intro A hA b hb; simp only [List.mem_cons, List.not_mem_nil, or_false] at hA; first | (subst hA; exact Flat.noRd hb) | (rcases hA with rfl | rfl <;> first | exact (hb : False).elim | exact Flat.noRd hb | exact .inl (hb : _)))⟩ : St 94 (fun _ => False) W a6 w6 _ _)
 clear hf6 hs6
 clear h4
 refine wl_ex (x_lit (n := 8) (cs := [.int .i64 0, .int .i64 0, .int .i64 1, .int .i64 0, .int .i64 1, .int .i64 1, .int .i64 1, .int .i64 1]) ([0, 0, 1, 0, 1, 1, 1, 1] : List Int) h6 sl_23 ti_3 rfl rfl rfl (by decide) rfl (by kernel_rfl) rfl (fun q hq w h => Flat.inner _ _) (fun q hq b hb => (Flat.on _ _ hb).elim) rfl rfl) (wanted_none rfl _) ?_
 rintro a7 w7 ⟨v7, h7⟩; clear h6
 refine wl_ex (x_call h7 bd_37 rfl rfl rfl rfl rfl (tsoRun_k c6 u6 (⟨v7, [0, 0, 1, 0, 1, 1, 1, 1]⟩ : Ls Int) 0 2 _ (h7.sh.deep 1 rfl) (h7.sh.own 2 rfl) (h7.sh.own 0 rfl) (buf_ok hbc6 hbu6))) (wanted_none rfl _) ?_
 rintro a8 w8 ⟨_, ⟨pr8, wd8, st8, sn8, rfl, hrun8, hs8⟩, hf8⟩
 have h8 := (⟨hf8, h7.sh.call hs8 (by intro A hA b hb; simp only [List.mem_cons, List.not_mem_nil, or_false] at hA; first | (subst hA; exact Flat.noRd hb) | (rcases hA with rfl | rfl <;> first | exact (hb : False).elim | exact Flat.noRd hb | exact .inl (hb : _)))⟩ : St 94 (fun _ => False) W a8 w8 _ _)
 clear hf8 hs8
 clear h7
 refine wms 1 h8 rfl fun a9 h9 => wv h9 (r_extract rfl rfl rfl) rfl rfl fun a10 h10 => wv h10 (r_extract rfl rfl rfl) rfl rfl fun a11 h11 => wl_ex (x_alloc h11 ti_49 rfl rfl rfl) (wanted_none rfl _) ?_; clear h8 h9 h10
 rintro a12 w12 ⟨b12, h12⟩; clear h11
 refine wl_ex (x_alloc h12 ti_28 rfl rfl rfl) (wanted_none rfl _) ?_
 rintro a13 w13 ⟨b13, h13⟩; clear h12
 refine wl_ex (x_stb (i := 1) (vs := [pr8.v, .int .i64 st8, wd8.v, .int .i64 ((sn8 : Nat) : Int)]) (cs' := [pr8.v, .int .i64 st8, wd8.v, .int .i64 ((sn8 : Nat) : Int)]) h13 ti_49 rfl rfl rfl rfl rfl rfl rfl (allOne_cons ((h13.sh.own 2 rfl)).one (allOne_cons rfl (allOne_cons ((h13.sh.own 3 rfl)).one (allOne_cons rfl allOne_nil)))) (Nat.le_of_ble_eq_true rfl) rfl) (wanted_none rfl _) ?_
 rintro a14 w14 h14
 clear h13
 refine wl_ex (x_stb (i := 0) (vs := [.int .i64 0, .int .i64 0, .int .i64 0]) (cs' := [.int .i64 0, .int .i64 0, .int .i64 0]) h14 ti_28 rfl rfl rfl rfl rfl rfl rfl (allOne_cons rfl (allOne_cons rfl (allOne_cons rfl allOne_nil))) (Nat.le_of_ble_eq_true rfl) rfl) (wanted_none rfl _) ?_
 rintro a15 w15 h15
 clear h14
 refine wpList_nil <| hK5 _ _ ?_
 rw [buf_eq hbc6 hbu6] at hrun8
 have hb0 := buf_run1.symm.trans hrun8
 simp only [TrM.mk.injEq] at hb0
 obtain ⟨hb1, hb2, hb3, hb4⟩ := hb0
 refine wp_seq_k fun K16 hK16 => wp_seq_k fun K17 hK17 => wp_region_lit <| wv h15 (r_fieldB (r := 0) fl_28_0 rfl rfl rfl) rfl rfl fun a18 h18 => wv h18 (r_ldb (i := 0) ti_26 rfl rfl rfl rfl) rfl rfl fun a19 h19 => wv h19 (r_neqN (p := 0) (q := 0) rfl rfl rfl) rfl rfl fun a20 h20 => wms 1 h20 rfl fun a21 h21 => wl_val h21 (r_fieldB (r := 1) fl_49_1 rfl rfl rfl) (wanted_yes h21.fr rfl rfl rfl rfl (by decide)) rfl rfl fun a22 h22 => wl_val h22 (r_ldb (i := 1) ti_3 rfl rfl rfl rfl) (wanted_yes h22.fr rfl rfl rfl rfl (by decide)) rfl rfl fun a23 h23 => wl_val h23 (r_neqI (p := st8) (q := 0) rfl rfl rfl) (wanted_yes h23.fr rfl rfl rfl rfl (by decide)) rfl rfl fun a24 h24 => wv h24 (r_pickF rfl rfl (by decide) rfl) rfl rfl fun a25 h25 => wms 1 h25 rfl fun a26 h26 => wl_val h26 (r_fieldB (r := 0) fl_49_0 rfl rfl rfl) (wanted_yes h26.fr rfl rfl rfl rfl (decide_eq_false (by omega))) rfl rfl fun a27 h27 => wl_val h27 (r_ldb (i := 1) ti_23 rfl rfl rfl rfl) (wanted_yes h27.fr rfl rfl rfl rfl (decide_eq_false (by omega))) rfl rfl fun a28 h28 => ?_; clear h15 h18 h19 h20 h21 h22 h23 h24 h25 h26 h27
 have hl29 : pr8.l.length ≤ 140737488355328 := (h28.sh.own 2 rfl).len
 refine wl_val h28 (r_len (s := pr8) (n := pr8.l.length) sl_23 rfl rfl (fun w h => (h.own 2 rfl)) rfl) (wanted_yes h28.fr rfl rfl rfl rfl (decide_eq_false (by omega))) rfl rfl fun a30 h30 => wl_val h30 (r_neqN (p := pr8.l.length) (q := 4) rfl rfl rfl) (wanted_yes h30.fr rfl rfl rfl rfl (decide_eq_false (by omega))) rfl rfl fun a31 h31 => wv h31 (r_pickF rfl rfl (decide_eq_false (by omega)) rfl) rfl rfl fun a32 h32 => wpList_nil <| hK17 _ _ <| x_condF h32 rfl (decide_eq_false (by rw [← hb4]; decide)) ?_; clear h28 h30 h31
 refine wp_skip <| hK16 _ _ <| wp_seq_k fun K33 hK33 => wp_seq_k fun K34 hK34 => wp_region_lit <| wv h32 (r_ldbw (i := 7) (vs := [code.v, words.v, .int .i64 locks, .int .i64 regs]) ti_25 rfl rfl rfl rfl rfl) rfl rfl fun a35 h35 => wl_ex (x_call h35 bd_16 rfl rfl rfl rfl rfl (kvast_c code words locks regs _ (h35.sh.at 8 rfl) (h35.sh.at 9 rfl))) (wanted_none rfl _) ?_; clear h32
 rintro a36 w36 ⟨_, ⟨rfl, hs36⟩, hf36⟩
 have h36 : St 94 (fun _ => False) W a36 w36 _ _ := ⟨hf36, h35.sh.call0 hs36⟩
 clear hf36 hs36
 clear h35
 refine wms 1 h36 rfl fun a37 h37 => wl_val h37 (r_fieldB (r := 0) fl_25_0 rfl rfl rfl) (wanted_yes h37.fr rfl rfl rfl rfl hv) rfl rfl fun a38 h38 => wl_val h38 (r_ldb (i := 7) ti_22 rfl rfl rfl rfl) (wanted_yes h38.fr rfl rfl rfl rfl hv) rfl rfl fun a39 h39 => ?_; clear h36 h37 h38
 have hl40 : code.l.length ≤ 140737488355328 := (h39.sh.at 8 rfl).len
 refine wl_val h39 (r_len (s := code) (n := code.l.length) sl_22 rfl rfl (fun w h => (h.at 8 rfl)) rfl) (wanted_yes h39.fr rfl rfl rfl rfl hv) rfl rfl fun a41 h41 => wl_val h41 (r_neqN (p := code.l.length) (q := 1) rfl rfl rfl) (wanted_yes h41.fr rfl rfl rfl rfl hv) rfl rfl fun a42 h42 => wv h42 (r_pickF rfl rfl hv rfl) rfl rfl fun a43 h43 => wpList_nil <| hK34 _ _ ?_; clear h39 h41 h42
 have h44 : St 94 (fun _ => False) W a43 w36 [(1, script.v), (2, .pointer (some ⟨b3, 0, none⟩)), (5, .pointer (some ⟨b12, 0, none⟩)), (6, .pointer (some ⟨b13, 0, none⟩)), (38, .bool (decide (code.l.length ≠ 1)))] [.blk b13 28 [.int .i64 0, .int .i64 0, .int .i64 0], .blk b12 49 [pr8.v, .int .i64 st8, wd8.v, .int .i64 ((sn8 : Nat) : Int)], .own 3 pr8, .own 3 wd8, .own 3 (⟨v7, [0, 0, 1, 0, 1, 1, 1, 1]⟩ : Ls Int), .deep 33 c6, .own 3 u6, .blk b3 25 [code.v, words.v, .int .i64 locks, .int .i64 regs], .at_ code, .at_ words, .at_ script] := h43.nrm ⟨rfl, rfl, rfl, rfl, rfl, trivial⟩ [0, 1, 2, 3, 4, 5, 6, 7, 8, 9, 10] (by decide) ⟨rfl, rfl, rfl, rfl, rfl, rfl, rfl, rfl, rfl, rfl, rfl, trivial⟩
 clear h43
 refine x_cond h44 rfl (fun hb45 => ?_) (fun hb45 => ?_)
 ·have hp45 : code.l.length ≠ 1 := of_decide_eq_true hb45
  refine wp_seq_k fun K46 hK46 => wp_region_lit <| wms 1 h44 rfl fun a47 h47 => wpList_nil <| hK46 _ _ <| wp_ret ?_; clear h44
  try simp only [Exit.then, Exit.inBlock]
  refine x_ret1 (fn := Try.f12) (t := 4) rfl h47 rfl <| ⟨?_, (h47.sh.sel [] (by decide) trivial)⟩
  first | rfl | (congr 1; exact decide_eq_true (hal.2.2.resolve_left (by assumption))) | (congr 1; assumption) | (congr 1; exact decide_eq_true (hal.2.2.resolve_left (of_decide_eq_false (by assumption))))
 have hp45 : ¬ (code.l.length ≠ 1) := of_decide_eq_false hb45
 refine wp_skip <| hK33 _ _ <| wp_seq_k fun K48 hK48 => wp_region_lit <| wv h44 (r_ldbw (i := 7) (vs := [code.v, words.v, .int .i64 locks, .int .i64 regs]) ti_25 rfl rfl rfl rfl rfl) rfl rfl fun a49 h49 => wms 1 h49 rfl fun a50 h50 => wl_ex (x_call h50 bd_37 rfl rfl rfl rfl rfl (tsoRun_b code words script locks regs _ (h50.sh.at 8 rfl) (h50.sh.at 9 rfl) (h50.sh.at 10 rfl) hz)) (wanted_none rfl _) ?_; clear h44 h49
 rintro a51 w51 ⟨_, ⟨rfl, hs51⟩, hf51⟩
 have h51 : St 94 (fun _ => False) W a51 w51 _ _ := ⟨hf51, h50.sh.call0 hs51⟩
 clear hf51 hs51
 clear h50
 refine wms 1 h51 rfl fun a52 h52 => wv h52 (r_extract rfl rfl rfl) rfl rfl fun a53 h53 => wv h53 (r_extract rfl rfl rfl) rfl rfl fun a54 h54 => wl_ex (x_stb (i := 1) (vs := [(.slice none 0 0), .int .i64 0, (.slice none 0 0), .int .i64 0]) (cs' := [(.slice none 0 0), .int .i64 0, (.slice none 0 0), .int .i64 0]) h54 ti_49 rfl rfl rfl rfl rfl rfl rfl (allOne_cons ((Sh.nilAt (α := Int) h54.sh)).one (allOne_cons rfl (allOne_cons ((Sh.nilAt (α := Int) h54.sh)).one (allOne_cons rfl allOne_nil)))) (Nat.le_of_ble_eq_true rfl) rfl) (wanted_none rfl _) ?_; clear h51 h52 h53
 rintro a55 w55 h55
 clear h54
 refine wl_ex (x_stb (i := 0) (vs := [.int .i64 ((checkG (pgOf code words locks regs)).code), .int .i64 ((checkG (pgOf code words locks regs)).thread), .int .i64 ((checkG (pgOf code words locks regs)).at_)]) (cs' := [.int .i64 ((checkG (pgOf code words locks regs)).code), .int .i64 ((checkG (pgOf code words locks regs)).thread), .int .i64 ((checkG (pgOf code words locks regs)).at_)]) h55 ti_28 rfl rfl rfl rfl rfl rfl rfl (allOne_cons rfl (allOne_cons rfl (allOne_cons rfl allOne_nil))) (Nat.le_of_ble_eq_true rfl) rfl) (wanted_none rfl _) ?_
 rintro a56 w56 h56
 clear h55
 refine wpList_nil <| hK48 _ _ <| wp_seq_k fun K57 hK57 => wp_region_lit <| wv h56 (r_ldbw (i := 7) (vs := [code.v, words.v, .int .i64 locks, .int .i64 regs]) ti_25 rfl rfl rfl rfl rfl) rfl rfl fun a58 h58 => wl_ex (x_call h58 bd_31 rfl rfl rfl rfl rfl (scRun_b code words (⟨.slice none 0 0, []⟩ : Ls Int) locks regs _ (h58.sh.at 8 rfl) (h58.sh.at 9 rfl) (Sh.nilAt (α := Int) h58.sh) hz)) (wanted_none rfl _) ?_; clear h56
 rintro a59 w59 ⟨_, ⟨rfl, hs59⟩, hf59⟩
 have h59 : St 94 (fun _ => False) W a59 w59 _ _ := ⟨hf59, h58.sh.call0 hs59⟩
 clear hf59 hs59
 clear h58
 refine wms 1 h59 rfl fun a60 h60 => wv h60 (r_extract rfl rfl rfl) rfl rfl fun a61 h61 => wv h61 (r_extract rfl rfl rfl) rfl rfl fun a62 h62 => wl_ex (x_alloc h62 ti_49 rfl rfl rfl) (wanted_none rfl _) ?_; clear h59 h60 h61
 rintro a63 w63 ⟨b63, h63⟩; clear h62
 refine wl_ex (x_alloc h63 ti_28 rfl rfl rfl) (wanted_none rfl _) ?_
 rintro a64 w64 ⟨b64, h64⟩; clear h63
 refine wl_ex (x_stb (i := 1) (vs := [(.slice none 0 0), .int .i64 0, (.slice none 0 0), .int .i64 0]) (cs' := [(.slice none 0 0), .int .i64 0, (.slice none 0 0), .int .i64 0]) h64 ti_49 rfl rfl rfl rfl rfl rfl rfl (allOne_cons ((Sh.nilAt (α := Int) h64.sh)).one (allOne_cons rfl (allOne_cons ((Sh.nilAt (α := Int) h64.sh)).one (allOne_cons rfl allOne_nil)))) (Nat.le_of_ble_eq_true rfl) rfl) (wanted_none rfl _) ?_
 rintro a65 w65 h65
 clear h64
 refine wl_ex (x_stb (i := 0) (vs := [.int .i64 ((checkG (pgOf code words locks regs)).code), .int .i64 ((checkG (pgOf code words locks regs)).thread), .int .i64 ((checkG (pgOf code words locks regs)).at_)]) (cs' := [.int .i64 ((checkG (pgOf code words locks regs)).code), .int .i64 ((checkG (pgOf code words locks regs)).thread), .int .i64 ((checkG (pgOf code words locks regs)).at_)]) h65 ti_28 rfl rfl rfl rfl rfl rfl rfl (allOne_cons rfl (allOne_cons rfl (allOne_cons rfl allOne_nil))) (Nat.le_of_ble_eq_true rfl) rfl) (wanted_none rfl _) ?_
 rintro a66 w66 h66
 clear h65
 refine wpList_nil <| hK57 _ _ <| wp_seq_k fun K67 hK67 => wp_seq_k fun K68 hK68 => wp_region_lit <| wv h66 (r_fieldB (r := 0) fl_28_0 rfl rfl rfl) rfl rfl fun a69 h69 => wv h69 (r_ldb (i := 2) ti_26 rfl rfl rfl rfl) rfl rfl fun a70 h70 => wv h70 (r_fieldB (r := 0) fl_28_0 rfl rfl rfl) rfl rfl fun a71 h71 => wv h71 (r_ldb (i := 0) ti_26 rfl rfl rfl rfl) rfl rfl fun a72 h72 => wv h72 (r_neqI (p := (checkG (pgOf code words locks regs)).code) (q := (checkG (pgOf code words locks regs)).code) rfl rfl rfl) rfl rfl fun a73 h73 => wpList_nil <| hK68 _ _ <| x_condF h73 rfl (decide_eq_false (fun h => h rfl)) <| wp_skip ?_; clear h66 h69 h70 h71 h72
 refine hK67 _ _ <| wp_seq_k fun K74 hK74 => wp_seq_k fun K75 hK75 => wp_region_lit <| wv h73 (r_fieldB (r := 0) fl_28_0 rfl rfl rfl) rfl rfl fun a76 h76 => wv h76 (r_ldb (i := 2) ti_26 rfl rfl rfl rfl) rfl rfl fun a77 h77 => wv h77 (r_neqI (p := (checkG (pgOf code words locks regs)).code) (q := 0) rfl rfl rfl) rfl rfl fun a78 h78 => wms 1 h78 rfl fun a79 h79 => wl_skip h79 (wanted_no h79.fr rfl rfl rfl rfl (decide_eq_true hz)) rfl rfl fun a80 h80 => wl_skip h80 (wanted_no h80.fr rfl rfl rfl rfl (decide_eq_true hz)) rfl rfl fun a81 h81 => wl_skip h81 (wanted_no h81.fr rfl rfl rfl rfl (decide_eq_true hz)) rfl rfl fun a82 h82 => wv h82 (r_pickT rfl rfl (decide_eq_true hz) rfl) rfl rfl fun a83 h83 => wms 1 h83 rfl fun a84 h84 => wl_skip h84 (wanted_no h84.fr rfl rfl rfl rfl rfl) rfl rfl fun a85 h85 => ?_; clear h73 h76 h77 h78 h79 h80 h81 h82 h83 h84
 refine wl_skip h85 (wanted_no h85.fr rfl rfl rfl rfl rfl) rfl rfl fun a86 h86 => wl_skip h86 (wanted_no h86.fr rfl rfl rfl rfl rfl) rfl rfl fun a87 h87 => wv h87 (r_pickT rfl rfl rfl rfl) rfl rfl fun a88 h88 => wpList_nil <| hK75 _ _ ?_; clear h85 h86 h87
 have h89 : St 94 (fun _ => False) W a88 w66 [(5, .pointer (some ⟨b12, 0, none⟩)), (7, .pointer (some ⟨b63, 0, none⟩)), (67, .bool true)] [.blk b64 28 [.int .i64 ((checkG (pgOf code words locks regs)).code), .int .i64 ((checkG (pgOf code words locks regs)).thread), .int .i64 ((checkG (pgOf code words locks regs)).at_)], .blk b63 49 [(.slice none 0 0), .int .i64 0, (.slice none 0 0), .int .i64 0], .blk b13 28 [.int .i64 ((checkG (pgOf code words locks regs)).code), .int .i64 ((checkG (pgOf code words locks regs)).thread), .int .i64 ((checkG (pgOf code words locks regs)).at_)], .blk b12 49 [(.slice none 0 0), .int .i64 0, (.slice none 0 0), .int .i64 0], .own 3 pr8, .own 3 wd8, .own 3 (⟨v7, [0, 0, 1, 0, 1, 1, 1, 1]⟩ : Ls Int), .deep 33 c6, .own 3 u6, .blk b3 25 [code.v, words.v, .int .i64 locks, .int .i64 regs], .at_ code, .at_ words, .at_ script] := h88.nrm ⟨rfl, rfl, rfl, trivial⟩ [0, 1, 2, 3, 4, 5, 6, 7, 8, 9, 10, 11, 12] (by decide) ⟨rfl, rfl, rfl, rfl, rfl, rfl, rfl, rfl, rfl, rfl, rfl, rfl, rfl, trivial⟩
 clear h88
 refine x_condT h89 rfl rfl <| wp_seq_k fun K90 hK90 => wp_region_lit <| wms 1 h89 rfl fun a91 h91 => wpList_nil <| hK90 _ _ <| wp_ret ?_; clear h89
 try simp only [Exit.then, Exit.inBlock]
 refine x_ret1 (fn := Try.f12) (t := 4) rfl h91 rfl <| ⟨?_, (h91.sh.sel [] (by decide) trivial)⟩
 first | rfl | (congr 1; exact decide_eq_true (hal.2.2.resolve_left (by assumption))) | (congr 1; assumption) | (congr 1; exact decide_eq_true (hal.2.2.resolve_left (of_decide_eq_false (by assumption))))

set_option maxRecDepth 100000 in
set_option maxHeartbeats 8000000 in
theorem tsoAlone_k (code : Ls (Ls Ins)) (words script : Ls Int) (Lk R : Nat) (W : World) (hcode : code.At W) (hwords : words.At W) (hscript : script.At W) (hv : vastG (code.l.map (·.l)) words.l = false) (hok : OkPg (pgN code words Lk R)) :
    Rets Try.prog 12 [.agg #[code.v, words.v, .int .i64 ((Lk : Nat) : Int), .int .i64 ((R : Nat) : Int)], script.v] W (fun v w' => v = .bool true ∧ Sh0 W w' []) := by
 have hz : checkG (pgOf code words ((Lk : Nat) : Int) ((R : Nat) : Int)) = ⟨0, 0, 0⟩ := checkG_ok hok
 refine x_enter (N := 94) Try.func12 rfl Try.ntmps12 (Nat.le_of_ble_eq_true rfl) fun a1 hf1 => ?_
 have h1 : St 94 (fun _ => False) W a1 W [(0, .agg #[code.v, words.v, .int .i64 ((Lk : Nat) : Int), .int .i64 ((R : Nat) : Int)]), (1, script.v)] [.at_ code, .at_ words, .at_ script] := ⟨hf1.sub ⟨rfl, rfl, trivial⟩, Sh0.ext3 hcode hwords hscript⟩
 clear hf1
 refine wp_seq_k fun K2 hK2 => wp_region_lit <| wl_ex (x_box (cs := [code.v, words.v, .int .i64 ((Lk : Nat) : Int), .int .i64 ((R : Nat) : Int)]) h1 rfl rfl rfl rfl rfl) (wanted_none rfl _) ?_
 rintro a3 w3 ⟨b3, h3⟩; clear h1
 refine wms 1 h3 rfl fun a4 h4 => wpList_nil <| hK2 _ _ <| wp_seq_k fun K5 hK5 => wp_region_lit <| wl_ex (x_call h4 bd_35 rfl rfl rfl rfl rfl (buffers_c _)) (wanted_none rfl _) ?_; clear h3
 rintro a6 w6 ⟨_, ⟨c6, u6, rfl, hbc6, hbu6, hs6⟩, hf6⟩
 have h6 := (⟨hf6, h4.sh.call hs6 (by intro A hA b hb; simp only [List.mem_cons, List.not_mem_nil, or_false] at hA; first | (subst hA; exact Flat.noRd hb) | (rcases hA with rfl | rfl <;> first | exact (hb : False).elim | exact Flat.noRd hb | exact .inl (hb : _)))⟩ : St 94 (fun _ => False) W a6 w6 _ _)
 clear hf6 hs6
 clear h4
 refine wl_ex (x_lit (n := 8) (cs := [.int .i64 0, .int .i64 0, .int .i64 1, .int .i64 0, .int .i64 1, .int .i64 1, .int .i64 1, .int .i64 1]) ([0, 0, 1, 0, 1, 1, 1, 1] : List Int) h6 sl_23 ti_3 rfl rfl rfl (by decide) rfl (by kernel_rfl) rfl (fun q hq w h => Flat.inner _ _) (fun q hq b hb => (Flat.on _ _ hb).elim) rfl rfl) (wanted_none rfl _) ?_
 rintro a7 w7 ⟨v7, h7⟩; clear h6
 refine wl_ex (x_call h7 bd_37 rfl rfl rfl rfl rfl (tsoRun_k c6 u6 (⟨v7, [0, 0, 1, 0, 1, 1, 1, 1]⟩ : Ls Int) 0 2 _ (h7.sh.deep 1 rfl) (h7.sh.own 2 rfl) (h7.sh.own 0 rfl) (buf_ok hbc6 hbu6))) (wanted_none rfl _) ?_
 rintro a8 w8 ⟨_, ⟨pr8, wd8, st8, sn8, rfl, hrun8, hs8⟩, hf8⟩
 have h8 := (⟨hf8, h7.sh.call hs8 (by intro A hA b hb; simp only [List.mem_cons, List.not_mem_nil, or_false] at hA; first | (subst hA; exact Flat.noRd hb) | (rcases hA with rfl | rfl <;> first | exact (hb : False).elim | exact Flat.noRd hb | exact .inl (hb : _)))⟩ : St 94 (fun _ => False) W a8 w8 _ _)
 clear hf8 hs8
 clear h7
 refine wms 1 h8 rfl fun a9 h9 => wv h9 (r_extract rfl rfl rfl) rfl rfl fun a10 h10 => wv h10 (r_extract rfl rfl rfl) rfl rfl fun a11 h11 => wl_ex (x_alloc h11 ti_49 rfl rfl rfl) (wanted_none rfl _) ?_; clear h8 h9 h10
 rintro a12 w12 ⟨b12, h12⟩; clear h11
 refine wl_ex (x_alloc h12 ti_28 rfl rfl rfl) (wanted_none rfl _) ?_
 rintro a13 w13 ⟨b13, h13⟩; clear h12
 refine wl_ex (x_stb (i := 1) (vs := [pr8.v, .int .i64 st8, wd8.v, .int .i64 ((sn8 : Nat) : Int)]) (cs' := [pr8.v, .int .i64 st8, wd8.v, .int .i64 ((sn8 : Nat) : Int)]) h13 ti_49 rfl rfl rfl rfl rfl rfl rfl (allOne_cons ((h13.sh.own 2 rfl)).one (allOne_cons rfl (allOne_cons ((h13.sh.own 3 rfl)).one (allOne_cons rfl allOne_nil)))) (Nat.le_of_ble_eq_true rfl) rfl) (wanted_none rfl _) ?_
 rintro a14 w14 h14
 clear h13
 refine wl_ex (x_stb (i := 0) (vs := [.int .i64 0, .int .i64 0, .int .i64 0]) (cs' := [.int .i64 0, .int .i64 0, .int .i64 0]) h14 ti_28 rfl rfl rfl rfl rfl rfl rfl (allOne_cons rfl (allOne_cons rfl (allOne_cons rfl allOne_nil))) (Nat.le_of_ble_eq_true rfl) rfl) (wanted_none rfl _) ?_
 rintro a15 w15 h15
 clear h14
 refine wpList_nil <| hK5 _ _ ?_
 rw [buf_eq hbc6 hbu6] at hrun8
 have hb0 := buf_run1.symm.trans hrun8
 simp only [TrM.mk.injEq] at hb0
 obtain ⟨hb1, hb2, hb3, hb4⟩ := hb0
 refine wp_seq_k fun K16 hK16 => wp_seq_k fun K17 hK17 => wp_region_lit <| wv h15 (r_fieldB (r := 0) fl_28_0 rfl rfl rfl) rfl rfl fun a18 h18 => wv h18 (r_ldb (i := 0) ti_26 rfl rfl rfl rfl) rfl rfl fun a19 h19 => wv h19 (r_neqN (p := 0) (q := 0) rfl rfl rfl) rfl rfl fun a20 h20 => wms 1 h20 rfl fun a21 h21 => wl_val h21 (r_fieldB (r := 1) fl_49_1 rfl rfl rfl) (wanted_yes h21.fr rfl rfl rfl rfl (by decide)) rfl rfl fun a22 h22 => wl_val h22 (r_ldb (i := 1) ti_3 rfl rfl rfl rfl) (wanted_yes h22.fr rfl rfl rfl rfl (by decide)) rfl rfl fun a23 h23 => wl_val h23 (r_neqI (p := st8) (q := 0) rfl rfl rfl) (wanted_yes h23.fr rfl rfl rfl rfl (by decide)) rfl rfl fun a24 h24 => wv h24 (r_pickF rfl rfl (by decide) rfl) rfl rfl fun a25 h25 => wms 1 h25 rfl fun a26 h26 => wl_val h26 (r_fieldB (r := 0) fl_49_0 rfl rfl rfl) (wanted_yes h26.fr rfl rfl rfl rfl (decide_eq_false (by omega))) rfl rfl fun a27 h27 => wl_val h27 (r_ldb (i := 1) ti_23 rfl rfl rfl rfl) (wanted_yes h27.fr rfl rfl rfl rfl (decide_eq_false (by omega))) rfl rfl fun a28 h28 => ?_; clear h15 h18 h19 h20 h21 h22 h23 h24 h25 h26 h27
 have hl29 : pr8.l.length ≤ 140737488355328 := (h28.sh.own 2 rfl).len
 refine wl_val h28 (r_len (s := pr8) (n := pr8.l.length) sl_23 rfl rfl (fun w h => (h.own 2 rfl)) rfl) (wanted_yes h28.fr rfl rfl rfl rfl (decide_eq_false (by omega))) rfl rfl fun a30 h30 => wl_val h30 (r_neqN (p := pr8.l.length) (q := 4) rfl rfl rfl) (wanted_yes h30.fr rfl rfl rfl rfl (decide_eq_false (by omega))) rfl rfl fun a31 h31 => wv h31 (r_pickF rfl rfl (decide_eq_false (by omega)) rfl) rfl rfl fun a32 h32 => wpList_nil <| hK17 _ _ <| x_condF h32 rfl (decide_eq_false (by rw [← hb4]; decide)) ?_; clear h28 h30 h31
 refine wp_skip <| hK16 _ _ <| wp_seq_k fun K33 hK33 => wp_seq_k fun K34 hK34 => wp_region_lit <| wv h32 (r_ldbw (i := 7) (vs := [code.v, words.v, .int .i64 ((Lk : Nat) : Int), .int .i64 ((R : Nat) : Int)]) ti_25 rfl rfl rfl rfl rfl) rfl rfl fun a35 h35 => wl_ex (x_call h35 bd_16 rfl rfl rfl rfl rfl (kvast_c code words ((Lk : Nat) : Int) ((R : Nat) : Int) _ (h35.sh.at 8 rfl) (h35.sh.at 9 rfl))) (wanted_none rfl _) ?_; clear h32
 rintro a36 w36 ⟨_, ⟨rfl, hs36⟩, hf36⟩
 have h36 : St 94 (fun _ => False) W a36 w36 _ _ := ⟨hf36, h35.sh.call0 hs36⟩
 clear hf36 hs36
 clear h35
 refine wms 1 h36 rfl fun a37 h37 => wl_val h37 (r_fieldB (r := 0) fl_25_0 rfl rfl rfl) (wanted_yes h37.fr rfl rfl rfl rfl hv) rfl rfl fun a38 h38 => wl_val h38 (r_ldb (i := 7) ti_22 rfl rfl rfl rfl) (wanted_yes h38.fr rfl rfl rfl rfl hv) rfl rfl fun a39 h39 => ?_; clear h36 h37 h38
 have hl40 : code.l.length ≤ 140737488355328 := (h39.sh.at 8 rfl).len
 refine wl_val h39 (r_len (s := code) (n := code.l.length) sl_22 rfl rfl (fun w h => (h.at 8 rfl)) rfl) (wanted_yes h39.fr rfl rfl rfl rfl hv) rfl rfl fun a41 h41 => wl_val h41 (r_neqN (p := code.l.length) (q := 1) rfl rfl rfl) (wanted_yes h41.fr rfl rfl rfl rfl hv) rfl rfl fun a42 h42 => wv h42 (r_pickF rfl rfl hv rfl) rfl rfl fun a43 h43 => wpList_nil <| hK34 _ _ ?_; clear h39 h41 h42
 have h44 : St 94 (fun _ => False) W a43 w36 [(1, script.v), (2, .pointer (some ⟨b3, 0, none⟩)), (5, .pointer (some ⟨b12, 0, none⟩)), (6, .pointer (some ⟨b13, 0, none⟩)), (38, .bool (decide (code.l.length ≠ 1)))] [.blk b13 28 [.int .i64 0, .int .i64 0, .int .i64 0], .blk b12 49 [pr8.v, .int .i64 st8, wd8.v, .int .i64 ((sn8 : Nat) : Int)], .own 3 pr8, .own 3 wd8, .own 3 (⟨v7, [0, 0, 1, 0, 1, 1, 1, 1]⟩ : Ls Int), .deep 33 c6, .own 3 u6, .blk b3 25 [code.v, words.v, .int .i64 ((Lk : Nat) : Int), .int .i64 ((R : Nat) : Int)], .at_ code, .at_ words, .at_ script] := h43.nrm ⟨rfl, rfl, rfl, rfl, rfl, trivial⟩ [0, 1, 2, 3, 4, 5, 6, 7, 8, 9, 10] (by decide) ⟨rfl, rfl, rfl, rfl, rfl, rfl, rfl, rfl, rfl, rfl, rfl, trivial⟩
 clear h43
 refine x_cond h44 rfl (fun hb45 => ?_) (fun hb45 => ?_)
 ·have hp45 : code.l.length ≠ 1 := of_decide_eq_true hb45
  refine wp_seq_k fun K46 hK46 => wp_region_lit <| wms 1 h44 rfl fun a47 h47 => wpList_nil <| hK46 _ _ <| wp_ret ?_; clear h44
  try simp only [Exit.then, Exit.inBlock]
  refine x_ret1 (fn := Try.f12) (t := 4) rfl h47 rfl <| ⟨?_, (h47.sh.sel [] (by decide) trivial)⟩
  first | rfl | (congr 1; exact decide_eq_true (hal.2.2.resolve_left (by assumption))) | (congr 1; assumption) | (congr 1; exact decide_eq_true (hal.2.2.resolve_left (of_decide_eq_false (by assumption))))
 have hp45 : ¬ (code.l.length ≠ 1) := of_decide_eq_false hb45
 refine wp_skip <| hK33 _ _ <| wp_seq_k fun K48 hK48 => wp_region_lit <| wv h44 (r_ldbw (i := 7) (vs := [code.v, words.v, .int .i64 ((Lk : Nat) : Int), .int .i64 ((R : Nat) : Int)]) ti_25 rfl rfl rfl rfl rfl) rfl rfl fun a49 h49 => wms 1 h49 rfl fun a50 h50 => wl_ex (x_call h50 bd_37 rfl rfl rfl rfl rfl (tsoRun_k code words script Lk R _ (h50.sh.at 8 rfl) (h50.sh.at 9 rfl) (h50.sh.at 10 rfl) hok)) (wanted_none rfl _) ?_; clear h44 h49
 rintro a51 w51 ⟨_, ⟨pr51, wd51, st51, sn51, rfl, hrun51, hs51⟩, hf51⟩
 have h51 := (⟨hf51, h50.sh.call hs51 (by intro A hA b hb; simp only [List.mem_cons, List.not_mem_nil, or_false] at hA; first | (subst hA; exact Flat.noRd hb) | (rcases hA with rfl | rfl <;> first | exact (hb : False).elim | exact Flat.noRd hb | exact .inl (hb : _)))⟩ : St 94 (fun _ => False) W a51 w51 _ _)
 clear hf51 hs51
 clear h50
 refine wms 1 h51 rfl fun a52 h52 => wv h52 (r_extract rfl rfl rfl) rfl rfl fun a53 h53 => wv h53 (r_extract rfl rfl rfl) rfl rfl fun a54 h54 => wl_ex (x_stb (i := 3) (vs := [pr51.v, .int .i64 st51, wd51.v, .int .i64 ((sn51 : Nat) : Int)]) (cs' := [pr51.v, .int .i64 st51, wd51.v, .int .i64 ((sn51 : Nat) : Int)]) h54 ti_49 rfl rfl rfl rfl rfl rfl rfl (allOne_cons ((h54.sh.own 0 rfl)).one (allOne_cons rfl (allOne_cons ((h54.sh.own 1 rfl)).one (allOne_cons rfl allOne_nil)))) (Nat.le_of_ble_eq_true rfl) rfl) (wanted_none rfl _) ?_; clear h51 h52 h53
 rintro a55 w55 h55
 clear h54
 refine wl_ex (x_stb (i := 2) (vs := [.int .i64 0, .int .i64 0, .int .i64 0]) (cs' := [.int .i64 0, .int .i64 0, .int .i64 0]) h55 ti_28 rfl rfl rfl rfl rfl rfl rfl (allOne_cons rfl (allOne_cons rfl (allOne_cons rfl allOne_nil))) (Nat.le_of_ble_eq_true rfl) rfl) (wanted_none rfl _) ?_
 rintro a56 w56 h56
 clear h55
 refine wpList_nil <| hK48 _ _ <| wp_seq_k fun K57 hK57 => wp_region_lit <| wv h56 (r_ldbw (i := 9) (vs := [code.v, words.v, .int .i64 ((Lk : Nat) : Int), .int .i64 ((R : Nat) : Int)]) ti_25 rfl rfl rfl rfl rfl) rfl rfl fun a58 h58 => wl_ex (x_call h58 bd_31 rfl rfl rfl rfl rfl (scRun_k code words (⟨.slice none 0 0, []⟩ : Ls Int) Lk R _ (h58.sh.at 10 rfl) (h58.sh.at 11 rfl) (Sh.nilAt (α := Int) h58.sh) hok)) (wanted_none rfl _) ?_; clear h56
 rintro a59 w59 ⟨_, ⟨pr59, wd59, st59, sn59, rfl, hrun59, hs59⟩, hf59⟩
 have h59 := (⟨hf59, h58.sh.call hs59 (by intro A hA b hb; simp only [List.mem_cons, List.not_mem_nil, or_false] at hA; first | (subst hA; exact Flat.noRd hb) | (rcases hA with rfl | rfl <;> first | exact (hb : False).elim | exact Flat.noRd hb | exact .inl (hb : _)))⟩ : St 94 (fun _ => False) W a59 w59 _ _)
 clear hf59 hs59
 clear h58
 refine wms 1 h59 rfl fun a60 h60 => wv h60 (r_extract rfl rfl rfl) rfl rfl fun a61 h61 => wv h61 (r_extract rfl rfl rfl) rfl rfl fun a62 h62 => wl_ex (x_alloc h62 ti_49 rfl rfl rfl) (wanted_none rfl _) ?_; clear h59 h60 h61
 rintro a63 w63 ⟨b63, h63⟩; clear h62
 refine wl_ex (x_alloc h63 ti_28 rfl rfl rfl) (wanted_none rfl _) ?_
 rintro a64 w64 ⟨b64, h64⟩; clear h63
 refine wl_ex (x_stb (i := 1) (vs := [pr59.v, .int .i64 st59, wd59.v, .int .i64 ((sn59 : Nat) : Int)]) (cs' := [pr59.v, .int .i64 st59, wd59.v, .int .i64 ((sn59 : Nat) : Int)]) h64 ti_49 rfl rfl rfl rfl rfl rfl rfl (allOne_cons ((h64.sh.own 2 rfl)).one (allOne_cons rfl (allOne_cons ((h64.sh.own 3 rfl)).one (allOne_cons rfl allOne_nil)))) (Nat.le_of_ble_eq_true rfl) rfl) (wanted_none rfl _) ?_
 rintro a65 w65 h65
 clear h64
 refine wl_ex (x_stb (i := 0) (vs := [.int .i64 0, .int .i64 0, .int .i64 0]) (cs' := [.int .i64 0, .int .i64 0, .int .i64 0]) h65 ti_28 rfl rfl rfl rfl rfl rfl rfl (allOne_cons rfl (allOne_cons rfl (allOne_cons rfl allOne_nil))) (Nat.le_of_ble_eq_true rfl) rfl) (wanted_none rfl _) ?_
 rintro a66 w66 h66
 clear h65
 refine wpList_nil <| hK57 _ _ <| wp_seq_k fun K67 hK67 => wp_seq_k fun K68 hK68 => wp_region_lit <| wv h66 (r_fieldB (r := 0) fl_28_0 rfl rfl rfl) rfl rfl fun a69 h69 => wv h69 (r_ldb (i := 6) ti_26 rfl rfl rfl rfl) rfl rfl fun a70 h70 => wv h70 (r_fieldB (r := 0) fl_28_0 rfl rfl rfl) rfl rfl fun a71 h71 => wv h71 (r_ldb (i := 0) ti_26 rfl rfl rfl rfl) rfl rfl fun a72 h72 => wv h72 (r_neqN (p := 0) (q := 0) rfl rfl rfl) rfl rfl fun a73 h73 => wpList_nil <| hK68 _ _ <| x_condF h73 rfl (by decide) <| wp_skip ?_; clear h66 h69 h70 h71 h72
 refine hK67 _ _ <| wp_seq_k fun K74 hK74 => wp_seq_k fun K75 hK75 => wp_region_lit <| wv h73 (r_fieldB (r := 0) fl_28_0 rfl rfl rfl) rfl rfl fun a76 h76 => wv h76 (r_ldb (i := 6) ti_26 rfl rfl rfl rfl) rfl rfl fun a77 h77 => wv h77 (r_neqN (p := 0) (q := 0) rfl rfl rfl) rfl rfl fun a78 h78 => wms 1 h78 rfl fun a79 h79 => wl_val h79 (r_fieldB (r := 1) fl_49_1 rfl rfl rfl) (wanted_yes h79.fr rfl rfl rfl rfl (by decide)) rfl rfl fun a80 h80 => wl_val h80 (r_ldb (i := 7) ti_3 rfl rfl rfl rfl) (wanted_yes h80.fr rfl rfl rfl rfl (by decide)) rfl rfl fun a81 h81 => wl_val h81 (r_eqlI (p := st51) (q := 3) rfl rfl rfl) (wanted_yes h81.fr rfl rfl rfl rfl (by decide)) rfl rfl fun a82 h82 => wv h82 (r_pickF rfl rfl (by decide) rfl) rfl rfl fun a83 h83 => wms 1 h83 rfl fun a84 h84 => ?_; clear h73 h76 h77 h78 h79 h80 h81 h82 h83
 rcases Bool.eq_false_or_eq_true (decide (st51 = 3)) with hb85 | hb85
 ·have hp85 : st51 = 3 := of_decide_eq_true hb85
  refine wl_skip h84 (wanted_no h84.fr rfl rfl rfl rfl hb85) rfl rfl fun a86 h86 => wl_skip h86 (wanted_no h86.fr rfl rfl rfl rfl hb85) rfl rfl fun a87 h87 => wl_skip h87 (wanted_no h87.fr rfl rfl rfl rfl hb85) rfl rfl fun a88 h88 => wv h88 (r_pickT rfl rfl hb85 rfl) rfl rfl fun a89 h89 => wpList_nil <| hK75 _ _ ?_; clear h84 h86 h87 h88
  have h90 : St 94 (fun _ => False) W a89 w66 [(5, .pointer (some ⟨b12, 0, none⟩)), (7, .pointer (some ⟨b63, 0, none⟩)), (67, .bool true)] [.blk b64 28 [.int .i64 0, .int .i64 0, .int .i64 0], .blk b63 49 [pr59.v, .int .i64 st59, wd59.v, .int .i64 ((sn59 : Nat) : Int)], .own 3 pr59, .own 3 wd59, .own 3 pr51, .own 3 wd51, .blk b13 28 [.int .i64 0, .int .i64 0, .int .i64 0], .blk b12 49 [pr51.v, .int .i64 st51, wd51.v, .int .i64 ((sn51 : Nat) : Int)], .own 3 pr8, .own 3 wd8, .own 3 (⟨v7, [0, 0, 1, 0, 1, 1, 1, 1]⟩ : Ls Int), .deep 33 c6, .own 3 u6, .blk b3 25 [code.v, words.v, .int .i64 ((Lk : Nat) : Int), .int .i64 ((R : Nat) : Int)], .at_ code, .at_ words, .at_ script] := h89.nrm ⟨rfl, rfl, rfl, trivial⟩ [0, 1, 2, 3, 4, 5, 6, 7, 8, 9, 10, 11, 12, 13, 14, 15, 16] (by decide) ⟨rfl, rfl, rfl, rfl, rfl, rfl, rfl, rfl, rfl, rfl, rfl, rfl, rfl, rfl, rfl, rfl, rfl, trivial⟩
  clear h89
  refine x_condT h90 rfl rfl <| wp_seq_k fun K91 hK91 => wp_region_lit <| wms 1 h90 rfl fun a92 h92 => wpList_nil <| hK91 _ _ <| wp_ret ?_; clear h90
  try simp only [Exit.then, Exit.inBlock]
  refine x_ret1 (fn := Try.f12) (t := 4) rfl h92 rfl <| ⟨?_, (h92.sh.sel [] (by decide) trivial)⟩
  first | rfl | (congr 1; exact decide_eq_true (hal.2.2.resolve_left (by assumption))) | (congr 1; assumption) | (congr 1; exact decide_eq_true (hal.2.2.resolve_left (of_decide_eq_false (by assumption))))
 have hp85 : ¬ (st51 = 3) := of_decide_eq_false hb85
 refine wl_val h84 (r_fieldB (r := 1) fl_49_1 rfl rfl rfl) (wanted_yes h84.fr rfl rfl rfl rfl hb85) rfl rfl fun a93 h93 => wl_val h93 (r_ldb (i := 1) ti_3 rfl rfl rfl rfl) (wanted_yes h93.fr rfl rfl rfl rfl hb85) rfl rfl fun a94 h94 => wl_val h94 (r_eqlI (p := st59) (q := 3) rfl rfl rfl) (wanted_yes h94.fr rfl rfl rfl rfl hb85) rfl rfl fun a95 h95 => wv h95 (r_pickF rfl rfl hb85 rfl) rfl rfl fun a96 h96 => wpList_nil <| hK75 _ _ ?_; clear h84 h93 h94 h95
 have h97 : St 94 (fun _ => False) W a96 w66 [(5, .pointer (some ⟨b12, 0, none⟩)), (7, .pointer (some ⟨b63, 0, none⟩)), (67, .bool (decide (st59 = 3)))] [.blk b64 28 [.int .i64 0, .int .i64 0, .int .i64 0], .blk b63 49 [pr59.v, .int .i64 st59, wd59.v, .int .i64 ((sn59 : Nat) : Int)], .own 3 pr59, .own 3 wd59, .own 3 pr51, .own 3 wd51, .blk b13 28 [.int .i64 0, .int .i64 0, .int .i64 0], .blk b12 49 [pr51.v, .int .i64 st51, wd51.v, .int .i64 ((sn51 : Nat) : Int)], .own 3 pr8, .own 3 wd8, .own 3 (⟨v7, [0, 0, 1, 0, 1, 1, 1, 1]⟩ : Ls Int), .deep 33 c6, .own 3 u6, .blk b3 25 [code.v, words.v, .int .i64 ((Lk : Nat) : Int), .int .i64 ((R : Nat) : Int)], .at_ code, .at_ words, .at_ script] := h96.nrm ⟨rfl, rfl, rfl, trivial⟩ [0, 1, 2, 3, 4, 5, 6, 7, 8, 9, 10, 11, 12, 13, 14, 15, 16] (by decide) ⟨rfl, rfl, rfl, rfl, rfl, rfl, rfl, rfl, rfl, rfl, rfl, rfl, rfl, rfl, rfl, rfl, rfl, trivial⟩
 clear h96
 refine x_cond h97 rfl (fun hb98 => ?_) (fun hb98 => ?_)
 ·have hp98 : st59 = 3 := of_decide_eq_true hb98
  refine wp_seq_k fun K99 hK99 => wp_region_lit <| wms 1 h97 rfl fun a100 h100 => wpList_nil <| hK99 _ _ <| wp_ret ?_; clear h97
  try simp only [Exit.then, Exit.inBlock]
  refine x_ret1 (fn := Try.f12) (t := 4) rfl h100 rfl <| ⟨?_, (h100.sh.sel [] (by decide) trivial)⟩
  first | rfl | (congr 1; exact decide_eq_true (hal.2.2.resolve_left (by assumption))) | (congr 1; assumption) | (congr 1; exact decide_eq_true (hal.2.2.resolve_left (of_decide_eq_false (by assumption))))
 have hp98 : ¬ (st59 = 3) := of_decide_eq_false hb98
 refine wp_skip <| hK74 _ _ ?_
 have hal := runM_alone hok (by rw [pgN_len]; omega) script.l (by rw [hrun51]; exact (by omega : ¬ st51 = 3)) (by rw [show runM (pgN code words Lk R) 0 [] = _ from hrun59]; exact (by omega : ¬ st59 = 3))
 rw [hrun51, show runM (pgN code words Lk R) 0 [] = _ from hrun59] at hal
 simp only at hal
 refine wp_seq_k fun K101 hK101 => wp_region_lit <| wv h97 (r_fieldB (r := 0) fl_49_0 rfl rfl rfl) rfl rfl fun a102 h102 => wv h102 (r_ldb (i := 7) ti_23 rfl rfl rfl rfl) rfl rfl fun a103 h103 => wv h103 (r_fieldB (r := 0) fl_49_0 rfl rfl rfl) rfl rfl fun a104 h104 => wv h104 (r_ldb (i := 1) ti_23 rfl rfl rfl rfl) rfl rfl fun a105 h105 => wl_ex (x_call h105 bd_36 rfl rfl rfl rfl rfl (kints_c pr51 pr59 _ (h105.sh.own 4 rfl) (h105.sh.own 2 rfl))) (wanted_none rfl _) ?_; clear h97 h102 h103 h104
 rintro a106 w106 ⟨_, ⟨rfl, hs106⟩, hf106⟩
 have h106 : St 94 (fun _ => False) W a106 w106 _ _ := ⟨hf106, h105.sh.call0 hs106⟩
 clear hf106 hs106
 clear h105
 refine wms 1 h106 rfl fun a107 h107 => wpList_nil <| hK101 _ _ <| wp_seq_k fun K108 hK108 => wp_region_lit <| wv h107 (r_fieldB (r := 2) fl_49_2 rfl rfl rfl) rfl rfl fun a109 h109 => wv h109 (r_ldb (i := 7) ti_23 rfl rfl rfl rfl) rfl rfl fun a110 h110 => wv h110 (r_fieldB (r := 2) fl_49_2 rfl rfl rfl) rfl rfl fun a111 h111 => wv h111 (r_ldb (i := 1) ti_23 rfl rfl rfl rfl) rfl rfl fun a112 h112 => wl_ex (x_call h112 bd_36 rfl rfl rfl rfl rfl (kints_c wd51 wd59 _ (h112.sh.own 5 rfl) (h112.sh.own 3 rfl))) (wanted_none rfl _) ?_; clear h106 h107 h109 h110 h111
 rintro a113 w113 ⟨_, ⟨rfl, hs113⟩, hf113⟩
 have h113 : St 94 (fun _ => False) W a113 w113 _ _ := ⟨hf113, h112.sh.call0 hs113⟩
 clear hf113 hs113
 clear h112
 refine wms 1 h113 rfl fun a114 h114 => wpList_nil <| hK108 _ _ <| wp_seq_k fun K115 hK115 => wp_region_lit <| wv h114 (r_fieldB (r := 1) fl_49_1 rfl rfl rfl) rfl rfl fun a116 h116 => wv h116 (r_ldb (i := 7) ti_3 rfl rfl rfl rfl) rfl rfl fun a117 h117 => wv h117 (r_fieldB (r := 1) fl_49_1 rfl rfl rfl) rfl rfl fun a118 h118 => wv h118 (r_ldb (i := 1) ti_3 rfl rfl rfl rfl) rfl rfl fun a119 h119 => wv h119 (r_eqlI (p := st51) (q := st59) rfl rfl rfl) rfl rfl fun a120 h120 => wms 1 h120 rfl fun a121 h121 => wl_val h121 (r_move rfl rfl) (wanted_yes h121.fr rfl rfl rfl rfl (decide_eq_true hal.1)) rfl rfl fun a122 h122 => wv h122 (r_pickT rfl rfl (decide_eq_true hal.1) rfl) rfl rfl fun a123 h123 => wms 1 h123 rfl fun a124 h124 => ?_; clear h113 h114 h116 h117 h118 h119 h120 h121 h122 h123
 refine wl_val h124 (r_move rfl rfl) (wanted_yes h124.fr rfl rfl rfl rfl (decide_eq_true hal.2.1)) rfl rfl fun a125 h125 => wl_val h125 (r_move rfl rfl) (wanted_yes h125.fr rfl rfl rfl rfl (decide_eq_true hal.2.1)) rfl rfl fun a126 h126 => ?_; clear h124 h125
 rcases Bool.eq_false_or_eq_true (decide (wd51.l = wd59.l)) with hb127 | hb127
 ·have hp127 : wd51.l = wd59.l := of_decide_eq_true hb127
  refine wl_skip h126 (wanted_no h126.fr rfl rfl rfl rfl hb127) rfl rfl fun a128 h128 => wl_skip h128 (wanted_no h128.fr rfl rfl rfl rfl hb127) rfl rfl fun a129 h129 => wl_skip h129 (wanted_no h129.fr rfl rfl rfl rfl hb127) rfl rfl fun a130 h130 => wl_val h130 (r_pickT rfl rfl hb127 rfl) (wanted_yes h130.fr rfl rfl rfl rfl (decide_eq_true hal.2.1)) rfl rfl fun a131 h131 => wv h131 (r_pickT rfl rfl (decide_eq_true hal.2.1) rfl) rfl rfl fun a132 h132 => wms 1 h132 rfl fun a133 h133 => wpList_nil <| hK115 _ _ ?_; clear h126 h128 h129 h130 h131 h132
  have h134 : St 94 (fun _ => False) W a133 w113 [(4, .bool true)] [.blk b64 28 [.int .i64 0, .int .i64 0, .int .i64 0], .blk b63 49 [pr59.v, .int .i64 st59, wd59.v, .int .i64 ((sn59 : Nat) : Int)], .own 3 pr59, .own 3 wd59, .own 3 pr51, .own 3 wd51, .blk b13 28 [.int .i64 0, .int .i64 0, .int .i64 0], .blk b12 49 [pr51.v, .int .i64 st51, wd51.v, .int .i64 ((sn51 : Nat) : Int)], .own 3 pr8, .own 3 wd8, .own 3 (⟨v7, [0, 0, 1, 0, 1, 1, 1, 1]⟩ : Ls Int), .deep 33 c6, .own 3 u6, .blk b3 25 [code.v, words.v, .int .i64 ((Lk : Nat) : Int), .int .i64 ((R : Nat) : Int)], .at_ code, .at_ words, .at_ script] := h133.nrm ⟨rfl, trivial⟩ [0, 1, 2, 3, 4, 5, 6, 7, 8, 9, 10, 11, 12, 13, 14, 15, 16] (by decide) ⟨rfl, rfl, rfl, rfl, rfl, rfl, rfl, rfl, rfl, rfl, rfl, rfl, rfl, rfl, rfl, rfl, rfl, trivial⟩
  clear h133
  refine wp_ret ?_
  try simp only [Exit.then, Exit.inBlock]
  refine x_ret1 (fn := Try.f12) (t := 4) rfl h134 rfl <| ⟨?_, (h134.sh.sel [] (by decide) trivial)⟩
  first | rfl | (congr 1; exact decide_eq_true (hal.2.2.resolve_left (by assumption))) | (congr 1; assumption) | (congr 1; exact decide_eq_true (hal.2.2.resolve_left (of_decide_eq_false (by assumption))))
 have hp127 : ¬ (wd51.l = wd59.l) := of_decide_eq_false hb127
 refine wl_val h126 (r_fieldB (r := 1) fl_49_1 rfl rfl rfl) (wanted_yes h126.fr rfl rfl rfl rfl hb127) rfl rfl fun a135 h135 => wl_val h135 (r_ldb (i := 7) ti_3 rfl rfl rfl rfl) (wanted_yes h135.fr rfl rfl rfl rfl hb127) rfl rfl fun a136 h136 => wl_val h136 (r_eqlI (p := st51) (q := 1) rfl rfl rfl) (wanted_yes h136.fr rfl rfl rfl rfl hb127) rfl rfl fun a137 h137 => wl_val h137 (r_pickF rfl rfl hb127 rfl) (wanted_yes h137.fr rfl rfl rfl rfl (decide_eq_true hal.2.1)) rfl rfl fun a138 h138 => wv h138 (r_pickT rfl rfl (decide_eq_true hal.2.1) rfl) rfl rfl fun a139 h139 => wms 1 h139 rfl fun a140 h140 => wpList_nil <| hK115 _ _ ?_; clear h126 h135 h136 h137 h138 h139
 have h141 : St 94 (fun _ => False) W a140 w113 [(4, .bool (decide (st51 = 1)))] [.blk b64 28 [.int .i64 0, .int .i64 0, .int .i64 0], .blk b63 49 [pr59.v, .int .i64 st59, wd59.v, .int .i64 ((sn59 : Nat) : Int)], .own 3 pr59, .own 3 wd59, .own 3 pr51, .own 3 wd51, .blk b13 28 [.int .i64 0, .int .i64 0, .int .i64 0], .blk b12 49 [pr51.v, .int .i64 st51, wd51.v, .int .i64 ((sn51 : Nat) : Int)], .own 3 pr8, .own 3 wd8, .own 3 (⟨v7, [0, 0, 1, 0, 1, 1, 1, 1]⟩ : Ls Int), .deep 33 c6, .own 3 u6, .blk b3 25 [code.v, words.v, .int .i64 ((Lk : Nat) : Int), .int .i64 ((R : Nat) : Int)], .at_ code, .at_ words, .at_ script] := h140.nrm ⟨rfl, trivial⟩ [0, 1, 2, 3, 4, 5, 6, 7, 8, 9, 10, 11, 12, 13, 14, 15, 16] (by decide) ⟨rfl, rfl, rfl, rfl, rfl, rfl, rfl, rfl, rfl, rfl, rfl, rfl, rfl, rfl, rfl, rfl, rfl, trivial⟩
 clear h140
 refine wp_ret ?_
 try simp only [Exit.then, Exit.inBlock]
 refine x_ret1 (fn := Try.f12) (t := 4) rfl h141 rfl <| ⟨?_, (h141.sh.sel [] (by decide) trivial)⟩
 first | rfl | (congr 1; exact decide_eq_true (hal.2.2.resolve_left (by assumption))) | (congr 1; assumption) | (congr 1; exact decide_eq_true (hal.2.2.resolve_left (of_decide_eq_false (by assumption))))

theorem tsoAlone_any (code : Ls (Ls Ins)) (words script : Ls Int) (locks regs : Int) (W : World) (hcode : code.At W) (hwords : words.At W) (hscript : script.At W) : Rets Try.prog 12 [.agg #[code.v, words.v, .int .i64 locks, .int .i64 regs], script.v] W (fun v w' => v = .bool true ∧ Sh0 W w' []) := by
  cases hv : vastG (code.l.map (·.l)) words.l with
  | true => exact tsoAlone_v code words script locks regs W hcode hwords hscript hv
  | false =>
    by_cases hok : OkPg (pgOf code words locks regs)
    · obtain ⟨Lk, rfl⟩ := Int.eq_ofNat_of_zero_le hok.locks.1
      obtain ⟨R, rfl⟩ := Int.eq_ofNat_of_zero_le (show 0 ≤ regs by have := hok.regs.1; have e : (pgOf code words (Lk : Int) regs).regs = regs := rfl; omega)
      exact tsoAlone_k code words script Lk R W hcode hwords hscript hv hok
    · exact tsoAlone_b code words script locks regs W hcode hwords hscript hv (fun h => hok (checkG_code_pos.1 h))
end Go.Proofs.Ytfpaahkleienoaa
