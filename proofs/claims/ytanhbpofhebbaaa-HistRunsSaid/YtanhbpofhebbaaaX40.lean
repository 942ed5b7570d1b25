/-
  Contracts of functions of this program and of the references, each walked once.
-/
import Derived.Test.YtanhbpofhebbaaaH1
import Derived.Test.YtanhbpofhebbaaaX3
namespace Go.Proofs.Ytanhbpofhebbaaa
open Go.RowKit
set_option linter.unusedSimpArgs false
set_option linter.unusedVariables false

theorem ar_92 : arI Try.prog 92 = some (4, 3) := by kernel_rfl
theorem mp_88 : MapT Try.prog 88 92 46 3 4 where
  map := by kernel_rfl
  ar := ar_92
  el := ⟨_, _, ti_3⟩
  int := by kernel_rfl
  zero w := by kernel_rfl

set_option maxRecDepth 100000 in
set_option maxHeartbeats 1000000 in
theorem equal_c (x y : Ls Int) (W : World) (hx : x.At W) (hy : y.At W) :
    Rets Try.prog 94 [x.v, y.v] W (fun v w' => v = .bool (decide (x.l = y.l)) ∧ Sh0 W w' []) := by
 refine x_enter (N := 26) Try.func94 rfl Try.ntmps94 (Nat.le_of_ble_eq_true rfl) fun a1 hf1 => ?_
 have h1 : St 26 (fun _ => False) W a1 W [(0, x.v), (1, y.v)] [.at_ x, .at_ y] := ⟨hf1.sub ⟨rfl, rfl, trivial⟩, Sh0.ext2 hx hy⟩
 clear hf1
 refine wp_seq_k fun K2 hK2 => wp_region_lit ?_
 refine wms 1 h1 rfl fun a3 h3 => ?_; clear h1
 refine wpList_nil (hK2 _ _ ?_)
 refine wp_seq_k fun K4 hK4 => ?_
 refine wp_seq_k fun K5 hK5 => wp_region_lit ?_
 refine wms 1 h3 rfl fun a6 h6 => ?_; clear h3
 have hl7 : x.l.length ≤ 140737488355328 := (h6.sh.at 0 rfl).len
 refine wv h6 (r_len (s := x) (n := x.l.length) sl_24 rfl rfl (fun w h => (h.at 0 rfl)) rfl) rfl rfl fun a8 h8 => ?_; clear h6
 refine wms 1 h8 rfl fun a9 h9 => ?_; clear h8
 have hl10 : y.l.length ≤ 140737488355328 := (h9.sh.at 1 rfl).len
 refine wv h9 (r_len (s := y) (n := y.l.length) sl_24 rfl rfl (fun w h => (h.at 1 rfl)) rfl) rfl rfl fun a11 h11 => ?_; clear h9
 refine wv h11 (r_neqN (p := x.l.length) (q := y.l.length) rfl rfl rfl) rfl rfl fun a12 h12 => ?_; clear h11
 refine wpList_nil (hK5 _ _ ?_)
 refine x_cond h12 rfl (fun hb13 => ?_) (fun hb13 => ?_)
 ·
  have hp13 : x.l.length ≠ y.l.length := of_decide_eq_true hb13
  refine wp_seq_k fun K14 hK14 => wp_region_lit ?_
  refine wms 1 h12 rfl fun a15 h15 => ?_; clear h12
  refine wpList_nil (hK14 _ _ ?_)
  refine wp_ret ?_
  try simp only [Exit.then, Exit.inBlock]
  refine x_ret1 (fn := Try.f94) (t := 4) rfl h15 rfl ?_
  refine ⟨?_, (h15.sh.sel [] (by decide) trivial)⟩
  congr 1
  first | (exact (decide_eq_true (ext_nth _ _ (by omega) fun i hi => hall i (by omega))).symm) | (refine (decide_eq_false fun e => ?_).symm; simp_all)
 have hp13 : ¬ (x.l.length ≠ y.l.length) := of_decide_eq_false hb13
 refine wp_skip ?_
 refine hK4 _ _ ?_
 refine wp_seq_k fun K16 hK16 => ?_
 refine wp_seq_k fun K17 hK17 => wp_region_lit ?_
 refine wms 1 h12 rfl fun a18 h18 => ?_; clear h12
 refine wv h18 (r_len (s := x) (n := x.l.length) sl_24 rfl rfl (fun w h => (h.at 0 rfl)) rfl) rfl rfl fun a19 h19 => ?_; clear h18
 refine wms 1 h19 rfl fun a20 h20 => ?_; clear h19
 refine wpList_nil (hK17 _ _ ?_)
 refine wp_block ?_
 refine x_loop (fun m a w => ∃ (k : Nat), (k ≤ x.l.length) ∧ (∀ j, j < k → nth x.l j = nth y.l j) ∧ St 26 (fun _ => False) W a w [(0, x.v), (1, y.v), (12, .int .i64 ((x.l.length : Nat) : Int)), (13, .int .i64 ((k : Nat) : Int))] [.at_ x, .at_ y] ∧ m = x.l.length - k) ⟨_, 0, (by omega), (fun j hj => absurd hj (by omega)), h20.nrm ⟨rfl, rfl, rfl, rfl, trivial⟩ [0, 1] (by decide) ⟨rfl, rfl, trivial⟩, rfl⟩ ?_
 clear h20
 rintro m21 a21 w21 ⟨k, hk, hall, h21, hm21⟩
 refine wp_seq_k fun K22 hK22 => wp_region_lit ?_
 refine wv h21 (r_lssN (p := k) (q := x.l.length) rfl rfl rfl) rfl rfl fun a23 h23 => ?_; clear h21
 refine wpList_nil (hK22 _ _ ?_)
 refine wp_seq_k fun K24 hK24 => ?_
 refine x_cond h23 rfl (fun hb25 => ?_) (fun hb25 => ?_)
 ·
  have hp25 : k < x.l.length := of_decide_eq_true hb25
  refine wp_skip ?_
  refine hK24 _ _ ?_
  refine wp_seq_k fun K26 hK26 => ?_
  refine wp_block ?_
  refine wp_seq_k fun K27 hK27 => wp_region_lit ?_
  refine wms 2 h23 rfl fun a28 h28 => ?_; clear h23
  refine wpList_nil (hK27 _ _ ?_)
  refine wp_seq_k fun K29 hK29 => ?_
  refine x_quiet (by kernel_rfl) (by kernel_rfl) h28 fun Z30 hZ30 => ?_
  have hq30 := h28.fr
  refine wq_val hq30 (r_move rfl rfl) (wanted_none rfl _) rfl rfl fun a31 hq31 => ?_; clear hq30
  refine wq_val hq31 (r_move rfl rfl) (wanted_none rfl _) rfl rfl fun a32 hq32 => ?_; clear hq31
  refine wq_val hq32 (r_ixN (s := x) (q := k) sl_24 ti_3 rfl rfl rfl (fun w h => (h.at 0 rfl)) (show k < x.l.length from (by omega))) (wanted_none rfl _) rfl rfl fun a33 hq33 => ?_; clear hq32
  refine wq_val hq33 (r_lde (s := x) (i := k) (v := .int .i64 (nth x.l k)) ti_3 rfl rfl rfl (fun w h => (h.at 0 rfl)) (show k < x.l.length from (by omega)) (Nat.le_of_ble_eq_true rfl) rfl) (wanted_none rfl _) rfl rfl fun a34 hq34 => ?_; clear hq33
  refine wq_val hq34 (r_move rfl rfl) (wanted_none rfl _) rfl rfl fun a35 hq35 => ?_; clear hq34
  refine wq_val hq35 (r_move rfl rfl) (wanted_none rfl _) rfl rfl fun a36 hq36 => ?_; clear hq35
  refine wq_val hq36 (r_ixN (s := y) (q := k) sl_24 ti_3 rfl rfl rfl (fun w h => (h.at 1 rfl)) (show k < y.l.length from (by omega))) (wanted_none rfl _) rfl rfl fun a37 hq37 => ?_; clear hq36
  refine wq_val hq37 (r_lde (s := y) (i := k) (v := .int .i64 (nth y.l k)) ti_3 rfl rfl rfl (fun w h => (h.at 1 rfl)) (show k < y.l.length from (by omega)) (Nat.le_of_ble_eq_true rfl) rfl) (wanted_none rfl _) rfl rfl fun a38 hq38 => ?_; clear hq37
  refine wq_val hq38 (r_neqI (p := nth x.l k) (q := nth y.l k) rfl rfl rfl) (wanted_none rfl _) rfl rfl fun a39 hq39 => ?_; clear hq38
  refine wpQuiet_nil (hZ30 _ fun w40 hw40 => ?_)
  have h40 : St 26 (fun _ => False) W a39 w40 _ _ := ⟨hq39, hw40⟩
  clear hq39 hw40 h28
  refine hK29 _ _ ?_
  refine x_cond h40 rfl (fun hb41 => ?_) (fun hb41 => ?_)
  ·
   have hp41 : nth x.l k ≠ nth y.l k := of_decide_eq_true hb41
   refine wp_seq_k fun K42 hK42 => wp_region_lit ?_
   refine wms 1 h40 rfl fun a43 h43 => ?_; clear h40
   refine wpList_nil (hK42 _ _ ?_)
   refine wp_ret ?_
   try simp only [Exit.then, Exit.inBlock]
   refine x_ret1 (fn := Try.f94) (t := 4) rfl h43 rfl ?_
   refine ⟨?_, (h43.sh.sel [] (by decide) trivial)⟩
   congr 1
   first | (exact (decide_eq_true (ext_nth _ _ (by omega) fun i hi => hall i (by omega))).symm) | (refine (decide_eq_false fun e => ?_).symm; simp_all)
  have hp41 : ¬ (nth x.l k ≠ nth y.l k) := of_decide_eq_false hb41
  refine wp_skip ?_
  refine hK26 _ _ ?_
  refine wp_region_lit ?_
  refine wv h40 (r_addN (p := k) (q := 1) rfl rfl rfl (show k + 1 < 9223372036854775808 from (by omega))) rfl rfl fun a44 h44 => ?_; clear h40
  refine wms 1 h44 rfl fun a45 h45 => ?_; clear h44
  refine wpList_nil ?_
  refine x_again ⟨_, ?_, k + 1, ?_, ?_, h45.nrm ⟨rfl, rfl, rfl, rfl, trivial⟩ [0, 1] (by decide) ⟨rfl, rfl, trivial⟩, rfl⟩
  · rw [hm21]; first | omega | (simp only [lens9]; omega)
  · omega
  · intro j hj; rcases Nat.lt_or_ge j k with h | h; exact hall j h; obtain rfl : j = k := (by omega); simp_all
 have hp25 : ¬ (k < x.l.length) := of_decide_eq_false hb25
 refine wp_exit ?_
 refine hK16 _ _ ?_
 refine wp_seq_k fun K46 hK46 => wp_region_lit ?_
 refine wms 1 h23 rfl fun a47 h47 => ?_; clear h23
 refine wpList_nil (hK46 _ _ ?_)
 refine wp_ret ?_
 try simp only [Exit.then, Exit.inBlock]
 refine x_ret1 (fn := Try.f94) (t := 4) rfl h47 rfl ?_
 refine ⟨?_, (h47.sh.sel [] (by decide) trivial)⟩
 congr 1
 first | (exact (decide_eq_true (ext_nth _ _ (by omega) fun i hi => hall i (by omega))).symm) | (refine (decide_eq_false fun e => ?_).symm; simp_all)

set_option maxRecDepth 100000 in
set_option maxHeartbeats 1000000 in
theorem from1_c (x : Ls Int) (b : Nat) (ws : Ls Int) (W : World) (hx : x.At W) (hB : Blk W b 24 #[ws.v]) (hw : ws.At W) :
    Rets Try.prog 93 [x.v, .pointer (some ⟨b, 0, none⟩)] W (fun v w' => v = .bool (decide (x.l = ws.l)) ∧ Sh0 W w' []) := by
 refine x_enter (N := 7) Try.func93 rfl Try.ntmps93 (Nat.le_of_ble_eq_true rfl) fun a1 hf1 => ?_
 have h1 : St 7 (fun _ => False) W a1 W [(0, x.v), (1, .pointer (some ⟨b, 0, none⟩))] [.rblk b 24 [ws.v], .at_ x, .at_ ws] := ⟨hf1.sub ⟨rfl, rfl, trivial⟩, Sh0.ext (by intro A hA; simp at hA; rcases hA with rfl | rfl | rfl; exact hB; exact hx; exact hw) (by intro A hA b hb; simp at hA; rcases hA with rfl | rfl | rfl <;> exact hb)⟩
 clear hf1
 refine wp_seq_k fun K2 hK2 => wp_region_lit ?_
 refine wms 1 h1 rfl fun a3 h3 => ?_; clear h1
 refine wpList_nil (hK2 _ _ ?_)
 refine wp_seq_k fun K4 hK4 => wp_region_lit ?_
 refine wms 1 h3 rfl fun a5 h5 => ?_; clear h3
 refine wv h5 (r_ldbR ti_24 rfl rfl (fun w h => h.rblk 0 rfl) rfl) rfl rfl fun a6 h6 => ?_; clear h5
 refine wl_ex (x_call h6 bd_94 rfl rfl rfl rfl rfl (equal_c x ws _ (h6.sh.at 1 rfl) (h6.sh.at 2 rfl))) (wanted_none rfl _) ?_
 rintro a7 w7 ⟨_, ⟨rfl, hs7⟩, hf7⟩
 have h7 : St 7 (fun _ => False) W a7 w7 _ _ := ⟨hf7, h6.sh.call0 hs7⟩
 clear hf7 hs7
 clear h6
 refine wms 1 h7 rfl fun a8 h8 => ?_; clear h7
 refine wpList_nil (hK4 _ _ ?_)
 refine wp_ret ?_
 try simp only [Exit.then, Exit.inBlock]
 refine x_ret1 (fn := Try.f93) (t := 3) rfl h8 rfl ?_
 exact ⟨rfl, (h8.sh.sel [] (by decide) trivial)⟩

set_option maxRecDepth 100000 in
set_option maxHeartbeats 1000000 in
theorem index_c (x : Ls (Ls Int)) (b : Nat) (ws : Ls Int) (W : World) (hx : x.At W) (hB : Blk W b 24 #[ws.v]) (hw : ws.At W) :
    Rets Try.prog 116 [x.v, .func (.func 93) #[] #[.pointer (some ⟨b, 0, none⟩)]] W (fun v w' => ∃ r : Int, v = .int .i64 r ∧ (0 ≤ r ↔ (x.l.any fun s => decide (s.l = ws.l)) = true) ∧ Sh0 W w' []) := by
 refine x_enter (N := 19) Try.func116 rfl Try.ntmps116 (Nat.le_of_ble_eq_true rfl) fun a1 hf1 => ?_
 have h1 : St 19 (fun _ => False) W a1 W [(0, x.v), (1, .func (.func 93) #[] #[.pointer (some ⟨b, 0, none⟩)])] [.rblk b 24 [ws.v], .at_ x, .at_ ws] := ⟨hf1.sub ⟨rfl, rfl, trivial⟩, Sh0.ext (by intro A hA; simp at hA; rcases hA with rfl | rfl | rfl; exact hB; exact hx; exact hw) (by intro A hA b hb; simp at hA; rcases hA with rfl | rfl | rfl <;> exact hb)⟩
 clear hf1
 refine wp_seq_k fun K2 hK2 => wp_region_lit ?_
 refine wms 1 h1 rfl fun a3 h3 => ?_; clear h1
 refine wpList_nil (hK2 _ _ ?_)
 refine wp_seq_k fun K4 hK4 => ?_
 refine wp_seq_k fun K5 hK5 => wp_region_lit ?_
 refine wms 1 h3 rfl fun a6 h6 => ?_; clear h3
 have hl7 : x.l.length ≤ 140737488355328 := (h6.sh.at 1 rfl).len
 refine wv h6 (r_len (s := x) (n := x.l.length) sl_46 rfl rfl (fun w h => (h.at 1 rfl)) rfl) rfl rfl fun a8 h8 => ?_; clear h6
 refine wms 1 h8 rfl fun a9 h9 => ?_; clear h8
 refine wpList_nil (hK5 _ _ ?_)
 refine wp_block ?_
 refine x_loop (fun m a w => ∃ (k : Nat), (k ≤ x.l.length) ∧ (((x.l.take k).any fun s => decide (s.l = ws.l)) = false) ∧ St 19 (fun _ => False) W a w [(0, x.v), (1, .func (.func 93) #[] #[.pointer (some ⟨b, 0, none⟩)]), (7, .int .i64 ((x.l.length : Nat) : Int)), (8, .int .i64 ((k : Nat) : Int))] [.rblk b 24 [ws.v], .at_ x, .at_ ws] ∧ m = x.l.length - k) ⟨_, 0, (by omega), (by simp), h9.nrm ⟨rfl, rfl, rfl, rfl, trivial⟩ [0, 1, 2] (by decide) ⟨rfl, rfl, rfl, trivial⟩, rfl⟩ ?_
 clear h9
 rintro m10 a10 w10 ⟨k, hk, hno, h10, hm10⟩
 refine wp_seq_k fun K11 hK11 => wp_region_lit ?_
 refine wv h10 (r_lssN (p := k) (q := x.l.length) rfl rfl rfl) rfl rfl fun a12 h12 => ?_; clear h10
 refine wpList_nil (hK11 _ _ ?_)
 refine wp_seq_k fun K13 hK13 => ?_
 refine x_cond h12 rfl (fun hb14 => ?_) (fun hb14 => ?_)
 ·
  have hp14 : k < x.l.length := of_decide_eq_true hb14
  refine wp_skip ?_
  refine hK13 _ _ ?_
  refine wp_seq_k fun K15 hK15 => ?_
  refine wp_block ?_
  refine wp_seq_k fun K16 hK16 => wp_region_lit ?_
  refine wms 2 h12 rfl fun a17 h17 => ?_; clear h12
  refine wpList_nil (hK16 _ _ ?_)
  refine wp_seq_k fun K18 hK18 => wp_region_lit ?_
  refine wms 3 h17 rfl fun a19 h19 => ?_; clear h17
  refine wv h19 (r_ixN (s := x) (q := k) sl_46 ti_24 rfl rfl rfl (fun w h => (h.at 1 rfl)) (show k < x.l.length from (by omega))) rfl rfl fun a20 h20 => ?_; clear h19
  refine wv h20 (r_lde (s := x) (i := k) (v := (nth x.l k).v) ti_24 rfl rfl rfl (fun w h => (h.at 1 rfl)) (show k < x.l.length from (by omega)) (Nat.le_of_ble_eq_true rfl) rfl) rfl rfl fun a21 h21 => ?_; clear h20
  refine wl_ex (x_call h21 bd_93 rfl rfl rfl rfl rfl (from1_c (nth x.l k) b ws _ ((h21.sh.at 1 rfl).nth k (show k < x.l.length from (by omega))) (h21.sh.ok _ (List.mem_of_getElem? (i := 0) rfl)) (h21.sh.at 2 rfl))) (wanted_none rfl _) ?_
  rintro a22 w22 ⟨_, ⟨rfl, hs22⟩, hf22⟩
  have h22 : St 19 (fun _ => False) W a22 w22 _ _ := ⟨hf22, h21.sh.call0 hs22⟩
  clear hf22 hs22
  clear h21
  refine wpList_nil (hK18 _ _ ?_)
  refine x_cond h22 rfl (fun hb23 => ?_) (fun hb23 => ?_)
  ·
   have hp23 : (nth x.l k).l = ws.l := of_decide_eq_true hb23
   refine wp_seq_k fun K24 hK24 => wp_region_lit ?_
   refine wms 2 h22 rfl fun a25 h25 => ?_; clear h22
   refine wpList_nil (hK24 _ _ ?_)
   refine wp_ret ?_
   try simp only [Exit.then, Exit.inBlock]
   refine x_ret1 (fn := Try.f116) (t := 4) rfl h25 rfl ?_
   refine ⟨_, rfl, ?_, (h25.sh.sel [] (by decide) trivial)⟩
   first | (refine ⟨fun _ => List.any_eq_true.2 ⟨_, nth_mem x.l k (by omega), by assumption⟩, fun _ => by omega⟩) | (rw [List.take_of_length_le (by omega)] at hno; rw [hno]; constructor <;> intro h9 <;> first | omega | cases h9)
  have hp23 : ¬ ((nth x.l k).l = ws.l) := of_decide_eq_false hb23
  refine wp_skip ?_
  refine hK15 _ _ ?_
  refine wp_region_lit ?_
  refine wv h22 (r_addN (p := k) (q := 1) rfl rfl rfl (show k + 1 < 9223372036854775808 from (by omega))) rfl rfl fun a26 h26 => ?_; clear h22
  refine wms 1 h26 rfl fun a27 h27 => ?_; clear h26
  refine wpList_nil ?_
  refine x_again ⟨_, ?_, k + 1, ?_, ?_, h27.nrm ⟨rfl, rfl, rfl, rfl, trivial⟩ [0, 1, 2] (by decide) ⟨rfl, rfl, rfl, trivial⟩, rfl⟩
  · rw [hm10]; first | omega | (simp only [lens9]; omega)
  · omega
  · rw [List.take_add_one, List.any_append, hno, List.getElem?_eq_getElem (by omega)]; have h9 := (by assumption : decide ((nth x.l k).l = ws.l) = false); rw [nth_lt _ _ (by omega)] at h9; simp [h9]
 have hp14 : ¬ (k < x.l.length) := of_decide_eq_false hb14
 refine wp_exit ?_
 refine hK4 _ _ ?_
 refine wp_seq_k fun K28 hK28 => wp_region_lit ?_
 refine wms 1 h12 rfl fun a29 h29 => ?_; clear h12
 refine wpList_nil (hK28 _ _ ?_)
 refine wp_ret ?_
 try simp only [Exit.then, Exit.inBlock]
 refine x_ret1 (fn := Try.f116) (t := 4) rfl h29 rfl ?_
 refine ⟨_, rfl, ?_, (h29.sh.sel [] (by decide) trivial)⟩
 first | (refine ⟨fun _ => List.any_eq_true.2 ⟨_, nth_mem x.l k (by omega), by assumption⟩, fun _ => by omega⟩) | (rw [List.take_of_length_le (by omega)] at hno; rw [hno]; constructor <;> intro h9 <;> first | omega | cases h9)

set_option maxRecDepth 100000 in
set_option maxHeartbeats 1000000 in
theorem contains_c (x : Ls (Ls Int)) (b : Nat) (ws : Ls Int) (W : World) (hx : x.At W) (hB : Blk W b 24 #[ws.v]) (hw : ws.At W) :
    Rets Try.prog 92 [x.v, .func (.func 93) #[] #[.pointer (some ⟨b, 0, none⟩)]] W (fun v w' => v = .bool (x.l.any fun s => decide (s.l = ws.l)) ∧ Sh0 W w' []) := by
 refine x_enter (N := 9) Try.func92 rfl Try.ntmps92 (Nat.le_of_ble_eq_true rfl) fun a1 hf1 => ?_
 have h1 : St 9 (fun _ => False) W a1 W [(0, x.v), (1, .func (.func 93) #[] #[.pointer (some ⟨b, 0, none⟩)])] [.rblk b 24 [ws.v], .at_ x, .at_ ws] := ⟨hf1.sub ⟨rfl, rfl, trivial⟩, Sh0.ext (by intro A hA; simp at hA; rcases hA with rfl | rfl | rfl; exact hB; exact hx; exact hw) (by intro A hA b hb; simp at hA; rcases hA with rfl | rfl | rfl <;> exact hb)⟩
 clear hf1
 refine wp_seq_k fun K2 hK2 => wp_region_lit ?_
 refine wms 1 h1 rfl fun a3 h3 => ?_; clear h1
 refine wpList_nil (hK2 _ _ ?_)
 refine wp_seq_k fun K4 hK4 => wp_region_lit ?_
 refine wms 2 h3 rfl fun a5 h5 => ?_; clear h3
 refine wl_ex (x_call h5 bd_116 rfl rfl rfl rfl rfl (index_c x b ws _ (h5.sh.at 1 rfl) (h5.sh.ok _ (List.mem_of_getElem? (i := 0) rfl)) (h5.sh.at 2 rfl))) (wanted_none rfl _) ?_
 rintro a6 w6 ⟨_, ⟨r6, rfl, hr6, hs6⟩, hf6⟩
 have h6 : St 9 (fun _ => False) W a6 w6 _ _ := ⟨hf6, h5.sh.call0 hs6⟩
 clear hf6 hs6
 clear h5
 refine wv h6 (r_geqI (p := r6) (q := 0) rfl rfl rfl) rfl rfl fun a7 h7 => ?_; clear h6
 refine wms 1 h7 rfl fun a8 h8 => ?_; clear h7
 refine wpList_nil (hK4 _ _ ?_)
 refine wp_ret ?_
 try simp only [Exit.then, Exit.inBlock]
 refine x_ret1 (fn := Try.f92) (t := 4) rfl h8 rfl ?_
 refine ⟨?_, (h8.sh.sel [] (by decide) trivial)⟩
 congr 1
 rw [Bool.eq_iff_iff, decide_eq_true_eq]
 exact hr6

end Go.Proofs.Ytanhbpofhebbaaa
