/-
  Contracts of functions of this program and of the references, each walked once.
-/
import Derived.Test.YtanhbpofhebbaaaX0
namespace Go.Proofs.Ytanhbpofhebbaaa
open Go.RowKit
set_option linter.unusedSimpArgs false
set_option linter.unusedVariables false


theorem opB3 (a b c : Bool) : (bif a then true else bif b then true else c) = (a || b || c) := by cases a <;> cases b <;> rfl
/-- The first thread that has too many orders; -1: none. -/
def LongIs (code : List (List Ins)) (n : Int) : Prop := (∃ k : Nat, n = k ∧ k < code.length ∧ 400 < (nth code k).length ∧ ∀ j, j < k → (nth code j).length ≤ 400) ∨ (n = -1 ∧ ∀ j, j < code.length → (nth code j).length ≤ 400)
def waitsB (op : Int) : Bool := decide (op = 9 ∨ op = 11 ∨ op = 18)

set_option maxRecDepth 100000 in
set_option maxHeartbeats 1000000 in
theorem rWaits_c (op : Int) (W : World) :
    Rets Try.prog 91 [.int .i64 op] W (fun v w' => v = .bool (waitsB op) ∧ Sh0 W w' []) := by
 refine x_enter (N := 13) Try.func91 rfl Try.ntmps91 (Nat.le_of_ble_eq_true rfl) fun a1 hf1 => ?_
 have h1 : St 13 (fun _ => False) W a1 W [(0, .int .i64 op)] [] := ⟨hf1.sub ⟨rfl, trivial⟩, Sh0.start _⟩
 clear hf1
 refine wp_seq_k fun K2 hK2 => wp_region_lit <| wms 1 h1 rfl fun a3 h3 => wpList_nil <| hK2 _ _ <| wp_seq_k fun K4 hK4 => wp_region_lit <| wms 1 h3 rfl fun a5 h5 => wv h5 (r_eqlI (p := op) (q := 9) rfl rfl rfl) rfl rfl fun a6 h6 => wms 1 h6 rfl fun a7 h7 => ?_; clear h1 h3 h5 h6
 rcases Bool.eq_false_or_eq_true (decide (op = 9)) with hb8 | hb8
 ·
  have hp8 : op = 9 := of_decide_eq_true hb8
  refine wl_skip h7 (wanted_no h7.fr rfl rfl rfl rfl hb8) rfl rfl fun a9 h9 => wl_skip h9 (wanted_no h9.fr rfl rfl rfl rfl hb8) rfl rfl fun a10 h10 => wv h10 (r_pickT rfl rfl hb8 rfl) rfl rfl fun a11 h11 => wms 1 h11 rfl fun a12 h12 => wl_skip h12 (wanted_no h12.fr rfl rfl rfl rfl rfl) rfl rfl fun a13 h13 => wl_skip h13 (wanted_no h13.fr rfl rfl rfl rfl rfl) rfl rfl fun a14 h14 => wv h14 (r_pickT rfl rfl rfl rfl) rfl rfl fun a15 h15 => wms 1 h15 rfl fun a16 h16 => wpList_nil <| hK4 _ _ <| wp_ret ?_; clear h7 h9 h10 h11 h12 h13 h14 h15
  try simp only [Exit.then, Exit.inBlock]
  refine x_ret1 (fn := Try.f91) (t := 2) rfl h16 rfl <| ⟨?_, (h16.sh.sel [] (by decide) trivial)⟩
  congr 1; unfold waitsB; simp_all
 have hp8 : ¬ (op = 9) := of_decide_eq_false hb8
 refine wl_val h7 (r_move rfl rfl) (wanted_yes h7.fr rfl rfl rfl rfl hb8) rfl rfl fun a17 h17 => wl_val h17 (r_eqlI (p := op) (q := 11) rfl rfl rfl) (wanted_yes h17.fr rfl rfl rfl rfl hb8) rfl rfl fun a18 h18 => wv h18 (r_pickF rfl rfl hb8 rfl) rfl rfl fun a19 h19 => wms 1 h19 rfl fun a20 h20 => ?_; clear h7 h17 h18 h19
 rcases Bool.eq_false_or_eq_true (decide (op = 11)) with hb21 | hb21
 ·
  have hp21 : op = 11 := of_decide_eq_true hb21
  refine wl_skip h20 (wanted_no h20.fr rfl rfl rfl rfl hb21) rfl rfl fun a22 h22 => wl_skip h22 (wanted_no h22.fr rfl rfl rfl rfl hb21) rfl rfl fun a23 h23 => wv h23 (r_pickT rfl rfl hb21 rfl) rfl rfl fun a24 h24 => wms 1 h24 rfl fun a25 h25 => wpList_nil <| hK4 _ _ <| wp_ret ?_; clear h20 h22 h23 h24
  try simp only [Exit.then, Exit.inBlock]
  refine x_ret1 (fn := Try.f91) (t := 2) rfl h25 rfl <| ⟨?_, (h25.sh.sel [] (by decide) trivial)⟩
  congr 1; unfold waitsB; simp_all
 have hp21 : ¬ (op = 11) := of_decide_eq_false hb21
 refine wl_val h20 (r_move rfl rfl) (wanted_yes h20.fr rfl rfl rfl rfl hb21) rfl rfl fun a26 h26 => wl_val h26 (r_eqlI (p := op) (q := 18) rfl rfl rfl) (wanted_yes h26.fr rfl rfl rfl rfl hb21) rfl rfl fun a27 h27 => wv h27 (r_pickF rfl rfl hb21 rfl) rfl rfl fun a28 h28 => wms 1 h28 rfl fun a29 h29 => wpList_nil <| hK4 _ _ <| wp_ret ?_; clear h20 h26 h27 h28
 try simp only [Exit.then, Exit.inBlock]
 refine x_ret1 (fn := Try.f91) (t := 2) rfl h29 rfl <| ⟨?_, (h29.sh.sel [] (by decide) trivial)⟩
 congr 1; unfold waitsB; simp_all

set_option maxRecDepth 100000 in
set_option maxHeartbeats 1000000 in
theorem waits_c (op : Int) (W : World) :
    Rets Try.prog 66 [.int .i64 op] W (fun v w' => v = .bool (waitsB op) ∧ Sh0 W w' []) := by
 refine x_enter (N := 13) Try.func66 rfl Try.ntmps66 (Nat.le_of_ble_eq_true rfl) fun a1 hf1 => ?_
 have h1 : St 13 (fun _ => False) W a1 W [(0, .int .i64 op)] [] := ⟨hf1.sub ⟨rfl, trivial⟩, Sh0.start _⟩
 clear hf1
 refine wp_seq_k fun K2 hK2 => wp_region_lit <| wms 1 h1 rfl fun a3 h3 => wpList_nil <| hK2 _ _ <| wp_seq_k fun K4 hK4 => wp_region_lit <| wms 1 h3 rfl fun a5 h5 => wv h5 (r_eqlI (p := op) (q := 9) rfl rfl rfl) rfl rfl fun a6 h6 => wms 1 h6 rfl fun a7 h7 => ?_; clear h1 h3 h5 h6
 rcases Bool.eq_false_or_eq_true (decide (op = 9)) with hb8 | hb8
 ·
  have hp8 : op = 9 := of_decide_eq_true hb8
  refine wl_skip h7 (wanted_no h7.fr rfl rfl rfl rfl hb8) rfl rfl fun a9 h9 => wl_skip h9 (wanted_no h9.fr rfl rfl rfl rfl hb8) rfl rfl fun a10 h10 => wv h10 (r_pickT rfl rfl hb8 rfl) rfl rfl fun a11 h11 => wms 1 h11 rfl fun a12 h12 => wl_skip h12 (wanted_no h12.fr rfl rfl rfl rfl rfl) rfl rfl fun a13 h13 => wl_skip h13 (wanted_no h13.fr rfl rfl rfl rfl rfl) rfl rfl fun a14 h14 => wv h14 (r_pickT rfl rfl rfl rfl) rfl rfl fun a15 h15 => wms 1 h15 rfl fun a16 h16 => wpList_nil <| hK4 _ _ <| wp_ret ?_; clear h7 h9 h10 h11 h12 h13 h14 h15
  try simp only [Exit.then, Exit.inBlock]
  refine x_ret1 (fn := Try.f66) (t := 2) rfl h16 rfl <| ⟨?_, (h16.sh.sel [] (by decide) trivial)⟩
  congr 1; unfold waitsB; simp_all
 have hp8 : ¬ (op = 9) := of_decide_eq_false hb8
 refine wl_val h7 (r_move rfl rfl) (wanted_yes h7.fr rfl rfl rfl rfl hb8) rfl rfl fun a17 h17 => wl_val h17 (r_eqlI (p := op) (q := 11) rfl rfl rfl) (wanted_yes h17.fr rfl rfl rfl rfl hb8) rfl rfl fun a18 h18 => wv h18 (r_pickF rfl rfl hb8 rfl) rfl rfl fun a19 h19 => wms 1 h19 rfl fun a20 h20 => ?_; clear h7 h17 h18 h19
 rcases Bool.eq_false_or_eq_true (decide (op = 11)) with hb21 | hb21
 ·
  have hp21 : op = 11 := of_decide_eq_true hb21
  refine wl_skip h20 (wanted_no h20.fr rfl rfl rfl rfl hb21) rfl rfl fun a22 h22 => wl_skip h22 (wanted_no h22.fr rfl rfl rfl rfl hb21) rfl rfl fun a23 h23 => wv h23 (r_pickT rfl rfl hb21 rfl) rfl rfl fun a24 h24 => wms 1 h24 rfl fun a25 h25 => wpList_nil <| hK4 _ _ <| wp_ret ?_; clear h20 h22 h23 h24
  try simp only [Exit.then, Exit.inBlock]
  refine x_ret1 (fn := Try.f66) (t := 2) rfl h25 rfl <| ⟨?_, (h25.sh.sel [] (by decide) trivial)⟩
  congr 1; unfold waitsB; simp_all
 have hp21 : ¬ (op = 11) := of_decide_eq_false hb21
 refine wl_val h20 (r_move rfl rfl) (wanted_yes h20.fr rfl rfl rfl rfl hb21) rfl rfl fun a26 h26 => wl_val h26 (r_eqlI (p := op) (q := 18) rfl rfl rfl) (wanted_yes h26.fr rfl rfl rfl rfl hb21) rfl rfl fun a27 h27 => wv h27 (r_pickF rfl rfl hb21 rfl) rfl rfl fun a28 h28 => wms 1 h28 rfl fun a29 h29 => wpList_nil <| hK4 _ _ <| wp_ret ?_; clear h20 h26 h27 h28
 try simp only [Exit.then, Exit.inBlock]
 refine x_ret1 (fn := Try.f66) (t := 2) rfl h29 rfl <| ⟨?_, (h29.sh.sel [] (by decide) trivial)⟩
 congr 1; unfold waitsB; simp_all

set_option maxRecDepth 100000 in
set_option maxHeartbeats 1000000 in
theorem rLong_c (code : Ls (Ls Ins)) (words : Ls Int) (locks regs : Int) (W : World) (hcode : code.At W) (hwords : words.At W) :
    Rets Try.prog 50 [.agg #[code.v, words.v, .int .i64 locks, .int .i64 regs]] W (fun v w' => ∃ n : Int, v = .int .i64 n ∧ LongIs (code.l.map (·.l)) n ∧ Sh0 W w' []) := by
 refine x_enter (N := 19) Try.func50 rfl Try.ntmps50 (Nat.le_of_ble_eq_true rfl) fun a1 hf1 => ?_
 have h1 : St 19 (fun _ => False) W a1 W [(0, .agg #[code.v, words.v, .int .i64 locks, .int .i64 regs])] [.at_ code, .at_ words] := ⟨hf1.sub ⟨rfl, trivial⟩, Sh0.ext2 hcode hwords⟩
 clear hf1
 refine wp_seq_k fun K2 hK2 => wp_region_lit <| wl_ex (x_box (cs := [code.v, words.v, .int .i64 locks, .int .i64 regs]) h1 rfl rfl rfl rfl rfl) (wanted_none rfl _) ?_
 rintro a3 w3 ⟨b3, h3⟩; clear h1
 refine wms 1 h3 rfl fun a4 h4 => wpList_nil <| hK2 _ _ <| wp_seq_k fun K5 hK5 => wp_seq_k fun K6 hK6 => wp_region_lit <| wms 1 h4 rfl fun a7 h7 => wpList_nil <| hK6 _ _ <| wp_block <| x_loop (fun m a w => ∃ (k : Nat), (k ≤ code.l.length) ∧ (∀ j, j < k → (nth code.l j).l.length ≤ 400) ∧ St 19 (fun _ => False) W a w [(1, .pointer (some ⟨b3, 0, none⟩)), (3, .int .i64 ((k : Nat) : Int))] [.blk b3 28 [code.v, words.v, .int .i64 locks, .int .i64 regs], .at_ code, .at_ words] ∧ m = code.l.length - k) ⟨_, 0, (by omega), (fun j hj => absurd hj (by omega)), h7.nrm ⟨rfl, rfl, trivial⟩ [0, 1, 2] (by decide) ⟨rfl, rfl, rfl, trivial⟩, rfl⟩ ?_; clear h3 h4
 clear h7
 rintro m8 a8 w8 ⟨k, hk, hall, h8, hm8⟩
 refine wp_seq_k fun K9 hK9 => wp_seq_k fun K10 hK10 => wp_region_lit <| wms 1 h8 rfl fun a11 h11 => wv h11 (r_fieldB (r := 0) fl_28_0 rfl rfl rfl) rfl rfl fun a12 h12 => wv h12 (r_ldb (i := 0) ti_26 rfl rfl rfl rfl) rfl rfl fun a13 h13 => ?_; clear h8 h11 h12
 have hl14 : code.l.length ≤ 140737488355328 := (h13.sh.at 1 rfl).len
 refine wv h13 (r_len (s := code) (n := code.l.length) sl_26 rfl rfl (fun w h => (h.at 1 rfl)) rfl) rfl rfl fun a15 h15 => wv h15 (r_lssN (p := k) (q := code.l.length) rfl rfl rfl) rfl rfl fun a16 h16 => wpList_nil <| hK10 _ _ <| x_cond h16 rfl (fun hb17 => ?_) (fun hb17 => ?_); clear h13 h15
 ·
  have hp17 : k < code.l.length := of_decide_eq_true hb17
  refine wp_skip <| hK9 _ _ <| wp_seq_k fun K18 hK18 => wp_block <| wp_seq_k fun K19 hK19 => wp_region_lit <| wv h16 (r_fieldB (r := 0) fl_28_0 rfl rfl rfl) rfl rfl fun a20 h20 => wv h20 (r_ldb (i := 0) ti_26 rfl rfl rfl rfl) rfl rfl fun a21 h21 => wms 1 h21 rfl fun a22 h22 => wv h22 (r_ixN (s := code) (q := k) sl_26 ti_64 rfl rfl rfl (fun w h => (h.at 1 rfl)) (show k < code.l.length from (by omega))) rfl rfl fun a23 h23 => wv h23 (r_lde (s := code) (i := k) (v := (nth code.l k).v) ti_64 rfl rfl rfl (fun w h => (h.at 1 rfl)) (show k < code.l.length from (by omega)) (Nat.le_of_ble_eq_true rfl) rfl) rfl rfl fun a24 h24 => ?_; clear h16 h20 h21 h22 h23
  have hl25 : ((nth code.l k).l).length ≤ 140737488355328 := ((h24.sh.at 1 rfl).nth k (show k < code.l.length from (by omega))).len
  refine wv h24 (r_len (s := nth code.l k) (n := ((nth code.l k).l).length) sl_64 rfl rfl (fun w h => ((h.at 1 rfl).nth k (show k < code.l.length from (by omega)))) rfl) rfl rfl fun a26 h26 => wv h26 (r_gtrN (p := ((nth code.l k).l).length) (q := 400) rfl rfl rfl) rfl rfl fun a27 h27 => wpList_nil <| hK19 _ _ <| x_cond h27 rfl (fun hb28 => ?_) (fun hb28 => ?_); clear h24 h26
  ·
   have hp28 : 400 < ((nth code.l k).l).length := of_decide_eq_true hb28
   refine wp_seq_k fun K29 hK29 => wp_region_lit <| wms 2 h27 rfl fun a30 h30 => wpList_nil <| hK29 _ _ <| wp_ret ?_; clear h27
   try simp only [Exit.then, Exit.inBlock]
   refine x_ret1 (fn := Try.f50) (t := 2) rfl h30 rfl <| ⟨_, rfl, ?_, (h30.sh.sel [] (by decide) trivial)⟩
   have hm : ∀ j, j < code.l.length → nth (code.l.map (·.l)) j = (nth code.l j).l := fun j hj => by simp [nth, hj]
   unfold LongIs
   first | (left; exact ⟨k, rfl, by simp; omega, by rw [hm _ (by omega)]; omega, fun j hj => by rw [hm _ (by omega)]; exact hall j hj⟩) | (right; exact ⟨rfl, fun j hj => by simp at hj; rw [hm _ (by omega)]; exact hall j (by omega)⟩)
  have hp28 : ¬ (400 < ((nth code.l k).l).length) := of_decide_eq_false hb28
  refine wp_skip <| hK18 _ _ <| wp_region_lit <| wms 1 h27 rfl fun a31 h31 => wv h31 (r_addN (p := k) (q := 1) rfl rfl rfl (show k + 1 < 9223372036854775808 from (by omega))) rfl rfl fun a32 h32 => wms 1 h32 rfl fun a33 h33 => wpList_nil <| x_again ⟨_, ?_, k + 1, ?_, ?_, h33.nrm ⟨rfl, rfl, trivial⟩ [0, 1, 2] (by decide) ⟨rfl, rfl, rfl, trivial⟩, rfl⟩; clear h27 h31 h32
  · rw [hm8]; first | omega | (simp only [lens9]; omega)
  · omega
  · intro j hj; rcases Nat.lt_or_ge j k with h | h; exact hall j h; obtain rfl : j = k := (by omega); omega
 have hp17 : ¬ (k < code.l.length) := of_decide_eq_false hb17
 refine wp_exit <| hK5 _ _ <| wp_seq_k fun K34 hK34 => wp_region_lit <| wms 1 h16 rfl fun a35 h35 => wpList_nil <| hK34 _ _ <| wp_ret ?_; clear h16
 try simp only [Exit.then, Exit.inBlock]
 refine x_ret1 (fn := Try.f50) (t := 2) rfl h35 rfl <| ⟨_, rfl, ?_, (h35.sh.sel [] (by decide) trivial)⟩
 have hm : ∀ j, j < code.l.length → nth (code.l.map (·.l)) j = (nth code.l j).l := fun j hj => by simp [nth, hj]
 unfold LongIs
 first | (left; exact ⟨k, rfl, by simp; omega, by rw [hm _ (by omega)]; omega, fun j hj => by rw [hm _ (by omega)]; exact hall j hj⟩) | (right; exact ⟨rfl, fun j hj => by simp at hj; rw [hm _ (by omega)]; exact hall j (by omega)⟩)

end Go.Proofs.Ytanhbpofhebbaaa
