/-
  The memory in which stores wait loosely does as the document says; runs of the program in it.
-/
import Derived.Test.YtfpaahkleienoaaX70
import Derived.Test.YtfpaahkleienoaaS29
namespace Go.Proofs.Ytfpaahkleienoaa
open Go.RowKit
set_option linter.unusedSimpArgs false
set_option linter.unusedVariables false


theorem ms_277 : MapTS Try.prog 277 3 4 := ⟨by kernel_rfl, by kernel_rfl, fun w => by kernel_rfl⟩
/-- What may be next among what waits. -/
def psoR (l : List Wt) (n : Nat) : List Int := ((List.range n).filter (mayK 2 l)).map (fun k => ((k : Nat) : Int))
theorem psoR_succ (l : List Wt) (n : Nat) : psoR l (n + 1) = psoR l n ++ (if mayK 2 l n = true then [((n : Nat) : Int)] else []) := by
  unfold psoR
  rw [List.range_succ, List.filter_append, List.map_append]
  congr 1
  cases h : mayK 2 l n <;> simp [h]
theorem mayK2 (l : List Wt) (k : Nat) : mayK 2 l k = true ↔ k = 0 ∨ ((nth l k).lock = false ∧ ∀ i, i < k → (nth l i).lock = false ∧ (nth l i).wh ≠ (nth l k).wh) := by
  unfold mayK
  simp only [Bool.or_eq_true, Bool.and_eq_true, Bool.not_eq_true', decide_eq_true_eq, List.all_eq_true, List.mem_range, Bool.or_eq_false_iff, decide_eq_false_iff_not]
  constructor
  · rintro (h | ⟨h1, h2⟩)
    · exact .inl h
    · exact .inr ⟨h1.2, h2⟩
  · rintro (h | ⟨h1, h2⟩)
    · exact .inl h
    · exact .inr ⟨⟨by decide, h1⟩, h2⟩
theorem psoR_yes {l : List Wt} {n : Nat} {sn rd : List Int} (hrd : rd = psoR l n) (hlk : ∀ i, i < n → (nth l i).lock = false) (hsn : ∀ x, x ∈ sn ↔ ∃ i, i < n ∧ (nth l i).wh = x) (h1 : (nth l n).lock = false) (h2 : ¬ (nth l n).wh ∈ sn) : rd ++ [((n : Nat) : Int)] = psoR l (n + 1) := by
  rw [psoR_succ, if_pos ((mayK2 l n).2 (.inr ⟨h1, fun i hi => ⟨hlk i hi, fun e => h2 ((hsn _).2 ⟨i, hi, e⟩)⟩⟩)), hrd]
theorem psoR_no {l : List Wt} {n : Nat} {sn rd : List Int} (hrd : rd = psoR l n) (hsn : ∀ x, x ∈ sn ↔ ∃ i, i < n ∧ (nth l i).wh = x) (h2 : (nth l n).wh ∈ sn) : rd = psoR l (n + 1) := by
  obtain ⟨i, hi, e⟩ := (hsn _).1 h2
  rw [psoR_succ, if_neg (fun h => ?_), List.append_nil, hrd]
  rcases (mayK2 l n).1 h with h | ⟨_, h⟩
  · omega
  · exact (h i hi).2 e
theorem psoR_end {l : List Wt} {n : Nat} (h : (nth l n).lock = true) : ∀ k, psoR l (n + 1 + k) = psoR l n ++ (if n = 0 then [0] else [])
  | 0 => by
    rw [Nat.add_zero, psoR_succ]
    congr 1
    by_cases h0 : n = 0
    · subst h0; rw [if_pos ((mayK2 l 0).2 (.inl rfl)), if_pos rfl]; rfl
    · rw [if_neg h0, if_neg]
      intro h9
      rcases (mayK2 l n).1 h9 with h9 | ⟨h9, _⟩
      · exact h0 h9
      · rw [h] at h9; cases h9
  | k + 1 => by
    rw [← Nat.add_assoc, psoR_succ, psoR_end h k, if_neg (c := mayK 2 l (n + 1 + k) = true), List.append_nil]
    intro h9
    rcases (mayK2 l (n + 1 + k)).1 h9 with h9 | ⟨_, h9⟩
    · omega
    · have := (h9 n (by omega)).1; rw [h] at this; cases this
theorem psoR_lock0 {l : List Wt} {n : Nat} {rd : List Int} (hrd : rd = psoR l n) (hn : n < l.length) (h : (nth l n).lock = true) (h0 : n = 0) : rd ++ [((n : Nat) : Int)] = psoR l l.length := by
  have := psoR_end h (l.length - (n + 1))
  rw [show n + 1 + (l.length - (n + 1)) = l.length by omega, if_pos h0, ← hrd] at this
  rw [this, h0]; rfl
theorem psoR_lock {l : List Wt} {n : Nat} {rd : List Int} (hrd : rd = psoR l n) (hn : n < l.length) (h : (nth l n).lock = true) (h0 : ¬ n = 0) : rd = psoR l l.length := by
  have := psoR_end h (l.length - (n + 1))
  rw [show n + 1 + (l.length - (n + 1)) = l.length by omega, if_neg h0, ← hrd, List.append_nil] at this
  exact this.symm
theorem psoR_len (l : List Wt) (n : Nat) : (psoR l n).length ≤ n := by
  unfold psoR
  rw [List.length_map]
  exact Nat.le_trans (List.length_filter_le _ _) (by simp)
theorem sn_step {l : List Wt} {n : Nat} {sn : List Int} (hsn : ∀ x, x ∈ sn ↔ ∃ i, i < n ∧ (nth l i).wh = x) : ∀ x, x ∈ (if (nth l n).wh ∈ sn then sn else sn ++ [(nth l n).wh]) ↔ ∃ i, i < n + 1 ∧ (nth l i).wh = x := by
  intro x
  have h1 : (∃ i, i < n + 1 ∧ (nth l i).wh = x) ↔ (∃ i, i < n ∧ (nth l i).wh = x) ∨ (nth l n).wh = x := by
    constructor
    · rintro ⟨i, hi, e⟩
      rcases Nat.lt_or_eq_of_le (Nat.le_of_lt_succ hi) with h | h
      · exact .inl ⟨i, h, e⟩
      · subst h; exact .inr e
    · rintro (⟨i, hi, e⟩ | e)
      · exact ⟨i, by omega, e⟩
      · exact ⟨n, by omega, e⟩
  rw [h1, ← hsn]
  split
  · rename_i h
    exact ⟨.inl, fun h2 => h2.elim id fun e => e ▸ h⟩
  · rw [List.mem_append, List.mem_singleton, eq_comm (a := x)]
theorem lk_step {l : List Wt} {n : Nat} (hlk : ∀ i, i < n → (nth l i).lock = false) (h : (nth l n).lock = false) : ∀ i, i < n + 1 → (nth l i).lock = false := fun i hi => by
  rcases Nat.lt_or_eq_of_le (Nat.le_of_lt_succ hi) with h3 | h3
  · exact hlk i h3
  · subst h3; exact h

set_option maxRecDepth 100000 in
set_option maxHeartbeats 1000000 in
theorem tbWaiting_c (g1 g0 : Nat) (wait : Ls (Ls Wt)) (t k : Nat) (W : World) (hB : Blk W g1 214 #[.pointer (some ⟨g0, 0, none⟩), wait.v]) (hw : wait.At W) (ht : t < wait.l.length) (hk : k < (nth wait.l t).l.length) :
    Rets Try.prog 207 [.pointer (some ⟨g1, 0, none⟩), .int .i64 ((t : Nat) : Int), .int .i64 ((k : Nat) : Int)] W (fun v w' => v = .tuple #[.int .i64 (nth (nth wait.l t).l k).wh, .bool (nth (nth wait.l t).l k).lock] ∧ Sh0 W w' []) := by
 refine x_enter (N := 30) Try.func207 rfl Try.ntmps207 (Nat.le_of_ble_eq_true rfl) fun a1 hf1 => ?_
 have h1 : St 30 (fun _ => False) W a1 W [(0, .pointer (some ⟨g1, 0, none⟩)), (1, .int .i64 ((t : Nat) : Int)), (2, .int .i64 ((k : Nat) : Int))] [.rblk g1 214 [.pointer (some ⟨g0, 0, none⟩), wait.v], .at_ wait] := ⟨hf1.sub ⟨rfl, rfl, rfl, trivial⟩, Sh0.ext (by intro A hA; simp only [List.mem_cons, List.not_mem_nil, or_false] at hA; rcases hA with rfl | rfl; exact hB; exact hw) (by intro A hA b hb; simp only [List.mem_cons, List.not_mem_nil, or_false] at hA; rcases hA with rfl | rfl <;> exact hb)⟩
 clear hf1
 refine wp_seq_k fun K2 hK2 => wp_region_lit <| wms 2 h1 rfl fun a3 h3 => wpList_nil <| hK2 _ _ <| wp_seq_k fun K4 hK4 => x_quiet (by kernel_rfl) (by kernel_rfl) h3 fun Z5 hZ5 => ?_; clear h1
 have hq5 := h3.fr
 refine wq_val hq5 (r_move rfl rfl) (wanted_none rfl _) rfl rfl fun a6 hq6 => wq_val hq6 (r_nil rfl rfl) (wanted_none rfl _) rfl rfl fun a7 hq7 => wq_val hq7 (r_fieldB (r := 1) fl_214_1 rfl rfl rfl) (wanted_none rfl _) rfl rfl fun a8 hq8 => wq_val hq8 (r_ldbR ti_212 rfl rfl (fun w h => h.rblk 0 rfl) rfl) (wanted_none rfl _) rfl rfl fun a9 hq9 => wq_val hq9 (r_move rfl rfl) (wanted_none rfl _) rfl rfl fun a10 hq10 => ?_; clear hq5 hq6 hq7 hq8 hq9
 have hl11 : wait.l.length ≤ 140737488355328 := (h3.sh.at 1 rfl).len
 refine wq_val hq10 (r_ixN (s := wait) (q := t) sl_212 ti_268 rfl rfl rfl (fun w h => (h.at 1 rfl)) (show t < wait.l.length from (by omega))) (wanted_none rfl _) rfl rfl fun a12 hq12 => wq_val hq12 (r_lde (s := wait) (i := t) (v := (nth wait.l t).v) ti_268 rfl rfl rfl (fun w h => (h.at 1 rfl)) (show t < wait.l.length from (by omega)) (Nat.le_of_ble_eq_true rfl) rfl) (wanted_none rfl _) rfl rfl fun a13 hq13 => wq_val hq13 (r_move rfl rfl) (wanted_none rfl _) rfl rfl fun a14 hq14 => ?_; clear hq10 hq12 hq13
 have hl15 : ((nth wait.l t).l).length ≤ 140737488355328 := ((h3.sh.at 1 rfl).nth t (show t < wait.l.length from (by omega))).len
 refine wq_val hq14 (r_ixN (s := nth wait.l t) (q := k) sl_268 ti_267 rfl rfl rfl (fun w h => ((h.at 1 rfl).nth t (show t < wait.l.length from (by omega)))) (show k < ((nth wait.l t).l).length from (by omega))) (wanted_none rfl _) rfl rfl fun a16 hq16 => wq_val hq16 (r_fieldE (r := 1) fl_267_1 rfl rfl rfl) (wanted_none rfl _) rfl rfl fun a17 hq17 => wq_val hq17 (r_lde (s := nth wait.l t) (i := k) (v := .int .i64 ((nth ((nth wait.l t).l) k).wh)) ti_3 rfl rfl rfl (fun w h => ((h.at 1 rfl).nth t (show t < wait.l.length from (by omega)))) (show k < ((nth wait.l t).l).length from (by omega)) (Nat.le_of_ble_eq_true rfl) rfl) (wanted_none rfl _) rfl rfl fun a18 hq18 => wq_val hq18 (r_move rfl rfl) (wanted_none rfl _) rfl rfl fun a19 hq19 => wq_val hq19 (r_nil rfl rfl) (wanted_none rfl _) rfl rfl fun a20 hq20 => wq_val hq20 (r_fieldB (r := 1) fl_214_1 rfl rfl rfl) (wanted_none rfl _) rfl rfl fun a21 hq21 => wq_val hq21 (r_ldbR ti_212 rfl rfl (fun w h => h.rblk 0 rfl) rfl) (wanted_none rfl _) rfl rfl fun a22 hq22 => wq_val hq22 (r_move rfl rfl) (wanted_none rfl _) rfl rfl fun a23 hq23 => wq_val hq23 (r_ixN (s := wait) (q := t) sl_212 ti_268 rfl rfl rfl (fun w h => (h.at 1 rfl)) (show t < wait.l.length from (by omega))) (wanted_none rfl _) rfl rfl fun a24 hq24 => wq_val hq24 (r_lde (s := wait) (i := t) (v := (nth wait.l t).v) ti_268 rfl rfl rfl (fun w h => (h.at 1 rfl)) (show t < wait.l.length from (by omega)) (Nat.le_of_ble_eq_true rfl) rfl) (wanted_none rfl _) rfl rfl fun a25 hq25 => wq_val hq25 (r_move rfl rfl) (wanted_none rfl _) rfl rfl fun a26 hq26 => wq_val hq26 (r_ixN (s := nth wait.l t) (q := k) sl_268 ti_267 rfl rfl rfl (fun w h => ((h.at 1 rfl).nth t (show t < wait.l.length from (by omega)))) (show k < ((nth wait.l t).l).length from (by omega))) (wanted_none rfl _) rfl rfl fun a27 hq27 => wq_val hq27 (r_fieldE (r := 0) fl_267_0 rfl rfl rfl) (wanted_none rfl _) rfl rfl fun a28 hq28 => wq_val hq28 (r_lde (s := nth wait.l t) (i := k) (v := .bool ((nth ((nth wait.l t).l) k).lock)) ti_4 rfl rfl rfl (fun w h => ((h.at 1 rfl).nth t (show t < wait.l.length from (by omega)))) (show k < ((nth wait.l t).l).length from (by omega)) (Nat.le_of_ble_eq_true rfl) rfl) (wanted_none rfl _) rfl rfl fun a29 hq29 => ?_; clear hq14 hq16 hq17 hq18 hq19 hq20 hq21 hq22 hq23 hq24 hq25 hq26 hq27 hq28
 refine wq_val hq29 (r_assign rfl rfl) (wanted_none rfl _) rfl rfl fun a30 hq30 => wq_val hq30 (r_assign rfl rfl) (wanted_none rfl _) rfl rfl fun a31 hq31 => wpQuiet_nil (hZ5 _ fun w32 hw32 => ?_); clear hq29 hq30
 have h32 : St 30 (fun _ => False) W a31 w32 _ _ := ⟨hq31, hw32⟩
 clear hq31 hw32 h3
 refine hK4 _ _ ?_
 have h33 : St 30 (fun _ => False) W a31 w32 [(6, .int .i64 ((nth ((nth wait.l t).l) k).wh)), (7, .bool ((nth ((nth wait.l t).l) k).lock))] [.rblk g1 214 [.pointer (some ⟨g0, 0, none⟩), wait.v], .at_ wait] := h32.nrm ⟨rfl, rfl, trivial⟩ [0, 1] (by decide) ⟨rfl, rfl, trivial⟩
 clear h32
 refine wp_ret ?_
 try simp only [Exit.then, Exit.inBlock]
 refine x_ret2 (fn := Try.f207) (t := 6) (u := 7) rfl h33 rfl rfl ?_
 exact ⟨rfl, (h33.sh.sel [] (by decide) trivial)⟩

set_option maxRecDepth 100000 in
set_option maxHeartbeats 4000000 in
theorem psReady_c (g2 g1 g0 : Nat) (wait : Ls (Ls Wt)) (t : Nat) (W : World) (hL : Blk W g2 217 #[.pointer (some ⟨g1, 0, none⟩)]) (hB : Blk W g1 214 #[.pointer (some ⟨g0, 0, none⟩), wait.v]) (hw : wait.At W) (ht : t < wait.l.length) (hl3 : (nth wait.l t).l.length ≤ 3) :
    Rets Try.prog 205 [.pointer (some ⟨g2, 0, none⟩), .int .i64 ((t : Nat) : Int)] W (fun v w' => ∃ s : Ls Int, v = s.v ∧ s.l = psoR (nth wait.l t).l (nth wait.l t).l.length ∧ Sh0 W w' [.own 3 s]) := by
 refine x_enter (N := 55) Try.func205 rfl Try.ntmps205 (Nat.le_of_ble_eq_true rfl) fun a1 hf1 => ?_
 have h1 : St 55 (fun _ => False) W a1 W [(0, .pointer (some ⟨g2, 0, none⟩)), (1, .int .i64 ((t : Nat) : Int))] [.rblk g2 217 [.pointer (some ⟨g1, 0, none⟩)], .rblk g1 214 [.pointer (some ⟨g0, 0, none⟩), wait.v], .at_ wait] := ⟨hf1.sub ⟨rfl, rfl, trivial⟩, Sh0.ext (by intro A hA; simp only [List.mem_cons, List.not_mem_nil, or_false] at hA; rcases hA with rfl | rfl | rfl; exact hL; exact hB; exact hw) (by intro A hA b hb; simp only [List.mem_cons, List.not_mem_nil, or_false] at hA; rcases hA with rfl | rfl | rfl <;> exact hb)⟩
 clear hf1
 refine wp_seq_k fun K2 hK2 => wp_region_lit <| wms 1 h1 rfl fun a3 h3 => wpList_nil <| hK2 _ _ <| wp_seq_k fun K4 hK4 => wp_region_lit <| wms 1 h3 rfl fun a5 h5 => wpList_nil <| hK4 _ _ <| wp_seq_k fun K6 hK6 => wp_region_lit <| wl_ex (x_makeS h5 rfl rfl rfl) (wanted_none rfl _) ?_; clear h1 h3
 rintro a7 w7 ⟨g7, h7⟩; clear h5
 refine wms 1 h7 rfl fun a8 h8 => wpList_nil <| hK6 _ _ <| wp_seq_k fun K9 hK9 => wp_seq_k fun K10 hK10 => wp_region_lit <| wms 1 h8 rfl fun a11 h11 => wv h11 (r_nil rfl rfl) rfl rfl fun a12 h12 => wv h12 (r_fieldB (r := 0) fl_217_0 rfl rfl rfl) rfl rfl fun a13 h13 => wv h13 (r_ldbR ti_126 rfl rfl (fun w h => h.rblk 1 rfl) rfl) rfl rfl fun a14 h14 => wms 1 h14 rfl fun a15 h15 => wl_ex (x_call h15 bd_194 rfl rfl rfl rfl rfl (tbWaits_c g1 g0 wait t 0 _ (h15.sh.rblk 2 rfl) (h15.sh.at 3 rfl) ht)) (wanted_none rfl _) ?_; clear h7 h8 h11 h12 h13 h14
 rintro a16 w16 ⟨_, ⟨rfl, hs16⟩, hf16⟩
 have h16 : St 55 (fun _ => False) W a16 w16 _ _ := ⟨hf16, h15.sh.call0 hs16⟩
 clear hf16 hs16
 clear h15
 refine wms 1 h16 rfl fun a17 h17 => wpList_nil <| hK10 _ _ <| wp_block ?_; clear h16
 have h19 := h17.nil (α := Int) 3
 clear h17
 refine x_loop (fun m a w => ∃ (n : Nat) (rd sn : List Int) (vr : Value), (n ≤ (nth wait.l t).l.length) ∧ (rd = psoR (nth wait.l t).l n) ∧ (∀ x, x ∈ sn ↔ ∃ i, i < n ∧ (nth (nth wait.l t).l i).wh = x) ∧ (∀ i, i < n → (nth (nth wait.l t).l i).lock = false) ∧ St 55 (fun _ => False) W a w [(0, .pointer (some ⟨g2, 0, none⟩)), (1, .int .i64 ((t : Nat) : Int)), (5, vr), (6, .map (some g7)), (18, .int .i64 (((nth wait.l t).l.length : Nat) : Int)), (19, .int .i64 ((n : Nat) : Int))] [.setO g7 sn, .rblk g2 217 [.pointer (some ⟨g1, 0, none⟩)], .rblk g1 214 [.pointer (some ⟨g0, 0, none⟩), wait.v], .at_ wait, .own 3 (⟨vr, rd⟩ : Ls Int)] ∧ m = (nth wait.l t).l.length - n) ⟨_, 0, [], [], (.slice none 0 0), (by omega), (rfl), (fun x => by simp), (fun i hi => absurd hi (by omega)), h19.nrm ⟨rfl, rfl, rfl, rfl, rfl, rfl, trivial⟩ [1, 2, 3, 4, 0] (by decide) ⟨rfl, rfl, rfl, rfl, rfl, trivial⟩, rfl⟩ ?_
 clear h19
 rintro m18 a18 w18 ⟨n, rd, sn, vr, hn, hrd, hsn, hlk, h18, hm18⟩
 have hrl : rd.length ≤ n := by rw [hrd]; exact psoR_len _ _
 refine wp_seq_k fun K20 hK20 => wp_region_lit <| wv h18 (r_lssN (p := n) (q := (nth wait.l t).l.length) rfl rfl rfl) rfl rfl fun a21 h21 => wpList_nil <| hK20 _ _ <| wp_seq_k fun K22 hK22 => x_cond h21 rfl (fun hb23 => ?_) (fun hb23 => ?_); clear h18
 ·have hp23 : n < (nth wait.l t).l.length := of_decide_eq_true hb23
  refine wp_skip <| hK22 _ _ <| wp_seq_k fun K24 hK24 => wp_block <| wp_seq_k fun K25 hK25 => wp_region_lit <| wms 2 h21 rfl fun a26 h26 => wpList_nil <| hK25 _ _ <| wp_seq_k fun K27 hK27 => wp_region_lit <| wms 1 h26 rfl fun a28 h28 => wv h28 (r_nil rfl rfl) rfl rfl fun a29 h29 => wv h29 (r_fieldB (r := 0) fl_217_0 rfl rfl rfl) rfl rfl fun a30 h30 => ?_; clear h21 h26 h28 h29
  refine wv h30 (r_ldbR ti_126 rfl rfl (fun w h => h.rblk 1 rfl) rfl) rfl rfl fun a31 h31 => wms 2 h31 rfl fun a32 h32 => wl_ex (x_call h32 bd_207 rfl rfl rfl rfl rfl (tbWaiting_c g1 g0 wait t n _ (h32.sh.rblk 2 rfl) (h32.sh.at 3 rfl) ht (by omega))) (wanted_none rfl _) ?_; clear h30 h31
  rintro a33 w33 ⟨_, ⟨rfl, hs33⟩, hf33⟩
  have h33 : St 55 (fun _ => False) W a33 w33 _ _ := ⟨hf33, h32.sh.call0 hs33⟩
  clear hf33 hs33
  clear h32
  refine wms 1 h33 rfl fun a34 h34 => wv h34 (r_extract rfl rfl rfl) rfl rfl fun a35 h35 => wv h35 (r_extract rfl rfl rfl) rfl rfl fun a36 h36 => wms 2 h36 rfl fun a37 h37 => wpList_nil <| hK27 _ _ <| wp_seq_k fun K38 hK38 => wp_seq_k fun K39 hK39 => wp_region_lit <| wms 1 h37 rfl fun a40 h40 => wpList_nil <| hK39 _ _ <| x_cond h40 rfl (fun hb41 => ?_) (fun hb41 => ?_); clear h33 h34 h35 h36 h37
  ·skip
   refine wp_seq_k fun K42 hK42 => wp_seq_k fun K43 hK43 => wp_region_lit <| wms 1 h40 rfl fun a44 h44 => wv h44 (r_eqlN (p := n) (q := 0) rfl rfl rfl) rfl rfl fun a45 h45 => wpList_nil <| hK43 _ _ <| x_cond h45 rfl (fun hb46 => ?_) (fun hb46 => ?_); clear h40 h44
   ·have hp46 : n = 0 := of_decide_eq_true hb46
    refine wp_region_lit <| wms 2 h45 rfl fun a47 h47 => wl_ex (x_lit (n := 1) (cs := [.int .i64 ((n : Nat) : Int)]) ([((n : Nat) : Int)] : List Int) h47 sl_23 ti_3 rfl rfl rfl (by decide) rfl (by kernel_rfl) rfl (fun q hq w h => Flat.inner _ _) (fun q hq b hb => (Flat.on _ _ hb).elim) rfl rfl) (wanted_none rfl _) ?_; clear h45
    rintro a48 w48 ⟨v48, h48⟩; clear h47
    refine wl_ex (x_app (r := 5) (rm := 0) (s := (⟨vr, rd⟩ : Ls Int)) (m := (⟨v48, [((n : Nat) : Int)]⟩ : Ls Int)) h48 sl_23 ti_3 rfl rfl rfl rfl rfl rfl rfl (fun w h => (h.own 0 rfl)) (fun b hb => own_on (h48.sh.ok _ (List.mem_of_getElem? (i := 0) rfl)) hb) (fun q hq b hb => ⟨q, hq, hb⟩) rfl rfl rfl inferInstance (show (rd.length + ([((n : Nat) : Int)]).length) * 8 ≤ 140737488355328 ∧ rd.length + ([((n : Nat) : Int)]).length ≤ 140737488355328 from (by first | omega | (simp only [lens9]; omega))) rfl rfl) (wanted_none rfl _) ?_
    rintro a49 w49 ⟨v49, h49⟩; clear h48
    refine wms 1 h49 rfl fun a50 h50 => wpList_nil <| hK42 _ _ ?_; clear h49
    have h51 : St 55 (fun _ => False) W a50 w49 [(5, v49)] [.own 3 (⟨v48, [((n : Nat) : Int)]⟩ : Ls Int), .setO g7 sn, .rblk g2 217 [.pointer (some ⟨g1, 0, none⟩)], .rblk g1 214 [.pointer (some ⟨g0, 0, none⟩), wait.v], .at_ wait, .own 3 (⟨v49, rd ++ ([((n : Nat) : Int)])⟩ : Ls Int)] := h50.nrm ⟨rfl, trivial⟩ [0, 1, 2, 3, 4, 5] (by decide) ⟨rfl, rfl, rfl, rfl, rfl, rfl, trivial⟩
    clear h50
    refine wp_exit <| hK9 _ _ <| wp_seq_k fun K52 hK52 => wp_region_lit <| wms 2 h51 rfl fun a53 h53 => wpList_nil <| hK52 _ _ <| wp_ret ?_; clear h51
    try simp only [Exit.then, Exit.inBlock]
    refine x_ret1 (fn := Try.f205) (t := 4) rfl h53 rfl ?_
    exact ⟨⟨v49, rd ++ ([((n : Nat) : Int)])⟩, rfl, (by first | exact psoR_lock0 hrd (by omega) (by assumption) (by assumption) | exact psoR_lock hrd (by omega) (by assumption) (by assumption) | (rw [← show n = (nth wait.l t).l.length by omega]; exact hrd)), (h53.sh.sel (L' := [.own 3 (⟨v49, rd ++ ([((n : Nat) : Int)])⟩ : Ls Int)]) [5] (by decide) ⟨rfl, trivial⟩)⟩
   have hp46 : ¬ (n = 0) := of_decide_eq_false hb46
   refine wp_skip <| hK42 _ _ ?_
   have h54 : St 55 (fun _ => False) W a45 w33 [(5, vr)] [.setO g7 sn, .rblk g2 217 [.pointer (some ⟨g1, 0, none⟩)], .rblk g1 214 [.pointer (some ⟨g0, 0, none⟩), wait.v], .at_ wait, .own 3 (⟨vr, rd⟩ : Ls Int)] := h45.nrm ⟨rfl, trivial⟩ [0, 1, 2, 3, 4] (by decide) ⟨rfl, rfl, rfl, rfl, rfl, trivial⟩
   clear h45
   refine wp_exit <| hK9 _ _ <| wp_seq_k fun K55 hK55 => wp_region_lit <| wms 2 h54 rfl fun a56 h56 => wpList_nil <| hK55 _ _ <| wp_ret ?_; clear h54
   try simp only [Exit.then, Exit.inBlock]
   refine x_ret1 (fn := Try.f205) (t := 4) rfl h56 rfl ?_
   exact ⟨⟨vr, rd⟩, rfl, (by first | exact psoR_lock0 hrd (by omega) (by assumption) (by assumption) | exact psoR_lock hrd (by omega) (by assumption) (by assumption) | (rw [← show n = (nth wait.l t).l.length by omega]; exact hrd)), (h56.sh.sel (L' := [.own 3 (⟨vr, rd⟩ : Ls Int)]) [4] (by decide) ⟨rfl, trivial⟩)⟩
  refine wp_skip <| hK38 _ _ <| wp_seq_k fun K57 hK57 => wp_seq_k fun K58 hK58 => wp_region_lit <| wms 2 h40 rfl fun a59 h59 => wv h59 (r_lookS (i := 0) (k := ((nth (nth wait.l t).l n).wh)) (l := sn) ms_277 rfl rfl rfl rfl) rfl rfl fun a60 h60 => wms 1 h60 rfl fun a61 h61 => wv h61 (r_extract rfl rfl rfl) rfl rfl fun a62 h62 => wv h62 (r_extract rfl rfl rfl) rfl rfl fun a63 h63 => wms 2 h63 rfl fun a64 h64 => wpList_nil <| hK58 _ _ <| wp_seq_k fun K65 hK65 => ?_; clear h40 h59 h60 h61 h62 h63
  refine wp_region_lit <| wms 1 h64 rfl fun a66 h66 => wv h66 (r_not rfl rfl) rfl rfl fun a67 h67 => wpList_nil <| hK65 _ _ ?_; clear h64 h66
  have h68 : St 55 (fun _ => False) W a67 w33 [(0, .pointer (some ⟨g2, 0, none⟩)), (1, .int .i64 ((t : Nat) : Int)), (5, vr), (6, .map (some g7)), (7, .int .i64 ((n : Nat) : Int)), (8, .int .i64 ((nth (nth wait.l t).l n).wh)), (18, .int .i64 (((nth wait.l t).l.length : Nat) : Int)), (19, .int .i64 ((n : Nat) : Int)), (46, .bool (!(decide ((nth (nth wait.l t).l n).wh ∈ sn))))] [.setO g7 sn, .rblk g2 217 [.pointer (some ⟨g1, 0, none⟩)], .rblk g1 214 [.pointer (some ⟨g0, 0, none⟩), wait.v], .at_ wait, .own 3 (⟨vr, rd⟩ : Ls Int)] := h67.nrm ⟨rfl, rfl, rfl, rfl, rfl, rfl, rfl, rfl, rfl, trivial⟩ [0, 1, 2, 3, 4] (by decide) ⟨rfl, rfl, rfl, rfl, rfl, trivial⟩
  clear h67
  refine x_cond h68 rfl (fun hb69 => ?_) (fun hb69 => ?_)
  ·have hp69 : ¬ ((nth (nth wait.l t).l n).wh ∈ sn) := by simpa using hb69
   refine wp_region_lit <| wms 2 h68 rfl fun a70 h70 => wl_ex (x_lit (n := 1) (cs := [.int .i64 ((n : Nat) : Int)]) ([((n : Nat) : Int)] : List Int) h70 sl_23 ti_3 rfl rfl rfl (by decide) rfl (by kernel_rfl) rfl (fun q hq w h => Flat.inner _ _) (fun q hq b hb => (Flat.on _ _ hb).elim) rfl rfl) (wanted_none rfl _) ?_; clear h68
   rintro a71 w71 ⟨v71, h71⟩; clear h70
   refine wl_ex (x_app (r := 5) (rm := 0) (s := (⟨vr, rd⟩ : Ls Int)) (m := (⟨v71, [((n : Nat) : Int)]⟩ : Ls Int)) h71 sl_23 ti_3 rfl rfl rfl rfl rfl rfl rfl (fun w h => (h.own 0 rfl)) (fun b hb => own_on (h71.sh.ok _ (List.mem_of_getElem? (i := 0) rfl)) hb) (fun q hq b hb => ⟨q, hq, hb⟩) rfl rfl rfl inferInstance (show (rd.length + ([((n : Nat) : Int)]).length) * 8 ≤ 140737488355328 ∧ rd.length + ([((n : Nat) : Int)]).length ≤ 140737488355328 from (by first | omega | (simp only [lens9]; omega))) rfl rfl) (wanted_none rfl _) ?_
   rintro a72 w72 ⟨v72, h72⟩; clear h71
   refine wms 1 h72 rfl fun a73 h73 => wpList_nil <| hK57 _ _ <| wp_region_lit <| wms 2 h73 rfl fun a74 h74 => wl_ex (x_updS (i := 1) (k := ((nth (nth wait.l t).l n).wh)) h74 ms_277 rfl rfl rfl rfl rfl rfl) (wanted_none rfl _) ?_; clear h72 h73
   rintro a75 w75 h75
   clear h74
   refine wpList_nil <| hK24 _ _ <| wp_region_lit <| wv h75 (r_addN (p := n) (q := 1) rfl rfl rfl (show n + 1 < 9223372036854775808 from (by omega))) rfl rfl fun a76 h76 => wms 1 h76 rfl fun a77 h77 => wpList_nil <| x_again ⟨_, ?_, n + 1, rd ++ ([((n : Nat) : Int)]), if (nth (nth wait.l t).l n).wh ∈ sn then sn else sn ++ [(nth (nth wait.l t).l n).wh], v72, ?_, ?_, ?_, ?_, h77.nrm ⟨rfl, rfl, rfl, rfl, rfl, rfl, trivial⟩ [1, 2, 3, 4, 5] (by decide) ⟨rfl, rfl, rfl, rfl, rfl, trivial⟩, rfl⟩; clear h75 h76
   · rw [hm18]; first | omega | (simp only [lens9]; omega)
   · omega
   · first | exact psoR_yes hrd hlk hsn (by assumption) (by assumption) | exact psoR_no hrd hsn (by assumption)
   · exact sn_step hsn
   · exact lk_step hlk (by assumption)
  have hp69 : (nth (nth wait.l t).l n).wh ∈ sn := by simpa using hb69
  refine wp_skip <| hK57 _ _ <| wp_region_lit <| wms 2 h68 rfl fun a78 h78 => wl_ex (x_updS (i := 0) (k := ((nth (nth wait.l t).l n).wh)) h78 ms_277 rfl rfl rfl rfl rfl rfl) (wanted_none rfl _) ?_; clear h68
  rintro a79 w79 h79
  clear h78
  refine wpList_nil <| hK24 _ _ <| wp_region_lit <| wv h79 (r_addN (p := n) (q := 1) rfl rfl rfl (show n + 1 < 9223372036854775808 from (by omega))) rfl rfl fun a80 h80 => wms 1 h80 rfl fun a81 h81 => wpList_nil <| x_again ⟨_, ?_, n + 1, rd, if (nth (nth wait.l t).l n).wh ∈ sn then sn else sn ++ [(nth (nth wait.l t).l n).wh], vr, ?_, ?_, ?_, ?_, h81.nrm ⟨rfl, rfl, rfl, rfl, rfl, rfl, trivial⟩ [0, 1, 2, 3, 4] (by decide) ⟨rfl, rfl, rfl, rfl, rfl, trivial⟩, rfl⟩; clear h79 h80
  · rw [hm18]; first | omega | (simp only [lens9]; omega)
  · omega
  · first | exact psoR_yes hrd hlk hsn (by assumption) (by assumption) | exact psoR_no hrd hsn (by assumption)
  · exact sn_step hsn
  · exact lk_step hlk (by assumption)
 have hp23 : ¬ (n < (nth wait.l t).l.length) := of_decide_eq_false hb23
 refine wp_exit <| hK9 _ _ <| wp_seq_k fun K82 hK82 => wp_region_lit <| wms 2 h21 rfl fun a83 h83 => wpList_nil <| hK82 _ _ <| wp_ret ?_; clear h21
 try simp only [Exit.then, Exit.inBlock]
 refine x_ret1 (fn := Try.f205) (t := 4) rfl h83 rfl ?_
 exact ⟨⟨vr, rd⟩, rfl, (by first | exact psoR_lock0 hrd (by omega) (by assumption) (by assumption) | exact psoR_lock hrd (by omega) (by assumption) (by assumption) | (rw [← show n = (nth wait.l t).l.length by omega]; exact hrd)), (h83.sh.sel (L' := [.own 3 (⟨vr, rd⟩ : Ls Int)]) [4] (by decide) ⟨rfl, trivial⟩)⟩


/-- A method of the first field of a struct's first field, both pointers. -/
def embI2 (P : Program) (T : TypeId) (name : String) : Option (FuncId × TypeId × TypeId) :=
  match P.info? T with
  | none => none
  | some i => match i.methods.find? (·.name == name) with
    | none => none
    | some m => match m.path.toList, m.func with
      | [st, st2], some (f, true) => match P.underlying st.struct, P.underlying st2.struct with
        | some (.struct fs), some (.struct fs2) => match fs[st.index]?, fs2[st2.index]? with
          | some fd, some fd2 => match P.info? fd.type, P.info? fd2.type, P.underlying fd2.type with
            | some fi, some fi2, some (.pointer _) => if st.deref = true ∧ st2.deref = true ∧ fd.offset = 0 ∧ fd2.offset = 0 ∧ fi.size ≠ 0 ∧ fi2.size ≠ 0 then some (f, fd.type, fd2.type) else none
            | _, _, _ => none
          | _, _ => none
        | _, _ => none
      | _, _ => none
theorem meth_emb2 {P : Program} {n g2 g1 : Nat} {T x1 x2 : TypeId} {name : String} {f : FuncId} {r : Value} {w : World} (hn : Nat.blt 0 n = true) (hI : embI2 P T name = some (f, x1, x2)) (hl : (loadVar x1 ⟨g2, 0, none⟩).run P w = .ok (.pointer (some ⟨g1, 0, none⟩)) w) (hl2 : (loadVar x2 ⟨g1, 0, none⟩).run P w = .ok r w) : (method n T (.pointer (some ⟨g2, 0, none⟩)) name).run P w = .ok (f, r) w := by
  obtain ⟨n, rfl⟩ : ∃ n', n = n' + 1 := ⟨n - 1, by rw [Nat.blt_eq] at hn; omega⟩
  unfold embI2 at hI
  split at hI
  · cases hI
  rename_i i hi
  split at hI
  · cases hI
  rename_i m hm
  split at hI
  · rename_i st st2 f' hp hf
    split at hI
    · rename_i fs fs2 hfs hfs2
      split at hI
      · rename_i fd fd2 hfd hfd2
        split at hI
        · rename_i fi fi2 e hfi hfi2 hfu
          split at hI
          · rename_i hc
            cases hI
            obtain ⟨h1, h2, h3, h4, h5, h6⟩ := hc
            unfold method
            simp [typeInfo, hi, hm, hp, hf, follow, run_underlying hfs, run_underlying hfs2, hfd, hfd2, h1, h2, Place.get, asAddr, fieldPlace, sizeOf, hfi, hfi2, h3, h4, h5, h6, receiverAt, run_underlying hfu, hl, hl2, Addr.add]
          · cases hI
        · cases hI
      · cases hI
    · cases hI
  · cases hI
theorem inv_via {P : Program} {T T' : TypeId} {u u' : Addr} {name : String} {vs : List Value} {w : World} {R : Value → World → Prop} {f : FuncId} {r : Addr} (h : InvM P T u name vs w R) (h1 : (method (P.types.size + Made.depth) T (.pointer (some u)) name).run P w = .ok (f, .pointer (some r)) w)
    (h2 : (method (P.types.size + Made.depth) T' (.pointer (some u')) name).run P w = .ok (f, .pointer (some r)) w) : InvM P T' u' name vs w R := by
  obtain ⟨f0, r0, h3, h4, h5⟩ := h
  rw [h1] at h3
  injection h3 with h3 _
  injection h3 with h3 h6
  injection h6 with h6
  injection h6 with h6
  subst h3 h6
  exact ⟨_, _, h2, h4, h5⟩
theorem inv_mono {P : Program} {T : TypeId} {u : Addr} {name : String} {vs : List Value} {w : World} {R R' : Value → World → Prop} (h : InvM P T u name vs w R) (hr : ∀ v w', R v w' → R' v w') : InvM P T u name vs w R' := by
  obtain ⟨f0, r0, h3, h4, h5⟩ := h
  exact ⟨f0, r0, h3, h4, h5.mono hr⟩
theorem store12 (x : TS) (w : Wt) : TS.store 1 x w = TS.store 2 x w := by
  unfold TS.store
  rw [if_pos (by decide), if_pos (by decide)]
/-- The memory in which stores wait loosely. -/
def memL (g2 g1 g0 : Nat) : MemS := ⟨Ls (Ls Wt), fun q => q.l.map (·.l), fun q => .big [.blk g2 217 [.pointer (some ⟨g1, 0, none⟩)], .blk g1 214 [.pointer (some ⟨g0, 0, none⟩), q.v], .big (matX (.own 267) 268 q.v q.l)], 215, ⟨g2, 0, none⟩, g0, 2⟩
theorem memL_rd {g2 g1 g0 : Nat} {q : Ls (Ls Wt)} {b : Nat} (h : ((memL g2 g1 g0).X q).rd b) : False := by
  obtain ⟨A, hA, hb⟩ := h
  simp only [List.mem_cons, List.not_mem_nil, or_false] at hA
  rcases hA with rfl | rfl | rfl
  · exact hb
  · exact hb
  · exact matX_rd hb
theorem MemRd.blkL {g2 g1 g0 : Nat} {w : World} {words owner : Ls Int} {q : Ls (Ls Wt)} (h : MemRd 205 (memL g2 g1 g0) w words owner q) : Blk w g2 217 #[.pointer (some ⟨g1, 0, none⟩)] := h.x.1 _ (List.mem_cons_self ..)
theorem MemRd.toT {g2 g1 g0 : Nat} {w : World} {words owner : Ls Int} {q : Ls (Ls Wt)} (h : MemRd 205 (memL g2 g1 g0) w words owner q) : MemRd 205 (memT g1 g0) w words owner q :=
  ⟨h.blk, h.wa, h.oa, fun A hA => h.x.1 A (List.mem_cons_of_mem _ hA), (List.pairwise_cons.1 h.x.2.1).2, fun A hA => h.x.2.2 A (List.mem_cons_of_mem _ hA)⟩
theorem memL_open {g2 g1 g0 : Nat} {K : Nat → Prop} {W w : World} {words owner : Ls Int} {q : Ls (Ls Wt)} (h : Sh K W w (memA 205 3 (memL g2 g1 g0) words owner q)) : Sh K W w (memA 205 3 (memT g1 g0) words owner q ++ [.blk g2 217 [.pointer (some ⟨g1, 0, none⟩)]]) := by
  have h1 := (h.sel (L' := [(memL g2 g1 g0).X q, .blk g0 205 [words.v, owner.v], .own 3 words, .own 3 owner]) [3, 0, 1, 2] (by decide) ⟨rfl, rfl, rfl, rfl, trivial⟩).open_
  have h2 : Sh K W w ([.blk g1 214 [.pointer (some ⟨g0, 0, none⟩), q.v], .big (matX (.own 267) 268 q.v q.l)] ++ [.blk g2 217 [.pointer (some ⟨g1, 0, none⟩)], .blk g0 205 [words.v, owner.v], .own 3 words, .own 3 owner]) := h1.sel [1, 2, 0, 3, 4, 5] (by decide) ⟨rfl, rfl, rfl, rfl, rfl, rfl, trivial⟩
  exact h2.close.sel [2, 3, 4, 0, 1] (by decide) ⟨rfl, rfl, rfl, rfl, rfl, trivial⟩
theorem memL_close {g2 g1 g0 : Nat} {K : Nat → Prop} {W w : World} {words owner : Ls Int} {q : Ls (Ls Wt)} (h : Sh K W w (memA 205 3 (memT g1 g0) words owner q ++ [.blk g2 217 [.pointer (some ⟨g1, 0, none⟩)]])) : Sh K W w (memA 205 3 (memL g2 g1 g0) words owner q) := by
  have h1 := (h.sel (L' := [(memT g1 g0).X q, .blk g2 217 [.pointer (some ⟨g1, 0, none⟩)], .blk g0 205 [words.v, owner.v], .own 3 words, .own 3 owner]) [3, 4, 0, 1, 2] (by decide) ⟨rfl, rfl, rfl, rfl, rfl, trivial⟩).open_
  have h2 : Sh K W w ([.blk g2 217 [.pointer (some ⟨g1, 0, none⟩)], .blk g1 214 [.pointer (some ⟨g0, 0, none⟩), q.v], .big (matX (.own 267) 268 q.v q.l)] ++ [.blk g0 205 [words.v, owner.v], .own 3 words, .own 3 owner]) := h1.sel [2, 0, 1, 3, 4, 5] (by decide) ⟨rfl, rfl, rfl, rfl, rfl, rfl, trivial⟩
  exact h2.close.sel [1, 2, 3, 0] (by decide) ⟨rfl, rfl, rfl, rfl, trivial⟩
theorem memL_blk {g2 g1 g0 : Nat} {K : Nat → Prop} {W w : World} {words owner : Ls Int} {q : Ls (Ls Wt)} (h : Sh K W w (memA 205 3 (memL g2 g1 g0) words owner q)) : Blk w g2 217 #[.pointer (some ⟨g1, 0, none⟩)] := (memL_open h).ok _ (List.mem_append.2 (.inr (List.mem_cons_self ..)))
theorem memT_x {g2 g1 g0 : Nat} {K : Nat → Prop} {W w : World} {words owner : Ls Int} {q : Ls (Ls Wt)} (h : Sh K W w (memA 205 3 (memL g2 g1 g0) words owner q)) : ((memT g1 g0).X q).ok w := (memL_open h).ok _ (List.mem_append.2 (.inl (List.mem_cons_of_mem _ (List.mem_cons_of_mem _ (List.mem_cons_of_mem _ (List.mem_cons_self ..))))))
theorem loose_ld {g2 g1 : Nat} {w : World} (h : Blk w g2 217 #[.pointer (some ⟨g1, 0, none⟩)]) : (loadVar 126 ⟨g2, 0, none⟩).run Try.prog w = .ok (.pointer (some ⟨g1, 0, none⟩)) w := by
  unfold Blk at h
  simp [loadVar, World.cell?, h]
theorem memL_ok (g2 g1 g0 : Nat) : MemI Try.prog 205 3 (memL g2 g1 g0) where
  load w words owner q t wd h ht hl hwd := inv_via (f := 191) (r := ⟨g1, 0, none⟩) ((memT_ok g1 g0).load w words owner q t wd h.toT ht hl hwd) (by kernel_rfl) (meth_emb (xt := 126) (by kernel_rfl) (by kernel_rfl) (loose_ld h.blkL))
  waits w words owner q t h ht hl := inv_via (f := 194) (r := ⟨g1, 0, none⟩) ((memT_ok g1 g0).waits w words owner q t h.toT ht hl) (by kernel_rfl) (meth_emb (xt := 126) (by kernel_rfl) (by kernel_rfl) (loose_ld h.blkL))
  freeing w words owner q t a h ht hl hlk := inv_via (f := 190) (r := ⟨g1, 0, none⟩) ((memT_ok g1 g0).freeing w words owner q t a h.toT ht hl hlk) (by kernel_rfl) (meth_emb (xt := 126) (by kernel_rfl) (by kernel_rfl) (loose_ld h.blkL))
  ready w words owner q t h ht hl := ⟨205, ⟨g2, 0, none⟩, by kernel_rfl, bd_205, by
    have e : nth ((memL g2 g1 g0).qs q) t = (nth q.l t).l := memT_nth ht
    rw [e] at hl ⊢
    obtain ⟨hB, hq⟩ := memT_at h.toT.x
    exact psReady_c g2 g1 g0 q t w h.blkL hB hq (by simpa [memL] using ht) hl⟩
  base w words owner q h := inv_via (f := 179) (r := ⟨g0, 0, none⟩) ((memT_ok g1 g0).base w words owner q h.toT) (meth_emb (xt := 116) (by kernel_rfl) (by kernel_rfl) (methT_ld (memT_at h.toT.x).1)) (meth_emb2 (x1 := 126) (x2 := 116) (by kernel_rfl) (by kernel_rfl) (loose_ld h.blkL) (methT_ld (memT_at h.toT.x).1))
  store K W words owner q t wd what hS ht hl hwd := inv_via (f := 193) (r := ⟨g1, 0, none⟩) (inv_mono ((memT_ok g1 g0).store _ W words owner q t wd what (memL_open hS).passL ht hl hwd) (by
    rintro v w' ⟨rfl, words', owner', q', ⟨wt, h1, h2⟩, hs⟩
    exact ⟨rfl, words', owner', q', ⟨wt, h1, fun pc regs prints fell => (h2 pc regs prints fell).trans (store12 _ _)⟩, memL_close ((memL_open hS).backL hs (by intro A hA b hb; simp only [memA, List.mem_cons, List.not_mem_nil, or_false] at hA; rcases hA with rfl | rfl | rfl | rfl <;> first | exact (hb : False).elim | exact Flat.noRd hb | exact (memT_rd hb).elim))⟩)) (by kernel_rfl) (meth_emb (xt := 126) (by kernel_rfl) (by kernel_rfl) (loose_ld (memL_blk hS)))
  free K W words owner q t a hS ht hl ha := inv_via (f := 189) (r := ⟨g1, 0, none⟩) (inv_mono ((memT_ok g1 g0).free _ W words owner q t a (memL_open hS).passL ht hl ha) (by
    rintro v w' ⟨rfl, words', owner', q', ⟨wt, h1, h2⟩, hs⟩
    exact ⟨rfl, words', owner', q', ⟨wt, h1, fun pc regs prints fell => (h2 pc regs prints fell).trans (store12 _ _)⟩, memL_close ((memL_open hS).backL hs (by intro A hA b hb; simp only [memA, List.mem_cons, List.not_mem_nil, or_false] at hA; rcases hA with rfl | rfl | rfl | rfl <;> first | exact (hb : False).elim | exact Flat.noRd hb | exact (memT_rd hb).elim))⟩)) (by kernel_rfl) (meth_emb (xt := 126) (by kernel_rfl) (by kernel_rfl) (loose_ld (memL_blk hS)))
  swap K W words owner q t wd what hS hwd := inv_via (f := 186) (r := ⟨g0, 0, none⟩) (inv_mono ((memT_ok g1 g0).swap _ W words owner q t wd what (memL_open hS).passL hwd) (by
    rintro v w' ⟨rfl, words', owner', q', hp, hs⟩
    exact ⟨rfl, words', owner', q', hp, memL_close ((memL_open hS).backL hs (by intro A hA b hb; simp only [memA, List.mem_cons, List.not_mem_nil, or_false] at hA; rcases hA with rfl | rfl | rfl | rfl <;> first | exact (hb : False).elim | exact Flat.noRd hb | exact (memT_rd hb).elim))⟩)) (meth_emb (xt := 116) (by kernel_rfl) (by kernel_rfl) (methT_ld (memT_at (memT_x hS)).1)) (meth_emb2 (x1 := 126) (x2 := 116) (by kernel_rfl) (by kernel_rfl) (loose_ld (memL_blk hS)) (methT_ld (memT_at (memT_x hS)).1))
  flush K W words owner q t k hS ht hl hk hw := inv_via (f := 188) (r := ⟨g1, 0, none⟩) (inv_mono ((memT_ok g1 g0).flush _ W words owner q t k (memL_open hS).passL ht hl hk hw) (by
    rintro v w' ⟨rfl, words', owner', q', hp, hs⟩
    exact ⟨rfl, words', owner', q', hp, memL_close ((memL_open hS).backL hs (by intro A hA b hb; simp only [memA, List.mem_cons, List.not_mem_nil, or_false] at hA; rcases hA with rfl | rfl | rfl | rfl <;> first | exact (hb : False).elim | exact Flat.noRd hb | exact (memT_rd hb).elim))⟩)) (by kernel_rfl) (meth_emb (xt := 126) (by kernel_rfl) (by kernel_rfl) (loose_ld (memL_blk hS)))
  xrd q b h := memL_rd h

set_option maxRecDepth 100000 in
set_option maxHeartbeats 4000000 in
theorem lbegin_c (code : Ls (Ls Ins)) (words0 : Ls Int) (Lk : Nat) (nregs : Int) (W : World) (hcode : code.At W) (hwords : words0.At W) (hcl : code.l.length ≤ 100) (hwn : words0.l.length ≤ 64) (hlk : Lk ≤ 4) :
    Rets Try.prog 82 [.agg #[code.v, words0.v, .int .i64 ((Lk : Nat) : Int), .int .i64 nregs]] W (fun v w' => ∃ (gl gt g : Nat) (words' owner' : Ls Int) (q : Ls (Ls Wt)), v = .iface 215 (.pointer (some ⟨gl, 0, none⟩)) ∧ words'.l = words0.l ∧ owner'.l = List.replicate Lk (-1) ∧ (memL gl gt g).qs q = List.replicate code.l.length [] ∧ Sh0 W w' (memA 205 3 (memL gl gt g) words' owner' q)) := by
 refine x_enter (N := 8) Try.func82 rfl Try.ntmps82 (Nat.le_of_ble_eq_true rfl) fun a1 hf1 => ?_
 have h1 : St 8 (fun _ => False) W a1 W [(0, .agg #[code.v, words0.v, .int .i64 ((Lk : Nat) : Int), .int .i64 nregs])] [.at_ code, .at_ words0] := ⟨hf1.sub ⟨rfl, trivial⟩, Sh0.ext2 hcode hwords⟩
 clear hf1
 refine wp_seq_k fun K2 hK2 => wp_region_lit <| wl_ex (x_box (cs := [code.v, words0.v, .int .i64 ((Lk : Nat) : Int), .int .i64 nregs]) h1 rfl rfl rfl rfl rfl) (wanted_none rfl _) ?_
 rintro a3 w3 ⟨b3, h3⟩; clear h1
 refine wms 1 h3 rfl fun a4 h4 => wpList_nil <| hK2 _ _ <| wp_seq_k fun K5 hK5 => wp_region_lit <| wv h4 (r_ldbw (i := 0) (vs := [code.v, words0.v, .int .i64 ((Lk : Nat) : Int), .int .i64 nregs]) ti_25 rfl rfl rfl rfl rfl) rfl rfl fun a6 h6 => wl_ex (x_call h6 bd_81 rfl rfl rfl rfl rfl (tnew_c code words0 Lk nregs _ (h6.sh.at 1 rfl) (h6.sh.at 2 rfl) (by omega) hwn hlk)) (wanted_none rfl _) ?_; clear h3 h4
 rintro a7 w7 ⟨_, ⟨gt7, g7, mw7, mo7, q7, rfl, hmw7, hmo7, hq7, hs7⟩, hf7⟩
 have h7 := (⟨hf7, h6.sh.call hs7 (by intro A hA b hb; simp only [memA, List.mem_cons, List.not_mem_nil, or_false] at hA; first | (subst hA; exact Flat.noRd hb) | (rcases hA with rfl | rfl | rfl | rfl <;> first | exact (hb : False).elim | exact Flat.noRd hb | exact (memT_rd hb).elim | exact (memL_rd hb).elim))⟩ : St 8 (fun _ => False) W a7 w7 _ _)
 clear hf7 hs7
 clear h6
 refine wv h7 (r_build (cs := [.pointer (some ⟨gt7, 0, none⟩)]) rfl rfl (by kernel_rfl)) rfl rfl fun a8 h8 => wl_ex (x_box (cs := [.pointer (some ⟨gt7, 0, none⟩)]) h8 rfl rfl rfl rfl rfl) (wanted_none rfl _) ?_; clear h7
 rintro a9 w9 ⟨b9, h9⟩; clear h8
 refine wv h9 (Rn.same (r_mkIfP (T := 215) Try.underlying215 rfl rfl) rfl) rfl rfl fun a10 h10 => wms 1 h10 rfl fun a11 h11 => wpList_nil <| hK5 _ _ <| wp_ret ?_; clear h9 h10
 try simp only [Exit.then, Exit.inBlock]
 refine x_ret1 (fn := Try.f82) (t := 2) rfl h11 rfl ?_
 exact ⟨b9, gt7, g7, mw7, mo7, q7, rfl, hmw7, hmo7, hq7, memL_close (q := q7) (h11.sh.sel (L' := [.blk g7 205 [mw7.v, mo7.v], .own 3 mw7, .own 3 mo7, (memT gt7 g7).X q7, .blk b9 217 [.pointer (some ⟨gt7, 0, none⟩)]]) [1, 2, 3, 4, 0] (by decide) ⟨rfl, rfl, rfl, rfl, rfl, trivial⟩)⟩

set_option maxRecDepth 100000 in
set_option maxHeartbeats 20000000 in
theorem psoRun_k (code : Ls (Ls Ins)) (words0 script : Ls Int) (Lk R : Nat) (W : World) (hcode : code.At W) (hwords : words0.At W) (hscript : script.At W) (hok : OkPg (pgN code words0 Lk R)) :
    Rets Try.prog 38 [.agg #[code.v, words0.v, .int .i64 ((Lk : Nat) : Int), .int .i64 ((R : Nat) : Int)], script.v] W (fun v w' => ∃ (pr wd : Ls Int) (st_ : Int) (steps : Nat), v = .tuple #[.agg #[pr.v, .int .i64 st_, wd.v, .int .i64 ((steps : Nat) : Int)], .agg #[.int .i64 0, .int .i64 0, .int .i64 0]] ∧ runM (pgN code words0 Lk R) 2 script.l = ⟨st_, steps, wd.l, pr.l⟩ ∧ Sh0 W w' [.own 3 pr, .own 3 wd]) := by
 have hz : checkG (pgOf code words0 ((Lk : Nat) : Int) ((R : Nat) : Int)) = ⟨0, 0, 0⟩ := checkG_ok hok
 obtain ⟨hl1, hcl, hwn, hlk, hR2⟩ := ok_lenP hok
 refine x_enter (N := 20) Try.func38 rfl Try.ntmps38 (Nat.le_of_ble_eq_true rfl) fun a1 hf1 => ?_
 have h1 : St 20 (fun _ => False) W a1 W [(0, .agg #[code.v, words0.v, .int .i64 ((Lk : Nat) : Int), .int .i64 ((R : Nat) : Int)]), (1, script.v)] [.at_ code, .at_ words0, .at_ script] := ⟨hf1.sub ⟨rfl, rfl, trivial⟩, Sh0.ext3 hcode hwords hscript⟩
 clear hf1
 refine wp_seq_k fun K2 hK2 => wp_region_lit <| wl_ex (x_box (cs := [code.v, words0.v, .int .i64 ((Lk : Nat) : Int), .int .i64 ((R : Nat) : Int)]) h1 rfl rfl rfl rfl rfl) (wanted_none rfl _) ?_
 rintro a3 w3 ⟨b3, h3⟩; clear h1
 refine wl_ex (x_alloc h3 ti_49 rfl rfl rfl) (wanted_none rfl _) ?_
 rintro a4 w4 ⟨b4, h4⟩; clear h3
 refine wl_ex (x_alloc h4 ti_28 rfl rfl rfl) (wanted_none rfl _) ?_
 rintro a5 w5 ⟨b5, h5⟩; clear h4
 refine wpList_nil <| hK2 _ _ <| wp_seq_k fun K6 hK6 => wp_seq_k fun K7 hK7 => wp_region_lit <| wv h5 (r_ldbw (i := 2) (vs := [code.v, words0.v, .int .i64 ((Lk : Nat) : Int), .int .i64 ((R : Nat) : Int)]) ti_25 rfl rfl rfl rfl rfl) rfl rfl fun a8 h8 => wl_ex (x_call h8 bd_46 rfl rfl rfl rfl rfl (asmCheck_c (code := code) (words := words0) (locks := ((Lk : Nat) : Int)) (regs := ((R : Nat) : Int)) (h8.sh.at 3 rfl) (h8.sh.at 4 rfl))) (wanted_none rfl _) ?_; clear h5
 rintro a9 w9 ⟨_, ⟨rfl, hs9⟩, hf9⟩
 have h9 : St 20 (fun _ => False) W a9 w9 _ _ := ⟨hf9, h8.sh.call0 hs9⟩
 clear hf9 hs9
 clear h8
 refine wl_ex (x_alloc h9 ti_28 rfl rfl rfl) (wanted_none rfl _) ?_
 rintro a10 w10 ⟨b10, h10⟩; clear h9
 refine wl_ex (x_stb (i := 0) (vs := [.int .i64 ((checkG (pgOf code words0 ((Lk : Nat) : Int) ((R : Nat) : Int))).code), .int .i64 ((checkG (pgOf code words0 ((Lk : Nat) : Int) ((R : Nat) : Int))).thread), .int .i64 ((checkG (pgOf code words0 ((Lk : Nat) : Int) ((R : Nat) : Int))).at_)]) (cs' := [.int .i64 ((checkG (pgOf code words0 ((Lk : Nat) : Int) ((R : Nat) : Int))).code), .int .i64 ((checkG (pgOf code words0 ((Lk : Nat) : Int) ((R : Nat) : Int))).thread), .int .i64 ((checkG (pgOf code words0 ((Lk : Nat) : Int) ((R : Nat) : Int))).at_)]) h10 ti_28 rfl rfl rfl rfl rfl rfl rfl (allOne_cons rfl (allOne_cons rfl (allOne_cons rfl allOne_nil))) (Nat.le_of_ble_eq_true rfl) rfl) (wanted_none rfl _) ?_
 rintro a11 w11 h11
 clear h10
 refine wpList_nil <| hK7 _ _ <| wp_seq_k fun K12 hK12 => wp_region_lit <| wv h11 (r_fieldB (r := 0) fl_28_0 rfl rfl rfl) rfl rfl fun a13 h13 => wv h13 (r_ldb (i := 0) ti_26 rfl rfl rfl rfl) rfl rfl fun a14 h14 => wv h14 (r_neqI (p := (checkG (pgOf code words0 ((Lk : Nat) : Int) ((R : Nat) : Int))).code) (q := 0) rfl rfl rfl) rfl rfl fun a15 h15 => wpList_nil <| hK12 _ _ <| x_condF h15 rfl (by rw [hz]; rfl) ?_; clear h11 h13 h14
 refine wp_skip <| hK6 _ _ <| wp_seq_k fun K16 hK16 => ?_
 have h17 : St 20 (fun _ => False) W a15 w11 [(0, .agg #[code.v, words0.v, .int .i64 ((Lk : Nat) : Int), .int .i64 ((R : Nat) : Int)]), (1, script.v), (2, .pointer (some ⟨b3, 0, none⟩)), (4, .pointer (some ⟨b4, 0, none⟩)), (5, .pointer (some ⟨b5, 0, none⟩)), (6, .pointer (some ⟨b10, 0, none⟩)), (7, .agg #[code.v, words0.v, .int .i64 ((Lk : Nat) : Int), .int .i64 ((R : Nat) : Int)]), (8, .agg #[.int .i64 ((checkG (pgOf code words0 ((Lk : Nat) : Int) ((R : Nat) : Int))).code), .int .i64 ((checkG (pgOf code words0 ((Lk : Nat) : Int) ((R : Nat) : Int))).thread), .int .i64 ((checkG (pgOf code words0 ((Lk : Nat) : Int) ((R : Nat) : Int))).at_)]), (9, .pointer (some ⟨b10, 0, none⟩)), (10, .int .i64 ((checkG (pgOf code words0 ((Lk : Nat) : Int) ((R : Nat) : Int))).code)), (11, .bool (decide ((checkG (pgOf code words0 ((Lk : Nat) : Int) ((R : Nat) : Int))).code ≠ 0)))] [.blk b10 28 [.int .i64 ((checkG (pgOf code words0 ((Lk : Nat) : Int) ((R : Nat) : Int))).code), .int .i64 ((checkG (pgOf code words0 ((Lk : Nat) : Int) ((R : Nat) : Int))).thread), .int .i64 ((checkG (pgOf code words0 ((Lk : Nat) : Int) ((R : Nat) : Int))).at_)], .blk b5 28 [.int .i64 0, .int .i64 0, .int .i64 0], .blk b4 49 [(.slice none 0 0), .int .i64 0, (.slice none 0 0), .int .i64 0], .blk b3 25 [code.v, words0.v, .int .i64 ((Lk : Nat) : Int), .int .i64 ((R : Nat) : Int)], .at_ code, .at_ words0, .at_ script] := h15.nrm ⟨rfl, rfl, rfl, rfl, rfl, rfl, rfl, rfl, rfl, rfl, rfl, trivial⟩ [0, 1, 2, 3, 4, 5, 6] (by decide) ⟨rfl, rfl, rfl, rfl, rfl, rfl, rfl, trivial⟩
 clear h15
 refine x_any ((fun Φ Ψ S a w => (S 2 = false ∧ S 4 = false ∧ S 6 = false ∧ S 7 = false ∧ FrI 20 S Φ Ψ a ∧ Sh (fun _ => False) W w [.blk b10 28 [.int .i64 ((checkG (pgOf code words0 ((Lk : Nat) : Int) ((R : Nat) : Int))).code), .int .i64 ((checkG (pgOf code words0 ((Lk : Nat) : Int) ((R : Nat) : Int))).thread), .int .i64 ((checkG (pgOf code words0 ((Lk : Nat) : Int) ((R : Nat) : Int))).at_)], .blk b5 28 [.int .i64 0, .int .i64 0, .int .i64 0], .blk b4 49 [(.slice none 0 0), .int .i64 0, (.slice none 0 0), .int .i64 0], .blk b3 25 [code.v, words0.v, .int .i64 ((Lk : Nat) : Int), .int .i64 ((R : Nat) : Int)], .at_ code, .at_ words0, .at_ script]) ∨ (S 2 = true ∧ S 4 = false ∧ S 6 = false ∧ S 7 = false ∧ ∃ (gl7002 : Nat) (gt7002 : Nat) (g7002 : Nat) (mw7002 : Ls Int) (mo7002 : Ls Int) (q7002 : Ls (Ls Wt)), (mw7002.l = words0.l) ∧ (mo7002.l = List.replicate Lk (-1)) ∧ ((memL gl7002 gt7002 g7002).qs q7002 = List.replicate code.l.length []) ∧ FrI 20 S Φ (Ψ ++ [(2, 16, .iface (memL gl7002 gt7002 g7002).T (.pointer (some (memL gl7002 gt7002 g7002).u)))]) a ∧ Sh (fun _ => False) W w [.blk g7002 205 [mw7002.v, mo7002.v], .own 3 mw7002, .own 3 mo7002, (memL gl7002 gt7002 g7002).X q7002, .blk b10 28 [.int .i64 ((checkG (pgOf code words0 ((Lk : Nat) : Int) ((R : Nat) : Int))).code), .int .i64 ((checkG (pgOf code words0 ((Lk : Nat) : Int) ((R : Nat) : Int))).thread), .int .i64 ((checkG (pgOf code words0 ((Lk : Nat) : Int) ((R : Nat) : Int))).at_)], .blk b5 28 [.int .i64 0, .int .i64 0, .int .i64 0], .blk b4 49 [(.slice none 0 0), .int .i64 0, (.slice none 0 0), .int .i64 0], .blk b3 25 [code.v, words0.v, .int .i64 ((Lk : Nat) : Int), .int .i64 ((R : Nat) : Int)], .at_ code, .at_ words0, .at_ script]) ∨ (S 2 = true ∧ S 4 = true ∧ S 6 = false ∧ S 7 = false ∧ ∃ (gl7002 : Nat) (gt7002 : Nat) (g7002 : Nat) (mw7002 : Ls Int) (mo7002 : Ls Int) (q7002 : Ls (Ls Wt)) (pr7004 : Ls Int) (wd7004 : Ls Int) (st7004 : Int) (sn7004 : Nat), (mw7002.l = words0.l) ∧ (mo7002.l = List.replicate Lk (-1)) ∧ ((memL gl7002 gt7002 g7002).qs q7002 = List.replicate code.l.length []) ∧ (runM (pgN code words0 Lk R) (memL gl7002 gt7002 g7002).m script.l = ⟨st7004, sn7004, wd7004.l, pr7004.l⟩) ∧ FrI 20 S Φ (Ψ ++ [(2, 16, .iface (memL gl7002 gt7002 g7002).T (.pointer (some (memL gl7002 gt7002 g7002).u))), (4, 18, .agg #[pr7004.v, .int .i64 st7004, wd7004.v, .int .i64 ((sn7004 : Nat) : Int)])]) a ∧ Sh (fun _ => False) W w [.own 3 pr7004, .own 3 wd7004, .blk b10 28 [.int .i64 ((checkG (pgOf code words0 ((Lk : Nat) : Int) ((R : Nat) : Int))).code), .int .i64 ((checkG (pgOf code words0 ((Lk : Nat) : Int) ((R : Nat) : Int))).thread), .int .i64 ((checkG (pgOf code words0 ((Lk : Nat) : Int) ((R : Nat) : Int))).at_)], .blk b5 28 [.int .i64 0, .int .i64 0, .int .i64 0], .blk b4 49 [(.slice none 0 0), .int .i64 0, (.slice none 0 0), .int .i64 0], .blk b3 25 [code.v, words0.v, .int .i64 ((Lk : Nat) : Int), .int .i64 ((R : Nat) : Int)], .at_ words0]) ∨ (S 2 = true ∧ S 4 = true ∧ S 6 = true ∧ S 7 = false ∧ ∃ (gl7002 : Nat) (gt7002 : Nat) (g7002 : Nat) (mw7002 : Ls Int) (mo7002 : Ls Int) (q7002 : Ls (Ls Wt)) (pr7004 : Ls Int) (wd7004 : Ls Int) (st7004 : Int) (sn7004 : Nat), (mw7002.l = words0.l) ∧ (mo7002.l = List.replicate Lk (-1)) ∧ ((memL gl7002 gt7002 g7002).qs q7002 = List.replicate code.l.length []) ∧ (runM (pgN code words0 Lk R) (memL gl7002 gt7002 g7002).m script.l = ⟨st7004, sn7004, wd7004.l, pr7004.l⟩) ∧ FrI 20 S Φ (Ψ ++ [(2, 16, .iface (memL gl7002 gt7002 g7002).T (.pointer (some (memL gl7002 gt7002 g7002).u))), (4, 18, .agg #[pr7004.v, .int .i64 st7004, wd7004.v, .int .i64 ((sn7004 : Nat) : Int)])]) a ∧ Sh (fun _ => False) W w [.own 3 pr7004, .own 3 wd7004, .blk b10 28 [.int .i64 ((checkG (pgOf code words0 ((Lk : Nat) : Int) ((R : Nat) : Int))).code), .int .i64 ((checkG (pgOf code words0 ((Lk : Nat) : Int) ((R : Nat) : Int))).thread), .int .i64 ((checkG (pgOf code words0 ((Lk : Nat) : Int) ((R : Nat) : Int))).at_)], .blk b5 28 [.int .i64 0, .int .i64 0, .int .i64 0], .blk b4 49 [pr7004.v, .int .i64 st7004, wd7004.v, .int .i64 ((sn7004 : Nat) : Int)], .blk b3 25 [code.v, words0.v, .int .i64 ((Lk : Nat) : Int), .int .i64 ((R : Nat) : Int)], .at_ words0]) ∨ (S 2 = true ∧ S 4 = true ∧ S 6 = true ∧ S 7 = true ∧ ∃ (gl7002 : Nat) (gt7002 : Nat) (g7002 : Nat) (mw7002 : Ls Int) (mo7002 : Ls Int) (q7002 : Ls (Ls Wt)) (pr7004 : Ls Int) (wd7004 : Ls Int) (st7004 : Int) (sn7004 : Nat), (mw7002.l = words0.l) ∧ (mo7002.l = List.replicate Lk (-1)) ∧ ((memL gl7002 gt7002 g7002).qs q7002 = List.replicate code.l.length []) ∧ (runM (pgN code words0 Lk R) (memL gl7002 gt7002 g7002).m script.l = ⟨st7004, sn7004, wd7004.l, pr7004.l⟩) ∧ FrI 20 S Φ (Ψ ++ [(2, 16, .iface (memL gl7002 gt7002 g7002).T (.pointer (some (memL gl7002 gt7002 g7002).u))), (4, 18, .agg #[pr7004.v, .int .i64 st7004, wd7004.v, .int .i64 ((sn7004 : Nat) : Int)])]) a ∧ Sh (fun _ => False) W w [.own 3 pr7004, .own 3 wd7004, .blk b10 28 [.int .i64 ((checkG (pgOf code words0 ((Lk : Nat) : Int) ((R : Nat) : Int))).code), .int .i64 ((checkG (pgOf code words0 ((Lk : Nat) : Int) ((R : Nat) : Int))).thread), .int .i64 ((checkG (pgOf code words0 ((Lk : Nat) : Int) ((R : Nat) : Int))).at_)], .blk b5 28 [.int .i64 0, .int .i64 0, .int .i64 0], .blk b4 49 [pr7004.v, .int .i64 st7004, wd7004.v, .int .i64 ((sn7004 : Nat) : Int)], .blk b3 25 [code.v, words0.v, .int .i64 ((Lk : Nat) : Int), .int .i64 ((R : Nat) : Int)], .at_ words0])) [(0, .agg #[code.v, words0.v, .int .i64 ((Lk : Nat) : Int), .int .i64 ((R : Nat) : Int)]), (1, script.v), (2, .pointer (some ⟨b3, 0, none⟩)), (4, .pointer (some ⟨b4, 0, none⟩)), (5, .pointer (some ⟨b5, 0, none⟩)), (6, .pointer (some ⟨b10, 0, none⟩)), (7, .agg #[code.v, words0.v, .int .i64 ((Lk : Nat) : Int), .int .i64 ((R : Nat) : Int)]), (8, .agg #[.int .i64 ((checkG (pgOf code words0 ((Lk : Nat) : Int) ((R : Nat) : Int))).code), .int .i64 ((checkG (pgOf code words0 ((Lk : Nat) : Int) ((R : Nat) : Int))).thread), .int .i64 ((checkG (pgOf code words0 ((Lk : Nat) : Int) ((R : Nat) : Int))).at_)]), (9, .pointer (some ⟨b10, 0, none⟩)), (10, .int .i64 ((checkG (pgOf code words0 ((Lk : Nat) : Int) ((R : Nat) : Int))).code)), (11, .bool (decide ((checkG (pgOf code words0 ((Lk : Nat) : Int) ((R : Nat) : Int))).code ≠ 0)))] [(0, 14, .agg #[code.v, words0.v, .int .i64 ((Lk : Nat) : Int), .int .i64 ((R : Nat) : Int)]), (1, 15, .agg #[code.v, words0.v, .int .i64 ((Lk : Nat) : Int), .int .i64 ((R : Nat) : Int)]), (3, 17, script.v), (5, 19, .agg #[.int .i64 0, .int .i64 0, .int .i64 0])]) (by kernel_rfl) (by kernel_rfl) (Or.inl (⟨rfl, rfl, rfl, rfl, FrI.start h17.fr, h17.sh.drew⟩)) ?_ ?_
 ·intro S i o ho hSi hcl hdep a w hI
  clear h17
  rcases i with _ | _ | _ | _ | _ | _ | _ | _ | i
  ·obtain rfl : _ = o := Option.some.inj ho
   rcases hI with ⟨ν2, ν4, ν6, ν7, φ, ς⟩ | ⟨ν2, ν4, ν6, ν7, gl7002, gt7002, g7002, mw7002, mo7002, q7002, hmw7002, hmo7002, hq7002, φ, ς⟩ | ⟨_, ν4, _⟩ | ⟨_, ν4, _⟩ | ⟨_, ν4, _⟩
   ·exact sq φ φ.fr0 ς (r_ldbw (i := 3) (vs := [code.v, words0.v, .int .i64 ((Lk : Nat) : Int), .int .i64 ((R : Nat) : Int)]) ti_25 rfl rfl rfl rfl rfl) 0 rfl rfl rfl rfl rfl rfl fun a hg => Or.inl (⟨un rfl ν2, un rfl ν4, un rfl ν6, un rfl ν7, hg, ς⟩)
   ·exact sq φ φ.fr0 ς (r_ldbw (i := 7) (vs := [code.v, words0.v, .int .i64 ((Lk : Nat) : Int), .int .i64 ((R : Nat) : Int)]) ti_25 rfl rfl rfl rfl rfl) 0 rfl rfl rfl rfl rfl rfl fun a hg => Or.inr (Or.inl (⟨un rfl ν2, un rfl ν4, un rfl ν6, un rfl ν7, gl7002, gt7002, g7002, mw7002, mo7002, q7002, hmw7002, hmo7002, hq7002, hg, ς⟩))
   ·exact no_way (cA hcl 4 0 rfl ν4) hSi
   ·exact no_way (cA hcl 4 0 rfl ν4) hSi
   ·exact no_way (cA hcl 4 0 rfl ν4) hSi
  ·obtain rfl : _ = o := Option.some.inj ho
   rcases hI with ⟨ν2, ν4, ν6, ν7, φ, ς⟩ | ⟨ν2, _⟩ | ⟨ν2, _⟩ | ⟨ν2, _⟩ | ⟨ν2, _⟩
   ·exact sq φ φ.fr0 ς (r_ldbw (i := 3) (vs := [code.v, words0.v, .int .i64 ((Lk : Nat) : Int), .int .i64 ((R : Nat) : Int)]) ti_25 rfl rfl rfl rfl rfl) 1 rfl rfl rfl rfl rfl rfl fun a hg => Or.inl (⟨un rfl ν2, un rfl ν4, un rfl ν6, un rfl ν7, hg, ς⟩)
   ·exact no_way (cA hcl 2 1 rfl ν2) hSi
   ·exact no_way (cA hcl 2 1 rfl ν2) hSi
   ·exact no_way (cA hcl 2 1 rfl ν2) hSi
   ·exact no_way (cA hcl 2 1 rfl ν2) hSi
  ·obtain rfl : _ = o := Option.some.inj ho
   have hd1 : S 1 = true := depAt hdep 0 rfl rfl
   rcases hI with ⟨ν2, ν4, ν6, ν7, φ, ς⟩ | ⟨ν2, _⟩ | ⟨ν2, _⟩ | ⟨ν2, _⟩ | ⟨ν2, _⟩
   ·have hs := St.mk (Fr.cons φ.fr0 (φ.at_ 1 1 15 _ rfl hd1)) ς
    refine step_ex (x_call hs bd_82 rfl rfl rfl rfl rfl (lbegin_c code words0 Lk ((R : Nat) : Int) _ (hs.sh.at 4 rfl) (hs.sh.at 5 rfl) (by omega) hwn hlk)) (wanted_none rfl _) ?_
    rintro a28 w28 ⟨_, ⟨gl28, gt28, g28, mw28, mo28, q28, rfl, hmw28, hmo28, hq28, hs28⟩, hf28⟩ ⟨v0, ht28⟩
    have h28 := (⟨hf28, hs.sh.call hs28 (by intro A hA b hb; simp only [memA, List.mem_cons, List.not_mem_nil, or_false] at hA; first | (subst hA; exact Flat.noRd hb) | (rcases hA with rfl | rfl | rfl | rfl <;> first | exact (hb : False).elim | exact Flat.noRd hb | exact (memT_rd hb).elim | exact (memL_rd hb).elim))⟩ : St 20 (fun _ => False) W a28 w28 _ _)
    clear hf28 hs28
    exact Or.inr (Or.inl (⟨upd_self _ _, un rfl ν4, un rfl ν6, un rfl ν7, gl28, gt28, g28, mw28, mo28, q28, hmw28, hmo28, hq28, φ.stepW hcl hSi [0, 1, 2, 3] (by kernel_rfl) (by kernel_rfl) ht28 h28.fr.defers (h28.fr.at_ 16 _ rfl) 4 rfl rfl rfl rfl, (h28.sh.sel (L' := [.blk g28 205 [mw28.v, mo28.v], .own 3 mw28, .own 3 mo28, (memL gl28 gt28 g28).X q28, .blk b10 28 [.int .i64 ((checkG (pgOf code words0 ((Lk : Nat) : Int) ((R : Nat) : Int))).code), .int .i64 ((checkG (pgOf code words0 ((Lk : Nat) : Int) ((R : Nat) : Int))).thread), .int .i64 ((checkG (pgOf code words0 ((Lk : Nat) : Int) ((R : Nat) : Int))).at_)], .blk b5 28 [.int .i64 0, .int .i64 0, .int .i64 0], .blk b4 49 [(.slice none 0 0), .int .i64 0, (.slice none 0 0), .int .i64 0], .blk b3 25 [code.v, words0.v, .int .i64 ((Lk : Nat) : Int), .int .i64 ((R : Nat) : Int)], .at_ code, .at_ words0, .at_ script]) [0, 1, 2, 3, 4, 5, 6, 7, 8, 9, 10] (by decide) ⟨rfl, rfl, rfl, rfl, rfl, rfl, rfl, rfl, rfl, rfl, rfl, trivial⟩)⟩))
   ·exact no_way ν2 hSi
   ·exact no_way ν2 hSi
   ·exact no_way ν2 hSi
   ·exact no_way ν2 hSi
  ·obtain rfl : _ = o := Option.some.inj ho
   rcases hI with ⟨ν2, ν4, ν6, ν7, φ, ς⟩ | ⟨ν2, ν4, ν6, ν7, gl7002, gt7002, g7002, mw7002, mo7002, q7002, hmw7002, hmo7002, hq7002, φ, ς⟩ | ⟨_, ν4, _⟩ | ⟨_, ν4, _⟩ | ⟨_, ν4, _⟩
   ·exact sq φ φ.fr0 ς (r_move rfl rfl) 2 rfl rfl rfl rfl rfl rfl fun a hg => Or.inl (⟨un rfl ν2, un rfl ν4, un rfl ν6, un rfl ν7, hg, ς⟩)
   ·exact sq φ φ.fr0 ς (r_move rfl rfl) 2 rfl rfl rfl rfl rfl rfl fun a hg => Or.inr (Or.inl (⟨un rfl ν2, un rfl ν4, un rfl ν6, un rfl ν7, gl7002, gt7002, g7002, mw7002, mo7002, q7002, hmw7002, hmo7002, hq7002, hg, ς⟩))
   ·exact no_way (cA hcl 4 3 rfl ν4) hSi
   ·exact no_way (cA hcl 4 3 rfl ν4) hSi
   ·exact no_way (cA hcl 4 3 rfl ν4) hSi
  ·obtain rfl : _ = o := Option.some.inj ho
   have hd0 : S 0 = true := depAt hdep 0 rfl rfl
   have hd2 : S 2 = true := depAt hdep 1 rfl rfl
   have hd3 : S 3 = true := depAt hdep 2 rfl rfl
   rcases hI with ⟨ν2, _⟩ | ⟨ν2, ν4, ν6, ν7, gl7002, gt7002, g7002, mw7002, mo7002, q7002, hmw7002, hmo7002, hq7002, φ, ς⟩ | ⟨_, ν4, _⟩ | ⟨_, ν4, _⟩ | ⟨_, ν4, _⟩
   ·exact no_way hd2 ν2
   ·have hs := St.mk (Fr.cons (Fr.cons (Fr.cons φ.fr0 (φ.at_ 0 0 14 _ rfl hd0)) (φ.at_ 4 2 16 _ rfl hd2)) (φ.at_ 2 3 17 _ rfl hd3)) ς
    have h31 := hs.sel (L' := [.blk g7002 205 [mw7002.v, mo7002.v], .own 3 mw7002, .own 3 mo7002, (memL gl7002 gt7002 g7002).X q7002, .at_ code, .at_ script, .blk b10 28 [.int .i64 ((checkG (pgOf code words0 ((Lk : Nat) : Int) ((R : Nat) : Int))).code), .int .i64 ((checkG (pgOf code words0 ((Lk : Nat) : Int) ((R : Nat) : Int))).thread), .int .i64 ((checkG (pgOf code words0 ((Lk : Nat) : Int) ((R : Nat) : Int))).at_)], .blk b5 28 [.int .i64 0, .int .i64 0, .int .i64 0], .blk b4 49 [(.slice none 0 0), .int .i64 0, (.slice none 0 0), .int .i64 0], .blk b3 25 [code.v, words0.v, .int .i64 ((Lk : Nat) : Int), .int .i64 ((R : Nat) : Int)], .at_ words0]) [0, 1, 2, 3, 8, 10, 4, 5, 6, 7, 9] (by decide) ⟨rfl, rfl, rfl, rfl, rfl, rfl, rfl, rfl, rfl, rfl, rfl, trivial⟩
    have hp32 := h31.sh.passL (Lp := [.blk g7002 205 [mw7002.v, mo7002.v], .own 3 mw7002, .own 3 mo7002, (memL gl7002 gt7002 g7002).X q7002, .at_ code, .at_ script])
    refine step_ex (x_call h31 bd_75 rfl rfl rfl rfl rfl (pgo_c _ (memL gl7002 gt7002 g7002) code words0 script mw7002 mo7002 q7002 _ Lk R _ (memL_ok gl7002 gt7002 g7002) hp32 hok hq7002 hmw7002 hmo7002)) (wanted_none rfl _) ?_
    rintro a33 w33 ⟨_, ⟨pr33, wd33, st33, sn33, rfl, hrun33, hs33⟩, hf33⟩ ⟨v0, ht33⟩
    have h33 : St 20 (fun _ => False) W a33 w33 _ [.own 3 pr33, .own 3 wd33, .blk b10 28 [.int .i64 ((checkG (pgOf code words0 ((Lk : Nat) : Int) ((R : Nat) : Int))).code), .int .i64 ((checkG (pgOf code words0 ((Lk : Nat) : Int) ((R : Nat) : Int))).thread), .int .i64 ((checkG (pgOf code words0 ((Lk : Nat) : Int) ((R : Nat) : Int))).at_)], .blk b5 28 [.int .i64 0, .int .i64 0, .int .i64 0], .blk b4 49 [(.slice none 0 0), .int .i64 0, (.slice none 0 0), .int .i64 0], .blk b3 25 [code.v, words0.v, .int .i64 ((Lk : Nat) : Int), .int .i64 ((R : Nat) : Int)], .at_ words0] := ⟨hf33, h31.sh.backL (Lp := [.blk g7002 205 [mw7002.v, mo7002.v], .own 3 mw7002, .own 3 mo7002, (memL gl7002 gt7002 g7002).X q7002, .at_ code, .at_ script]) hs33 (by intro A hA b hb; simp only [List.mem_cons, List.not_mem_nil, or_false] at hA; rcases hA with rfl | rfl <;> first | exact (hb : False).elim | exact Flat.noRd hb | exact .inl ⟨_, List.mem_cons_self .., .inr hb⟩ | exact .inl ⟨_, by simp, .inr hb⟩)⟩
    clear hf33 hs33
    exact Or.inr (Or.inr (Or.inl (⟨un rfl ν2, upd_self _ _, un rfl ν6, un rfl ν7, gl7002, gt7002, g7002, mw7002, mo7002, q7002, pr33, wd33, st33, sn33, hmw7002, hmo7002, hq7002, hrun33, φ.stepW hcl hSi [0, 1, 2, 3, 4] (by kernel_rfl) (by kernel_rfl) ht33 h33.fr.defers (h33.fr.at_ 18 _ rfl) 5 rfl rfl rfl rfl, (h33.sh.sel (L' := [.own 3 pr33, .own 3 wd33, .blk b10 28 [.int .i64 ((checkG (pgOf code words0 ((Lk : Nat) : Int) ((R : Nat) : Int))).code), .int .i64 ((checkG (pgOf code words0 ((Lk : Nat) : Int) ((R : Nat) : Int))).thread), .int .i64 ((checkG (pgOf code words0 ((Lk : Nat) : Int) ((R : Nat) : Int))).at_)], .blk b5 28 [.int .i64 0, .int .i64 0, .int .i64 0], .blk b4 49 [(.slice none 0 0), .int .i64 0, (.slice none 0 0), .int .i64 0], .blk b3 25 [code.v, words0.v, .int .i64 ((Lk : Nat) : Int), .int .i64 ((R : Nat) : Int)], .at_ words0]) [0, 1, 2, 3, 4, 5, 6] (by decide) ⟨rfl, rfl, rfl, rfl, rfl, rfl, rfl, trivial⟩)⟩)))
   ·exact no_way ν4 hSi
   ·exact no_way ν4 hSi
   ·exact no_way ν4 hSi
  ·obtain rfl : _ = o := Option.some.inj ho
   rcases hI with ⟨ν2, ν4, ν6, ν7, φ, ς⟩ | ⟨ν2, ν4, ν6, ν7, gl7002, gt7002, g7002, mw7002, mo7002, q7002, hmw7002, hmo7002, hq7002, φ, ς⟩ | ⟨ν2, ν4, ν6, ν7, gl7002, gt7002, g7002, mw7002, mo7002, q7002, pr7004, wd7004, st7004, sn7004, hmw7002, hmo7002, hq7002, hrun7004, φ, ς⟩ | ⟨ν2, ν4, ν6, ν7, gl7002, gt7002, g7002, mw7002, mo7002, q7002, pr7004, wd7004, st7004, sn7004, hmw7002, hmo7002, hq7002, hrun7004, φ, ς⟩ | ⟨_, _, _, ν7, _⟩
   ·exact sq φ φ.fr0 ς (r_build (cs := [.int .i64 0, .int .i64 0, .int .i64 0]) rfl rfl (by kernel_rfl)) 3 rfl rfl rfl rfl rfl rfl fun a hg => Or.inl (⟨un rfl ν2, un rfl ν4, un rfl ν6, un rfl ν7, hg, ς⟩)
   ·exact sq φ φ.fr0 ς (r_build (cs := [.int .i64 0, .int .i64 0, .int .i64 0]) rfl rfl (by kernel_rfl)) 3 rfl rfl rfl rfl rfl rfl fun a hg => Or.inr (Or.inl (⟨un rfl ν2, un rfl ν4, un rfl ν6, un rfl ν7, gl7002, gt7002, g7002, mw7002, mo7002, q7002, hmw7002, hmo7002, hq7002, hg, ς⟩))
   ·exact sq φ φ.fr0 ς (r_build (cs := [.int .i64 0, .int .i64 0, .int .i64 0]) rfl rfl (by kernel_rfl)) 3 rfl rfl rfl rfl rfl rfl fun a hg => Or.inr (Or.inr (Or.inl (⟨un rfl ν2, un rfl ν4, un rfl ν6, un rfl ν7, gl7002, gt7002, g7002, mw7002, mo7002, q7002, pr7004, wd7004, st7004, sn7004, hmw7002, hmo7002, hq7002, hrun7004, hg, ς⟩)))
   ·exact sq φ φ.fr0 ς (r_build (cs := [.int .i64 0, .int .i64 0, .int .i64 0]) rfl rfl (by kernel_rfl)) 3 rfl rfl rfl rfl rfl rfl fun a hg => Or.inr (Or.inr (Or.inr (Or.inl (⟨un rfl ν2, un rfl ν4, un rfl ν6, un rfl ν7, gl7002, gt7002, g7002, mw7002, mo7002, q7002, pr7004, wd7004, st7004, sn7004, hmw7002, hmo7002, hq7002, hrun7004, hg, ς⟩))))
   ·exact no_way (cA hcl 7 5 rfl ν7) hSi
  ·obtain rfl : _ = o := Option.some.inj ho
   have hd4 : S 4 = true := depAt hdep 0 rfl rfl
   have hd2 : S 2 = true := depAt hdep 4 rfl rfl
   rcases hI with ⟨ν2, _⟩ | ⟨_, ν4, _⟩ | ⟨ν2, ν4, ν6, ν7, gl7002, gt7002, g7002, mw7002, mo7002, q7002, pr7004, wd7004, st7004, sn7004, hmw7002, hmo7002, hq7002, hrun7004, φ, ς⟩ | ⟨_, _, ν6, _⟩ | ⟨_, _, ν6, _⟩
   ·exact no_way hd2 ν2
   ·exact no_way hd4 ν4
   ·have hs := St.mk (Fr.cons φ.fr0 (φ.at_ 5 4 18 _ rfl hd4)) ς
    refine step_ex (x_stb (i := 4) (vs := [pr7004.v, .int .i64 st7004, wd7004.v, .int .i64 ((sn7004 : Nat) : Int)]) (cs' := [pr7004.v, .int .i64 st7004, wd7004.v, .int .i64 ((sn7004 : Nat) : Int)]) hs ti_49 rfl rfl rfl rfl rfl rfl rfl (allOne_cons ((hs.sh.own 0 rfl)).one (allOne_cons rfl (allOne_cons ((hs.sh.own 1 rfl)).one (allOne_cons rfl allOne_nil)))) (Nat.le_of_ble_eq_true rfl) rfl) (wanted_none rfl _) ?_
    rintro a38 w38 h38 ⟨v0, ht38⟩
    exact Or.inr (Or.inr (Or.inr (Or.inl (⟨un rfl ν2, un rfl ν4, upd_self _ _, un rfl ν7, gl7002, gt7002, g7002, mw7002, mo7002, q7002, pr7004, wd7004, st7004, sn7004, hmw7002, hmo7002, hq7002, hrun7004, φ.noneW hcl hSi [0, 1, 2, 3, 4, 5] (by kernel_rfl) (by kernel_rfl) ht38 h38.fr.defers rfl, (h38.sh.sel (L' := [.own 3 pr7004, .own 3 wd7004, .blk b10 28 [.int .i64 ((checkG (pgOf code words0 ((Lk : Nat) : Int) ((R : Nat) : Int))).code), .int .i64 ((checkG (pgOf code words0 ((Lk : Nat) : Int) ((R : Nat) : Int))).thread), .int .i64 ((checkG (pgOf code words0 ((Lk : Nat) : Int) ((R : Nat) : Int))).at_)], .blk b5 28 [.int .i64 0, .int .i64 0, .int .i64 0], .blk b4 49 [pr7004.v, .int .i64 st7004, wd7004.v, .int .i64 ((sn7004 : Nat) : Int)], .blk b3 25 [code.v, words0.v, .int .i64 ((Lk : Nat) : Int), .int .i64 ((R : Nat) : Int)], .at_ words0]) [0, 1, 2, 3, 4, 5, 6] (by decide) ⟨rfl, rfl, rfl, rfl, rfl, rfl, rfl, trivial⟩)⟩))))
   ·exact no_way ν6 hSi
   ·exact no_way ν6 hSi
  ·obtain rfl : _ = o := Option.some.inj ho
   have hd5 : S 5 = true := depAt hdep 0 rfl rfl
   have hd6 : S 6 = true := depAt hdep 1 rfl rfl
   have hd2 : S 2 = true := depAt hdep 4 rfl rfl
   have hd4 : S 4 = true := depAt hdep 6 rfl rfl
   rcases hI with ⟨ν2, _⟩ | ⟨_, ν4, _⟩ | ⟨_, _, ν6, _⟩ | ⟨ν2, ν4, ν6, ν7, gl7002, gt7002, g7002, mw7002, mo7002, q7002, pr7004, wd7004, st7004, sn7004, hmw7002, hmo7002, hq7002, hrun7004, φ, ς⟩ | ⟨_, _, _, ν7, _⟩
   ·exact no_way hd2 ν2
   ·exact no_way hd4 ν4
   ·exact no_way hd6 ν6
   ·have hs := St.mk (Fr.cons φ.fr0 (φ.at_ 3 5 19 _ rfl hd5)) ς
    refine step_ex (x_stb (i := 3) (vs := [.int .i64 0, .int .i64 0, .int .i64 0]) (cs' := [.int .i64 0, .int .i64 0, .int .i64 0]) hs ti_28 rfl rfl rfl rfl rfl rfl rfl (allOne_cons rfl (allOne_cons rfl (allOne_cons rfl allOne_nil))) (Nat.le_of_ble_eq_true rfl) rfl) (wanted_none rfl _) ?_
    rintro a39 w39 h39 ⟨v0, ht39⟩
    exact Or.inr (Or.inr (Or.inr (Or.inr (⟨un rfl ν2, un rfl ν4, un rfl ν6, upd_self _ _, gl7002, gt7002, g7002, mw7002, mo7002, q7002, pr7004, wd7004, st7004, sn7004, hmw7002, hmo7002, hq7002, hrun7004, φ.noneW hcl hSi [0, 1, 2, 3, 4, 5] (by kernel_rfl) (by kernel_rfl) ht39 h39.fr.defers rfl, (h39.sh.sel (L' := [.own 3 pr7004, .own 3 wd7004, .blk b10 28 [.int .i64 ((checkG (pgOf code words0 ((Lk : Nat) : Int) ((R : Nat) : Int))).code), .int .i64 ((checkG (pgOf code words0 ((Lk : Nat) : Int) ((R : Nat) : Int))).thread), .int .i64 ((checkG (pgOf code words0 ((Lk : Nat) : Int) ((R : Nat) : Int))).at_)], .blk b5 28 [.int .i64 0, .int .i64 0, .int .i64 0], .blk b4 49 [pr7004.v, .int .i64 st7004, wd7004.v, .int .i64 ((sn7004 : Nat) : Int)], .blk b3 25 [code.v, words0.v, .int .i64 ((Lk : Nat) : Int), .int .i64 ((R : Nat) : Int)], .at_ words0]) [0, 1, 2, 3, 4, 5, 6] (by decide) ⟨rfl, rfl, rfl, rfl, rfl, rfl, rfl, trivial⟩)⟩))))
   ·exact no_way ν7 hSi
  · simp at ho
 intro S hall a w hI
 clear h17
 rcases hI with ⟨ν2, ν4, ν6, ν7, φ, ς⟩ | ⟨ν2, ν4, ν6, ν7, gl7002, gt7002, g7002, mw7002, mo7002, q7002, hmw7002, hmo7002, hq7002, φ, ς⟩ | ⟨ν2, ν4, ν6, ν7, gl7002, gt7002, g7002, mw7002, mo7002, q7002, pr7004, wd7004, st7004, sn7004, hmw7002, hmo7002, hq7002, hrun7004, φ, ς⟩ | ⟨ν2, ν4, ν6, ν7, gl7002, gt7002, g7002, mw7002, mo7002, q7002, pr7004, wd7004, st7004, sn7004, hmw7002, hmo7002, hq7002, hrun7004, φ, ς⟩ | ⟨ν2, ν4, ν6, ν7, gl7002, gt7002, g7002, mw7002, mo7002, q7002, pr7004, wd7004, st7004, sn7004, hmw7002, hmo7002, hq7002, hrun7004, φ, ς⟩
 · exact no_way (hall 2 (by decide)) ν2
 · exact no_way (hall 4 (by decide)) ν4
 · exact no_way (hall 6 (by decide)) ν6
 · exact no_way (hall 7 (by decide)) ν7
 have h40 : St 20 (fun _ => False) W a w _ [.own 3 pr7004, .own 3 wd7004, .blk b10 28 [.int .i64 ((checkG (pgOf code words0 ((Lk : Nat) : Int) ((R : Nat) : Int))).code), .int .i64 ((checkG (pgOf code words0 ((Lk : Nat) : Int) ((R : Nat) : Int))).thread), .int .i64 ((checkG (pgOf code words0 ((Lk : Nat) : Int) ((R : Nat) : Int))).at_)], .blk b5 28 [.int .i64 0, .int .i64 0, .int .i64 0], .blk b4 49 [pr7004.v, .int .i64 st7004, wd7004.v, .int .i64 ((sn7004 : Nat) : Int)], .blk b3 25 [code.v, words0.v, .int .i64 ((Lk : Nat) : Int), .int .i64 ((R : Nat) : Int)], .at_ words0] := ⟨φ.fr0, ς⟩
 clear hall φ ς ν2 ν4 ν6 ν7
 refine hK16 _ _ <| wp_ret ?_
 try simp only [Exit.then, Exit.inBlock]
 refine x_ret2c (fn := Try.f38) (t := 4) (t2 := 5) (i := 4) (i2 := 3) ti_49 ti_28 rfl h40 rfl rfl rfl rfl rfl rfl ?_
 exact ⟨pr7004, wd7004, st7004, sn7004, rfl, hrun7004, (h40.sh.sel (L' := [.own 3 pr7004, .own 3 wd7004]) [0, 1] (by decide) ⟨rfl, rfl, trivial⟩)⟩

set_option maxRecDepth 100000 in
set_option maxHeartbeats 4000000 in
theorem psoRun_b (code : Ls (Ls Ins)) (words script : Ls Int) (locks regs : Int) (W : World) (hcode : code.At W) (hwords : words.At W) (hscript : script.At W) (hz : (checkG (pgOf code words locks regs)).code ≠ 0) :
    Rets Try.prog 38 [.agg #[code.v, words.v, .int .i64 locks, .int .i64 regs], script.v] W (fun v w' => v = .tuple #[.agg #[.slice none 0 0, .int .i64 0, .slice none 0 0, .int .i64 0], (checkG (pgOf code words locks regs)).val] ∧ Sh0 W w' []) := by
 refine x_enter (N := 20) Try.func38 rfl Try.ntmps38 (Nat.le_of_ble_eq_true rfl) fun a1 hf1 => ?_
 have h1 : St 20 (fun _ => False) W a1 W [(0, .agg #[code.v, words.v, .int .i64 locks, .int .i64 regs]), (1, script.v)] [.at_ code, .at_ words, .at_ script] := ⟨hf1.sub ⟨rfl, rfl, trivial⟩, Sh0.ext3 hcode hwords hscript⟩
 clear hf1
 refine wp_seq_k fun K2 hK2 => wp_region_lit <| wl_ex (x_box (cs := [code.v, words.v, .int .i64 locks, .int .i64 regs]) h1 rfl rfl rfl rfl rfl) (wanted_none rfl _) ?_
 rintro a3 w3 ⟨b3, h3⟩; clear h1
 refine wl_ex (x_alloc h3 ti_49 rfl rfl rfl) (wanted_none rfl _) ?_
 rintro a4 w4 ⟨b4, h4⟩; clear h3
 refine wl_ex (x_alloc h4 ti_28 rfl rfl rfl) (wanted_none rfl _) ?_
 rintro a5 w5 ⟨b5, h5⟩; clear h4
 refine wpList_nil <| hK2 _ _ <| wp_seq_k fun K6 hK6 => wp_seq_k fun K7 hK7 => wp_region_lit <| wv h5 (r_ldbw (i := 2) (vs := [code.v, words.v, .int .i64 locks, .int .i64 regs]) ti_25 rfl rfl rfl rfl rfl) rfl rfl fun a8 h8 => wl_ex (x_call h8 bd_46 rfl rfl rfl rfl rfl (asmCheck_c (code := code) (words := words) (locks := locks) (regs := regs) (h8.sh.at 3 rfl) (h8.sh.at 4 rfl))) (wanted_none rfl _) ?_; clear h5
 rintro a9 w9 ⟨_, ⟨rfl, hs9⟩, hf9⟩
 have h9 : St 20 (fun _ => False) W a9 w9 _ _ := ⟨hf9, h8.sh.call0 hs9⟩
 clear hf9 hs9
 clear h8
 refine wl_ex (x_alloc h9 ti_28 rfl rfl rfl) (wanted_none rfl _) ?_
 rintro a10 w10 ⟨b10, h10⟩; clear h9
 refine wl_ex (x_stb (i := 0) (vs := [.int .i64 ((checkG (pgOf code words locks regs)).code), .int .i64 ((checkG (pgOf code words locks regs)).thread), .int .i64 ((checkG (pgOf code words locks regs)).at_)]) (cs' := [.int .i64 ((checkG (pgOf code words locks regs)).code), .int .i64 ((checkG (pgOf code words locks regs)).thread), .int .i64 ((checkG (pgOf code words locks regs)).at_)]) h10 ti_28 rfl rfl rfl rfl rfl rfl rfl (allOne_cons rfl (allOne_cons rfl (allOne_cons rfl allOne_nil))) (Nat.le_of_ble_eq_true rfl) rfl) (wanted_none rfl _) ?_
 rintro a11 w11 h11
 clear h10
 refine wpList_nil <| hK7 _ _ <| wp_seq_k fun K12 hK12 => wp_region_lit <| wv h11 (r_fieldB (r := 0) fl_28_0 rfl rfl rfl) rfl rfl fun a13 h13 => wv h13 (r_ldb (i := 0) ti_26 rfl rfl rfl rfl) rfl rfl fun a14 h14 => wv h14 (r_neqI (p := (checkG (pgOf code words locks regs)).code) (q := 0) rfl rfl rfl) rfl rfl fun a15 h15 => wpList_nil <| hK12 _ _ <| x_condT h15 rfl (decide_eq_true hz) <| wp_seq_k fun K16 hK16 => ?_; clear h11 h13 h14
 have h17 : St 20 (fun _ => False) W a15 w11 [(0, .agg #[code.v, words.v, .int .i64 locks, .int .i64 regs]), (1, script.v), (2, .pointer (some ⟨b3, 0, none⟩)), (4, .pointer (some ⟨b4, 0, none⟩)), (5, .pointer (some ⟨b5, 0, none⟩)), (6, .pointer (some ⟨b10, 0, none⟩)), (7, .agg #[code.v, words.v, .int .i64 locks, .int .i64 regs]), (8, .agg #[.int .i64 ((checkG (pgOf code words locks regs)).code), .int .i64 ((checkG (pgOf code words locks regs)).thread), .int .i64 ((checkG (pgOf code words locks regs)).at_)]), (9, .pointer (some ⟨b10, 0, none⟩)), (10, .int .i64 ((checkG (pgOf code words locks regs)).code)), (11, .bool (decide ((checkG (pgOf code words locks regs)).code ≠ 0)))] [.blk b10 28 [.int .i64 ((checkG (pgOf code words locks regs)).code), .int .i64 ((checkG (pgOf code words locks regs)).thread), .int .i64 ((checkG (pgOf code words locks regs)).at_)], .blk b5 28 [.int .i64 0, .int .i64 0, .int .i64 0], .blk b4 49 [(.slice none 0 0), .int .i64 0, (.slice none 0 0), .int .i64 0], .blk b3 25 [code.v, words.v, .int .i64 locks, .int .i64 regs], .at_ code, .at_ words, .at_ script] := h15.nrm ⟨rfl, rfl, rfl, rfl, rfl, rfl, rfl, rfl, rfl, rfl, rfl, trivial⟩ [0, 1, 2, 3, 4, 5, 6] (by decide) ⟨rfl, rfl, rfl, rfl, rfl, rfl, rfl, trivial⟩
 clear h15
 refine x_any ((fun Φ Ψ S a w => (S 2 = false ∧ S 3 = false ∧ FrI 20 S Φ Ψ a ∧ Sh (fun _ => False) W w [.blk b10 28 [.int .i64 ((checkG (pgOf code words locks regs)).code), .int .i64 ((checkG (pgOf code words locks regs)).thread), .int .i64 ((checkG (pgOf code words locks regs)).at_)], .blk b5 28 [.int .i64 0, .int .i64 0, .int .i64 0], .blk b4 49 [(.slice none 0 0), .int .i64 0, (.slice none 0 0), .int .i64 0], .blk b3 25 [code.v, words.v, .int .i64 locks, .int .i64 regs], .at_ code, .at_ words, .at_ script]) ∨ (S 2 = true ∧ S 3 = false ∧ FrI 20 S Φ Ψ a ∧ Sh (fun _ => False) W w [.blk b10 28 [.int .i64 ((checkG (pgOf code words locks regs)).code), .int .i64 ((checkG (pgOf code words locks regs)).thread), .int .i64 ((checkG (pgOf code words locks regs)).at_)], .blk b5 28 [.int .i64 0, .int .i64 0, .int .i64 0], .blk b4 49 [(.slice none 0 0), .int .i64 0, (.slice none 0 0), .int .i64 0], .blk b3 25 [code.v, words.v, .int .i64 locks, .int .i64 regs], .at_ code, .at_ words, .at_ script]) ∨ (S 2 = true ∧ S 3 = true ∧ FrI 20 S Φ Ψ a ∧ Sh (fun _ => False) W w [.blk b10 28 [.int .i64 ((checkG (pgOf code words locks regs)).code), .int .i64 ((checkG (pgOf code words locks regs)).thread), .int .i64 ((checkG (pgOf code words locks regs)).at_)], .blk b5 28 [.int .i64 ((checkG (pgOf code words locks regs)).code), .int .i64 ((checkG (pgOf code words locks regs)).thread), .int .i64 ((checkG (pgOf code words locks regs)).at_)], .blk b4 49 [(.slice none 0 0), .int .i64 0, (.slice none 0 0), .int .i64 0], .blk b3 25 [code.v, words.v, .int .i64 locks, .int .i64 regs], .at_ code, .at_ words, .at_ script])) [(0, .agg #[code.v, words.v, .int .i64 locks, .int .i64 regs]), (1, script.v), (2, .pointer (some ⟨b3, 0, none⟩)), (4, .pointer (some ⟨b4, 0, none⟩)), (5, .pointer (some ⟨b5, 0, none⟩)), (6, .pointer (some ⟨b10, 0, none⟩)), (7, .agg #[code.v, words.v, .int .i64 locks, .int .i64 regs]), (8, .agg #[.int .i64 ((checkG (pgOf code words locks regs)).code), .int .i64 ((checkG (pgOf code words locks regs)).thread), .int .i64 ((checkG (pgOf code words locks regs)).at_)]), (9, .pointer (some ⟨b10, 0, none⟩)), (10, .int .i64 ((checkG (pgOf code words locks regs)).code)), (11, .bool (decide ((checkG (pgOf code words locks regs)).code ≠ 0)))] [(0, 12, .agg #[(.slice none 0 0), .int .i64 0, (.slice none 0 0), .int .i64 0]), (1, 13, .agg #[.int .i64 ((checkG (pgOf code words locks regs)).code), .int .i64 ((checkG (pgOf code words locks regs)).thread), .int .i64 ((checkG (pgOf code words locks regs)).at_)])]) (by kernel_rfl) (by kernel_rfl) (Or.inl (⟨rfl, rfl, FrI.start h17.fr, h17.sh.drew⟩)) ?_ ?_
 ·intro S i o ho hSi hcl hdep a w hI
  clear h17
  rcases i with _ | _ | _ | _ | i
  ·obtain rfl : _ = o := Option.some.inj ho
   rcases hI with ⟨ν2, ν3, φ, ς⟩ | ⟨ν2, _⟩ | ⟨ν2, _⟩
   ·exact sq φ φ.fr0 ς (r_build (cs := [(.slice none 0 0), .int .i64 0, (.slice none 0 0), .int .i64 0]) rfl rfl (by kernel_rfl)) 0 rfl rfl rfl rfl rfl rfl fun a hg => Or.inl (⟨un rfl ν2, un rfl ν3, hg, ς⟩)
   ·exact no_way (cA hcl 2 0 rfl ν2) hSi
   ·exact no_way (cA hcl 2 0 rfl ν2) hSi
  ·obtain rfl : _ = o := Option.some.inj ho
   rcases hI with ⟨ν2, ν3, φ, ς⟩ | ⟨ν2, ν3, φ, ς⟩ | ⟨_, ν3, _⟩
   ·exact sq φ φ.fr0 ς (r_ldbw (i := 0) (vs := [.int .i64 ((checkG (pgOf code words locks regs)).code), .int .i64 ((checkG (pgOf code words locks regs)).thread), .int .i64 ((checkG (pgOf code words locks regs)).at_)]) ti_28 rfl rfl rfl rfl rfl) 1 rfl rfl rfl rfl rfl rfl fun a hg => Or.inl (⟨un rfl ν2, un rfl ν3, hg, ς⟩)
   ·exact sq φ φ.fr0 ς (r_ldbw (i := 0) (vs := [.int .i64 ((checkG (pgOf code words locks regs)).code), .int .i64 ((checkG (pgOf code words locks regs)).thread), .int .i64 ((checkG (pgOf code words locks regs)).at_)]) ti_28 rfl rfl rfl rfl rfl) 1 rfl rfl rfl rfl rfl rfl fun a hg => Or.inr (Or.inl (⟨un rfl ν2, un rfl ν3, hg, ς⟩))
   ·exact no_way (cA hcl 3 1 rfl ν3) hSi
  ·obtain rfl : _ = o := Option.some.inj ho
   have hd0 : S 0 = true := depAt hdep 0 rfl rfl
   rcases hI with ⟨ν2, ν3, φ, ς⟩ | ⟨ν2, _⟩ | ⟨ν2, _⟩
   ·have hs := St.mk (Fr.cons φ.fr0 (φ.at_ 0 0 12 _ rfl hd0)) ς
    refine step_ex (x_stb (i := 2) (vs := [(.slice none 0 0), .int .i64 0, (.slice none 0 0), .int .i64 0]) (cs' := [(.slice none 0 0), .int .i64 0, (.slice none 0 0), .int .i64 0]) hs ti_49 rfl rfl rfl rfl rfl rfl rfl (allOne_cons rfl (allOne_cons rfl (allOne_cons rfl (allOne_cons rfl allOne_nil)))) (Nat.le_of_ble_eq_true rfl) rfl) (wanted_none rfl _) ?_
    rintro a22 w22 h22 ⟨v0, ht22⟩
    exact Or.inr (Or.inl (⟨upd_self _ _, un rfl ν3, φ.noneW hcl hSi [0, 1] (by kernel_rfl) (by kernel_rfl) ht22 h22.fr.defers rfl, (h22.sh.sel (L' := [.blk b10 28 [.int .i64 ((checkG (pgOf code words locks regs)).code), .int .i64 ((checkG (pgOf code words locks regs)).thread), .int .i64 ((checkG (pgOf code words locks regs)).at_)], .blk b5 28 [.int .i64 0, .int .i64 0, .int .i64 0], .blk b4 49 [(.slice none 0 0), .int .i64 0, (.slice none 0 0), .int .i64 0], .blk b3 25 [code.v, words.v, .int .i64 locks, .int .i64 regs], .at_ code, .at_ words, .at_ script]) [0, 1, 2, 3, 4, 5, 6] (by decide) ⟨rfl, rfl, rfl, rfl, rfl, rfl, rfl, trivial⟩)⟩))
   ·exact no_way ν2 hSi
   ·exact no_way ν2 hSi
  ·obtain rfl : _ = o := Option.some.inj ho
   have hd1 : S 1 = true := depAt hdep 0 rfl rfl
   have hd2 : S 2 = true := depAt hdep 1 rfl rfl
   rcases hI with ⟨ν2, _⟩ | ⟨ν2, ν3, φ, ς⟩ | ⟨_, ν3, _⟩
   ·exact no_way hd2 ν2
   ·have hs := St.mk (Fr.cons φ.fr0 (φ.at_ 1 1 13 _ rfl hd1)) ς
    refine step_ex (x_stb (i := 1) (vs := [.int .i64 ((checkG (pgOf code words locks regs)).code), .int .i64 ((checkG (pgOf code words locks regs)).thread), .int .i64 ((checkG (pgOf code words locks regs)).at_)]) (cs' := [.int .i64 ((checkG (pgOf code words locks regs)).code), .int .i64 ((checkG (pgOf code words locks regs)).thread), .int .i64 ((checkG (pgOf code words locks regs)).at_)]) hs ti_28 rfl rfl rfl rfl rfl rfl rfl (allOne_cons rfl (allOne_cons rfl (allOne_cons rfl allOne_nil))) (Nat.le_of_ble_eq_true rfl) rfl) (wanted_none rfl _) ?_
    rintro a23 w23 h23 ⟨v0, ht23⟩
    exact Or.inr (Or.inr (⟨un rfl ν2, upd_self _ _, φ.noneW hcl hSi [0, 1] (by kernel_rfl) (by kernel_rfl) ht23 h23.fr.defers rfl, (h23.sh.sel (L' := [.blk b10 28 [.int .i64 ((checkG (pgOf code words locks regs)).code), .int .i64 ((checkG (pgOf code words locks regs)).thread), .int .i64 ((checkG (pgOf code words locks regs)).at_)], .blk b5 28 [.int .i64 ((checkG (pgOf code words locks regs)).code), .int .i64 ((checkG (pgOf code words locks regs)).thread), .int .i64 ((checkG (pgOf code words locks regs)).at_)], .blk b4 49 [(.slice none 0 0), .int .i64 0, (.slice none 0 0), .int .i64 0], .blk b3 25 [code.v, words.v, .int .i64 locks, .int .i64 regs], .at_ code, .at_ words, .at_ script]) [0, 1, 2, 3, 4, 5, 6] (by decide) ⟨rfl, rfl, rfl, rfl, rfl, rfl, rfl, trivial⟩)⟩))
   ·exact no_way ν3 hSi
  · simp at ho
 intro S hall a w hI
 clear h17
 rcases hI with ⟨ν2, ν3, φ, ς⟩ | ⟨ν2, ν3, φ, ς⟩ | ⟨ν2, ν3, φ, ς⟩
 · exact no_way (hall 2 (by decide)) ν2
 · exact no_way (hall 3 (by decide)) ν3
 have h24 : St 20 (fun _ => False) W a w _ [.blk b10 28 [.int .i64 ((checkG (pgOf code words locks regs)).code), .int .i64 ((checkG (pgOf code words locks regs)).thread), .int .i64 ((checkG (pgOf code words locks regs)).at_)], .blk b5 28 [.int .i64 ((checkG (pgOf code words locks regs)).code), .int .i64 ((checkG (pgOf code words locks regs)).thread), .int .i64 ((checkG (pgOf code words locks regs)).at_)], .blk b4 49 [(.slice none 0 0), .int .i64 0, (.slice none 0 0), .int .i64 0], .blk b3 25 [code.v, words.v, .int .i64 locks, .int .i64 regs], .at_ code, .at_ words, .at_ script] := ⟨φ.fr0, ς⟩
 clear hall φ ς ν2 ν3
 refine hK16 _ _ <| wp_ret ?_
 try simp only [Exit.then, Exit.inBlock]
 refine x_ret2c (fn := Try.f38) (t := 4) (t2 := 5) (i := 2) (i2 := 1) ti_49 ti_28 rfl h24 rfl rfl rfl rfl rfl rfl ?_
 exact ⟨rfl, (h24.sh.sel [] (by decide) trivial)⟩


end Go.Proofs.Ytfpaahkleienoaa
