/-
  Are these colours of a program? The document.
-/
import Derived.Test.YtfpaahkleienoaaX37
namespace Go.Proofs.Ytfpaahkleienoaa
open Go.RowKit
set_option linter.unusedSimpArgs false
set_option linter.unusedVariables false


/-- What is wrong with one colour, at hand of another. -/
def cellB (c : List Ins) (cl : List Int) (f : Nat → Nat → Bool) (r s : Nat) : Bool := decide (0 ≤ nth cl r) && (clTo c f c.length r s && decide (nth cl s = nth cl r))
def rowB (c : List Ins) (cl : List Int) (f : Nat → Nat → Bool) (R r : Nat) : Bool := decide (-1 ≤ nth cl r ∧ nth cl r < 6) && (List.range R).all fun s => !cellB c cl f r s
def thB (c : List Ins) (cl : List Int) (f : Nat → Nat → Bool) (R : Nat) : Bool := decide (cl.length = R) && (List.range R).all (rowB c cl f R)
/-- Are these colours of a program? -/
def colsB (code : List (Ls Ins)) (cols : List (Ls Int)) (f : Nat → Nat → Nat → Bool) (R : Nat) : Bool := decide (cols.length = code.length) && (List.range cols.length).all fun t => thB (nth code t).l (nth cols t).l (f t) R
theorem cellB_f {c : List Ins} {cl : List Int} {f : Nat → Nat → Bool} {r s : Nat} (h : ¬ 0 ≤ nth cl r ∨ clTo c f c.length r s = false ∨ ¬ nth cl s = nth cl r) : cellB c cl f r s = false := by
  unfold cellB
  rcases h with h | h | h
  · rw [decide_eq_false h]; rfl
  · rw [h]; simp
  · rw [decide_eq_false h]; simp
theorem cellB_t {c : List Ins} {cl : List Int} {f : Nat → Nat → Bool} {r s : Nat} (h1 : 0 ≤ nth cl r) (h2 : clTo c f c.length r s = true) (h3 : nth cl s = nth cl r) : cellB c cl f r s = true := by
  unfold cellB; rw [decide_eq_true h1, h2, decide_eq_true h3]; rfl
theorem rowB_t {c : List Ins} {cl : List Int} {f : Nat → Nat → Bool} {R r : Nat} (h : -1 ≤ nth cl r ∧ nth cl r < 6) (hs : ∀ s, s < R → cellB c cl f r s = false) : rowB c cl f R r = true := by
  unfold rowB; rw [decide_eq_true h, Bool.true_and, List.all_eq_true]; intro s h9; rw [hs s (by simpa using h9)]; rfl
theorem rowB_f1 {c : List Ins} {cl : List Int} {f : Nat → Nat → Bool} {R r : Nat} (h : ¬ (-1 ≤ nth cl r ∧ nth cl r < 6)) : rowB c cl f R r = false := by unfold rowB; rw [decide_eq_false h]; rfl
theorem rowB_f2 {c : List Ins} {cl : List Int} {f : Nat → Nat → Bool} {R r s : Nat} (hs : s < R) (h : cellB c cl f r s = true) : rowB c cl f R r = false := by
  unfold rowB
  rw [Bool.and_eq_false_iff]
  refine .inr (List.all_eq_false.2 ⟨s, by simpa using hs, ?_⟩)
  rw [h]; decide
theorem thB_t {c : List Ins} {cl : List Int} {f : Nat → Nat → Bool} {R : Nat} (h : cl.length = R) (hr : ∀ r, r < R → rowB c cl f R r = true) : thB c cl f R = true := by
  unfold thB; rw [decide_eq_true h, Bool.true_and, List.all_eq_true]; intro r h9; exact hr r (by simpa using h9)
theorem thB_f1 {c : List Ins} {cl : List Int} {f : Nat → Nat → Bool} {R : Nat} (h : ¬ cl.length = R) : thB c cl f R = false := by unfold thB; rw [decide_eq_false h]; rfl
theorem thB_f2 {c : List Ins} {cl : List Int} {f : Nat → Nat → Bool} {R r : Nat} (hr : r < R) (h : rowB c cl f R r = false) : thB c cl f R = false := by
  unfold thB
  rw [Bool.and_eq_false_iff]
  refine .inr (List.all_eq_false.2 ⟨r, by simpa using hr, ?_⟩)
  rw [h]; decide
theorem colsB_t {code : List (Ls Ins)} {cols : List (Ls Int)} {f : Nat → Nat → Nat → Bool} {R : Nat} (h : cols.length = code.length) (ht : ∀ t, t < cols.length → thB (nth code t).l (nth cols t).l (f t) R = true) : colsB code cols f R = true := by
  unfold colsB; rw [decide_eq_true h, Bool.true_and, List.all_eq_true]; intro t h9; exact ht t (by simpa using h9)
theorem colsB_f1 {code : List (Ls Ins)} {cols : List (Ls Int)} {f : Nat → Nat → Nat → Bool} {R : Nat} (h : ¬ cols.length = code.length) : colsB code cols f R = false := by unfold colsB; rw [decide_eq_false h]; rfl
theorem colsB_f2 {code : List (Ls Ins)} {cols : List (Ls Int)} {f : Nat → Nat → Nat → Bool} {R t : Nat} (ht : t < cols.length) (h : thB (nth code t).l (nth cols t).l (f t) R = false) : colsB code cols f R = false := by
  unfold colsB
  rw [Bool.and_eq_false_iff]
  refine .inr (List.all_eq_false.2 ⟨t, by simpa using ht, ?_⟩)
  rw [h]; decide
theorem clash_at {s : Ls (Ls Bool)} {R : Nat} {g : Nat → Nat → Bool} (h : s.l.map (·.l) = (List.range R).map (fun a => (List.range R).map fun b => g a b)) : s.l.length = R ∧ ∀ a, a < R → (nth s.l a).l.length = R ∧ ∀ b, b < R → nth (nth s.l a).l b = g a b := by
  have hl : s.l.length = R := by have := congrArg List.length h; simpa using this
  refine ⟨hl, fun a ha => ?_⟩
  have e : (nth s.l a).l = (List.range R).map fun b => g a b := by rw [← nth_map' (fun x : Ls Bool => x.l) s.l a (by omega), h]; exact nth_mapR ha
  rw [e]
  exact ⟨by simp, fun b hb => nth_mapR hb⟩

theorem all_step {n : Nat} {P : Nat → Prop} (h : ∀ j, j < n → P j) (h2 : P n) : ∀ j, j < n + 1 → P j := fun j hj => by
  rcases Nat.lt_or_eq_of_le (Nat.le_of_lt_succ hj) with h3 | h3
  · exact h j h3
  · subst h3; exact h2

set_option maxRecDepth 100000 in
set_option maxHeartbeats 8000000 in
theorem rColours_c (code : Ls (Ls Ins)) (words : Ls Int) (locks regs : Int) (cols : Ls (Ls Int)) (f : Nat → Nat → Nat → Bool) (W : World) (hcode : code.At W) (hwords : words.At W) (hcols : cols.At W) (hok : OkPg (pgOf code words locks regs)) (hF : ∀ t, t < code.l.length → ∀ r j, (f t r j = true ↔ LiveI (nth code.l t).l r j)) :
    Rets Try.prog 22 [.agg #[code.v, words.v, .int .i64 locks, .int .i64 regs], cols.v] W (fun v w' => v = .bool (colsB code.l cols.l f regs.toNat) ∧ Sh0 W w' []) := by
 have hz := checkG_ok hok
 obtain ⟨hl1, hl2, hl3, hl4', hl5, hl6, hl7⟩ := ok_len hok
 have hrg := hok.regs
 have hrg1 : (pgOf code words locks regs).regs = regs := rfl
 rw [hrg1] at hrg
 refine x_enter (N := 85) Try.func22 rfl Try.ntmps22 (Nat.le_of_ble_eq_true rfl) fun a1 hf1 => ?_
 have h1 : St 85 (fun _ => False) W a1 W [(0, .agg #[code.v, words.v, .int .i64 locks, .int .i64 regs]), (1, cols.v)] [.at_ code, .at_ words, .at_ cols] := ⟨hf1.sub ⟨rfl, rfl, trivial⟩, Sh0.ext3 hcode hwords hcols⟩
 clear hf1
 refine wp_seq_k fun K2 hK2 => wp_region_lit <| wl_ex (x_box (cs := [code.v, words.v, .int .i64 locks, .int .i64 regs]) h1 rfl rfl rfl rfl rfl) (wanted_none rfl _) ?_
 rintro a3 w3 ⟨b3, h3⟩; clear h1
 refine wms 1 h3 rfl fun a4 h4 => wpList_nil <| hK2 _ _ <| wp_seq_k fun K5 hK5 => wp_seq_k fun K6 hK6 => wp_region_lit <| wms 1 h4 rfl fun a7 h7 => ?_; clear h3 h4
 have hl8 : cols.l.length ≤ 140737488355328 := (h7.sh.at 3 rfl).len
 refine wv h7 (r_len (s := cols) (n := cols.l.length) sl_35 rfl rfl (fun w h => (h.at 3 rfl)) rfl) rfl rfl fun a9 h9 => wv h9 (r_fieldB (r := 0) fl_25_0 rfl rfl rfl) rfl rfl fun a10 h10 => wv h10 (r_ldb (i := 0) ti_22 rfl rfl rfl rfl) rfl rfl fun a11 h11 => ?_; clear h7 h9 h10
 have hl12 : code.l.length ≤ 140737488355328 := (h11.sh.at 1 rfl).len
 refine wv h11 (r_len (s := code) (n := code.l.length) sl_22 rfl rfl (fun w h => (h.at 1 rfl)) rfl) rfl rfl fun a13 h13 => wv h13 (r_neqN (p := cols.l.length) (q := code.l.length) rfl rfl rfl) rfl rfl fun a14 h14 => wpList_nil <| hK6 _ _ <| x_cond h14 rfl (fun hb15 => ?_) (fun hb15 => ?_); clear h11 h13
 ·have hp15 : cols.l.length ≠ code.l.length := of_decide_eq_true hb15
  refine wp_seq_k fun K16 hK16 => wp_region_lit <| wms 1 h14 rfl fun a17 h17 => wpList_nil <| hK16 _ _ <| wp_ret ?_; clear h14
  try simp only [Exit.then, Exit.inBlock]
  refine x_ret1 (fn := Try.f22) (t := 4) rfl h17 rfl <| ⟨?_, (h17.sh.sel [] (by decide) trivial)⟩
  congr 1
  first | exact (colsB_t (by omega) fun j hj => hall j (by omega)).symm | exact (colsB_f1 (by omega)).symm | exact (colsB_f2 (t := t) (by omega) (thB_f1 (by omega))).symm | exact (colsB_f2 (t := t) (by omega) (thB_f2 (r := r) (by omega) (rowB_f1 (by omega)))).symm | exact (colsB_f2 (t := t) (by omega) (thB_f2 (r := r) (by omega) (rowB_f2 (s := q) (by omega) (cellB_t (by assumption) (by rw [← hk4 q (by omega)]; assumption) (by assumption))))).symm
 have hp15 : ¬ (cols.l.length ≠ code.l.length) := of_decide_eq_false hb15
 refine wp_skip <| hK5 _ _ <| wp_seq_k fun K18 hK18 => wp_seq_k fun K19 hK19 => wp_region_lit <| wms 1 h14 rfl fun a20 h20 => wpList_nil <| hK19 _ _ <| wp_block <| x_loop (fun m a w => ∃ (t : Nat), (t ≤ cols.l.length) ∧ (∀ j, j < t → thB (nth code.l j).l (nth cols.l j).l (f j) regs.toNat = true) ∧ St 85 (fun _ => False) W a w [(1, cols.v), (2, .pointer (some ⟨b3, 0, none⟩)), (5, .int .i64 ((t : Nat) : Int))] [.blk b3 25 [code.v, words.v, .int .i64 locks, .int .i64 regs], .at_ code, .at_ words, .at_ cols] ∧ m = cols.l.length - t) ⟨_, 0, (by omega), (fun j hj => absurd hj (by omega)), h20.nrm ⟨rfl, rfl, rfl, trivial⟩ [0, 1, 2, 3] (by decide) ⟨rfl, rfl, rfl, rfl, trivial⟩, rfl⟩ ?_; clear h14
 clear h20
 rintro m21 a21 w21 ⟨t, ht, hall, h21, hm21⟩
 refine wp_seq_k fun K22 hK22 => wp_seq_k fun K23 hK23 => wp_region_lit <| wms 2 h21 rfl fun a24 h24 => wv h24 (r_len (s := cols) (n := cols.l.length) sl_35 rfl rfl (fun w h => (h.at 3 rfl)) rfl) rfl rfl fun a25 h25 => wv h25 (r_lssN (p := t) (q := cols.l.length) rfl rfl rfl) rfl rfl fun a26 h26 => wpList_nil <| hK23 _ _ <| x_cond h26 rfl (fun hb27 => ?_) (fun hb27 => ?_); clear h21 h24 h25
 ·have hp27 : t < cols.l.length := of_decide_eq_true hb27
  refine wp_skip <| hK22 _ _ <| wp_seq_k fun K28 hK28 => wp_block <| wp_seq_k fun K29 hK29 => wp_seq_k fun K30 hK30 => x_quiet (by kernel_rfl) (by kernel_rfl) h26 fun Z31 hZ31 => ?_
  have hq31 := h26.fr
  refine wq_val hq31 (r_move rfl rfl) (wanted_none rfl _) rfl rfl fun a32 hq32 => wq_val hq32 (r_move rfl rfl) (wanted_none rfl _) rfl rfl fun a33 hq33 => wq_val hq33 (r_ixN (s := cols) (q := t) sl_35 ti_23 rfl rfl rfl (fun w h => (h.at 3 rfl)) (show t < cols.l.length from (by omega))) (wanted_none rfl _) rfl rfl fun a34 hq34 => wq_val hq34 (r_lde (s := cols) (i := t) (v := (nth cols.l t).v) ti_23 rfl rfl rfl (fun w h => (h.at 3 rfl)) (show t < cols.l.length from (by omega)) (Nat.le_of_ble_eq_true rfl) rfl) (wanted_none rfl _) rfl rfl fun a35 hq35 => ?_; clear hq31 hq32 hq33 hq34
  have hl36 : ((nth cols.l t).l).length ≤ 140737488355328 := ((h26.sh.at 3 rfl).nth t (show t < cols.l.length from (by omega))).len
  refine wq_val hq35 (r_len (s := nth cols.l t) (n := ((nth cols.l t).l).length) sl_23 rfl rfl (fun w h => ((h.at 3 rfl).nth t (show t < cols.l.length from (by omega)))) rfl) (wanted_none rfl _) rfl rfl fun a37 hq37 => wq_val hq37 (r_fieldB (r := 3) fl_25_3 rfl rfl rfl) (wanted_none rfl _) rfl rfl fun a38 hq38 => wq_val hq38 (r_ldb (i := 0) ti_3 rfl rfl rfl rfl) (wanted_none rfl _) rfl rfl fun a39 hq39 => wq_val hq39 (r_neqI (p := ((((nth cols.l t).l).length : Nat) : Int)) (q := regs) rfl rfl rfl) (wanted_none rfl _) rfl rfl fun a40 hq40 => wpQuiet_nil (hZ31 _ fun w41 hw41 => ?_); clear hq35 hq37 hq38 hq39
  have h41 : St 85 (fun _ => False) W a40 w41 _ _ := ⟨hq40, hw41⟩
  clear hq40 hw41 h26
  refine hK30 _ _ <| x_cond h41 rfl (fun hb42 => ?_) (fun hb42 => ?_)
  ·have hp42 : ((((nth cols.l t).l).length : Nat) : Int) ≠ regs := of_decide_eq_true hb42
   refine wp_seq_k fun K43 hK43 => wp_region_lit <| wms 1 h41 rfl fun a44 h44 => wpList_nil <| hK43 _ _ <| wp_ret ?_; clear h41
   try simp only [Exit.then, Exit.inBlock]
   refine x_ret1 (fn := Try.f22) (t := 4) rfl h44 rfl <| ⟨?_, (h44.sh.sel [] (by decide) trivial)⟩
   congr 1
   first | exact (colsB_t (by omega) fun j hj => hall j (by omega)).symm | exact (colsB_f1 (by omega)).symm | exact (colsB_f2 (t := t) (by omega) (thB_f1 (by omega))).symm | exact (colsB_f2 (t := t) (by omega) (thB_f2 (r := r) (by omega) (rowB_f1 (by omega)))).symm | exact (colsB_f2 (t := t) (by omega) (thB_f2 (r := r) (by omega) (rowB_f2 (s := q) (by omega) (cellB_t (by assumption) (by rw [← hk4 q (by omega)]; assumption) (by assumption))))).symm
  have hp42 : ¬ (((((nth cols.l t).l).length : Nat) : Int) ≠ regs) := of_decide_eq_false hb42
  refine wp_skip <| hK29 _ _ ?_
  obtain ⟨hl4, hjt⟩ := ok_thread hok t (by omega)
  refine wp_seq_k fun K45 hK45 => x_tail 7 [] (by kernel_rfl) (by kernel_rfl) h41 fun Z46 hZ46 => ?_
  have hq46 := h41.fr
  refine wq_val hq46 (r_fieldB (r := 0) fl_25_0 rfl rfl rfl) (wanted_none rfl _) rfl rfl fun a47 hq47 => wq_val hq47 (r_ldb (i := 0) ti_22 rfl rfl rfl rfl) (wanted_none rfl _) rfl rfl fun a48 hq48 => wq_val hq48 (r_move rfl rfl) (wanted_none rfl _) rfl rfl fun a49 hq49 => wq_val hq49 (r_ixN (s := code) (q := t) sl_22 ti_33 rfl rfl rfl (fun w h => (h.at 1 rfl)) (show t < code.l.length from (by omega))) (wanted_none rfl _) rfl rfl fun a50 hq50 => wq_val hq50 (r_lde (s := code) (i := t) (v := (nth code.l t).v) ti_33 rfl rfl rfl (fun w h => (h.at 1 rfl)) (show t < code.l.length from (by omega)) (Nat.le_of_ble_eq_true rfl) rfl) (wanted_none rfl _) rfl rfl fun a51 hq51 => wq_val hq51 (r_fieldB (r := 3) fl_25_3 rfl rfl rfl) (wanted_none rfl _) rfl rfl fun a52 hq52 => wq_val hq52 (r_ldb (i := 0) ti_3 rfl rfl rfl rfl) (wanted_none rfl _) rfl rfl fun a53 hq53 => wpQuiet_nil (hZ46 _ fun w54 hw54 => ?_); clear hq46 hq47 hq48 hq49 hq50 hq51 hq52
  have h54 : St 85 (fun _ => False) W a53 w54 _ _ := ⟨hq53, hw54⟩
  clear hq53 hw54 h41
  refine wl_ex (x_call h54 bd_59 rfl rfl rfl rfl rfl (rets_nat (by omega) (rClash_c (nth code.l t) regs (f t) _ ((h54.sh.at 1 rfl).nth t (show t < code.l.length from (by omega))) (by omega) hjt (okV_of hok t (by omega)) (hF t (by omega)) (by omega)))) (wanted_none rfl _) ?_
  rintro a55 w55 ⟨_, ⟨s55, rfl, hce55, hs55⟩, hf55⟩
  have h55 := (⟨hf55, h54.sh.call hs55 (by intro A hA b hb; first | (simp at hA; done) | (simp at hA; subst hA; first | exact Flat.noRd hb | exact (hb : False).elim) | (simp at hA; rcases hA with rfl | rfl <;> first | exact Flat.noRd hb | exact (hb : False).elim))⟩ : St 85 (fun _ => False) W a55 w55 _ _)
  clear hf55 hs55
  clear h54
  refine wms 1 h55 rfl fun a56 h56 => wpList_nil <| hK45 _ _ <| wp_seq_k fun K57 hK57 => wp_region_lit <| wms 1 h56 rfl fun a58 h58 => wpList_nil <| hK57 _ _ <| wp_block ?_; clear h55 h56
  obtain ⟨hk1, hk2⟩ := clash_at hce55
  refine x_loop (fun m a w => ∃ (r : Nat), (r ≤ regs.toNat) ∧ (∀ j, j < r → rowB (nth code.l t).l (nth cols.l t).l (f t) regs.toNat j = true) ∧ St 85 (fun _ => False) W a w [(1, cols.v), (2, .pointer (some ⟨b3, 0, none⟩)), (5, .int .i64 ((t : Nat) : Int)), (6, s55.v), (7, .int .i64 ((r : Nat) : Int))] [.deep 92 s55, .blk b3 25 [code.v, words.v, .int .i64 locks, .int .i64 regs], .at_ code, .at_ words, .at_ cols] ∧ m = regs.toNat - r) ⟨_, 0, (by omega), (fun j hj => absurd hj (by omega)), h58.nrm ⟨rfl, rfl, rfl, rfl, rfl, trivial⟩ [0, 1, 2, 3, 4] (by decide) ⟨rfl, rfl, rfl, rfl, rfl, trivial⟩, rfl⟩ ?_
  clear h58
  rintro m59 a59 w59 ⟨r, hr, hrow, h59, hm59⟩
  refine wp_seq_k fun K60 hK60 => wp_seq_k fun K61 hK61 => wp_region_lit <| wms 1 h59 rfl fun a62 h62 => wv h62 (r_fieldB (r := 3) fl_25_3 rfl rfl rfl) rfl rfl fun a63 h63 => wv h63 (r_ldb (i := 1) ti_3 rfl rfl rfl rfl) rfl rfl fun a64 h64 => wv h64 (r_lssI (p := ((r : Nat) : Int)) (q := regs) rfl rfl rfl) rfl rfl fun a65 h65 => wpList_nil <| hK61 _ _ <| x_cond h65 rfl (fun hb66 => ?_) (fun hb66 => ?_); clear h59 h62 h63 h64
  ·have hp66 : ((r : Nat) : Int) < regs := of_decide_eq_true hb66
   refine wp_skip <| hK60 _ _ <| wp_seq_k fun K67 hK67 => wp_block <| wp_seq_k fun K68 hK68 => wp_region_lit <| wms 2 h65 rfl fun a69 h69 => wv h69 (r_ixN (s := cols) (q := t) sl_35 ti_23 rfl rfl rfl (fun w h => (h.at 4 rfl)) (show t < cols.l.length from (by omega))) rfl rfl fun a70 h70 => wv h70 (r_lde (s := cols) (i := t) (v := (nth cols.l t).v) ti_23 rfl rfl rfl (fun w h => (h.at 4 rfl)) (show t < cols.l.length from (by omega)) (Nat.le_of_ble_eq_true rfl) rfl) rfl rfl fun a71 h71 => wms 1 h71 rfl fun a72 h72 => wv h72 (r_ixN (s := nth cols.l t) (q := r) sl_23 ti_3 rfl rfl rfl (fun w h => ((h.at 4 rfl).nth t (show t < cols.l.length from (by omega)))) (show r < ((nth cols.l t).l).length from (by omega))) rfl rfl fun a73 h73 => wv h73 (r_lde (s := nth cols.l t) (i := r) (v := .int .i64 (nth ((nth cols.l t).l) r)) ti_3 rfl rfl rfl (fun w h => ((h.at 4 rfl).nth t (show t < cols.l.length from (by omega)))) (show r < ((nth cols.l t).l).length from (by omega)) (Nat.le_of_ble_eq_true rfl) rfl) rfl rfl fun a74 h74 => wms 1 h74 rfl fun a75 h75 => wpList_nil ?_; clear h65 h69 h70 h71 h72 h73 h74
   refine hK68 _ _ <| wp_seq_k fun K76 hK76 => wp_seq_k fun K77 hK77 => wp_region_lit <| wms 1 h75 rfl fun a78 h78 => wv h78 (r_lssI (p := nth ((nth cols.l t).l) r) (q := (-1)) rfl rfl rfl) rfl rfl fun a79 h79 => wms 1 h79 rfl fun a80 h80 => ?_; clear h75 h78 h79
   rcases Bool.eq_false_or_eq_true (decide (nth ((nth cols.l t).l) r < (-1))) with hb81 | hb81
   ·have hp81 : nth ((nth cols.l t).l) r < (-1) := of_decide_eq_true hb81
    refine wl_skip h80 (wanted_no h80.fr rfl rfl rfl rfl hb81) rfl rfl fun a82 h82 => wl_skip h82 (wanted_no h82.fr rfl rfl rfl rfl hb81) rfl rfl fun a83 h83 => wv h83 (r_pickT rfl rfl hb81 rfl) rfl rfl fun a84 h84 => wpList_nil <| hK77 _ _ <| x_condT h84 rfl rfl <| wp_seq_k fun K85 hK85 => wp_region_lit <| wms 1 h84 rfl fun a86 h86 => wpList_nil <| hK85 _ _ ?_; clear h80 h82 h83 h84
    have h87 : St 85 (fun _ => False) W a86 w59 [(4, .bool false)] [.deep 92 s55, .blk b3 25 [code.v, words.v, .int .i64 locks, .int .i64 regs], .at_ code, .at_ words, .at_ cols] := h86.nrm ⟨rfl, trivial⟩ [0, 1, 2, 3, 4] (by decide) ⟨rfl, rfl, rfl, rfl, rfl, trivial⟩
    clear h86
    refine wp_ret ?_
    try simp only [Exit.then, Exit.inBlock]
    refine x_ret1 (fn := Try.f22) (t := 4) rfl h87 rfl <| ⟨?_, (h87.sh.sel [] (by decide) trivial)⟩
    congr 1
    first | exact (colsB_t (by omega) fun j hj => hall j (by omega)).symm | exact (colsB_f1 (by omega)).symm | exact (colsB_f2 (t := t) (by omega) (thB_f1 (by omega))).symm | exact (colsB_f2 (t := t) (by omega) (thB_f2 (r := r) (by omega) (rowB_f1 (by omega)))).symm | exact (colsB_f2 (t := t) (by omega) (thB_f2 (r := r) (by omega) (rowB_f2 (s := q) (by omega) (cellB_t (by assumption) (by rw [← hk4 q (by omega)]; assumption) (by assumption))))).symm
   have hp81 : ¬ (nth ((nth cols.l t).l) r < (-1)) := of_decide_eq_false hb81
   refine wl_val h80 (r_move rfl rfl) (wanted_yes h80.fr rfl rfl rfl rfl hb81) rfl rfl fun a88 h88 => wl_val h88 (r_geqI (p := nth ((nth cols.l t).l) r) (q := 6) rfl rfl rfl) (wanted_yes h88.fr rfl rfl rfl rfl hb81) rfl rfl fun a89 h89 => wv h89 (r_pickF rfl rfl hb81 rfl) rfl rfl fun a90 h90 => wpList_nil <| hK77 _ _ <| x_cond h90 rfl (fun hb91 => ?_) (fun hb91 => ?_); clear h80 h88 h89
   ·have hp91 : 6 ≤ nth ((nth cols.l t).l) r := of_decide_eq_true hb91
    refine wp_seq_k fun K92 hK92 => wp_region_lit <| wms 1 h90 rfl fun a93 h93 => wpList_nil <| hK92 _ _ ?_; clear h90
    have h94 : St 85 (fun _ => False) W a93 w59 [(4, .bool false)] [.deep 92 s55, .blk b3 25 [code.v, words.v, .int .i64 locks, .int .i64 regs], .at_ code, .at_ words, .at_ cols] := h93.nrm ⟨rfl, trivial⟩ [0, 1, 2, 3, 4] (by decide) ⟨rfl, rfl, rfl, rfl, rfl, trivial⟩
    clear h93
    refine wp_ret ?_
    try simp only [Exit.then, Exit.inBlock]
    refine x_ret1 (fn := Try.f22) (t := 4) rfl h94 rfl <| ⟨?_, (h94.sh.sel [] (by decide) trivial)⟩
    congr 1
    first | exact (colsB_t (by omega) fun j hj => hall j (by omega)).symm | exact (colsB_f1 (by omega)).symm | exact (colsB_f2 (t := t) (by omega) (thB_f1 (by omega))).symm | exact (colsB_f2 (t := t) (by omega) (thB_f2 (r := r) (by omega) (rowB_f1 (by omega)))).symm | exact (colsB_f2 (t := t) (by omega) (thB_f2 (r := r) (by omega) (rowB_f2 (s := q) (by omega) (cellB_t (by assumption) (by rw [← hk4 q (by omega)]; assumption) (by assumption))))).symm
   have hp91 : ¬ (6 ≤ nth ((nth cols.l t).l) r) := of_decide_eq_false hb91
   refine wp_skip <| hK76 _ _ <| wp_seq_k fun K95 hK95 => wp_region_lit <| wms 1 h90 rfl fun a96 h96 => wpList_nil <| hK95 _ _ <| wp_block ?_; clear h90
   obtain ⟨hk3, hk4⟩ := hk2 r (by omega)
   refine x_loop (fun m a w => ∃ (q : Nat), (q ≤ regs.toNat) ∧ (∀ j, j < q → cellB (nth code.l t).l (nth cols.l t).l (f t) r j = false) ∧ St 85 (fun _ => False) W a w [(1, cols.v), (2, .pointer (some ⟨b3, 0, none⟩)), (5, .int .i64 ((t : Nat) : Int)), (6, s55.v), (7, .int .i64 ((r : Nat) : Int)), (8, .int .i64 (nth ((nth cols.l t).l) r)), (9, .int .i64 ((q : Nat) : Int))] [.deep 92 s55, .blk b3 25 [code.v, words.v, .int .i64 locks, .int .i64 regs], .at_ code, .at_ words, .at_ cols] ∧ m = regs.toNat - q) ⟨_, 0, (by omega), (fun j hj => absurd hj (by omega)), h96.nrm ⟨rfl, rfl, rfl, rfl, rfl, rfl, rfl, trivial⟩ [0, 1, 2, 3, 4] (by decide) ⟨rfl, rfl, rfl, rfl, rfl, trivial⟩, rfl⟩ ?_
   clear h96
   rintro m97 a97 w97 ⟨q, hq, hcell, h97, hm97⟩
   refine wp_seq_k fun K98 hK98 => wp_seq_k fun K99 hK99 => wp_region_lit <| wms 1 h97 rfl fun a100 h100 => wv h100 (r_fieldB (r := 3) fl_25_3 rfl rfl rfl) rfl rfl fun a101 h101 => wv h101 (r_ldb (i := 1) ti_3 rfl rfl rfl rfl) rfl rfl fun a102 h102 => wv h102 (r_lssI (p := ((q : Nat) : Int)) (q := regs) rfl rfl rfl) rfl rfl fun a103 h103 => wpList_nil <| hK99 _ _ <| x_cond h103 rfl (fun hb104 => ?_) (fun hb104 => ?_); clear h97 h100 h101 h102
   ·have hp104 : ((q : Nat) : Int) < regs := of_decide_eq_true hb104
    refine wp_skip <| hK98 _ _ <| wp_seq_k fun K105 hK105 => wp_block <| wp_seq_k fun K106 hK106 => wp_region_lit <| wms 1 h103 rfl fun a107 h107 => wv h107 (r_geqI (p := nth ((nth cols.l t).l) r) (q := 0) rfl rfl rfl) rfl rfl fun a108 h108 => wms 1 h108 rfl fun a109 h109 => ?_; clear h103 h107 h108
    rcases Bool.eq_false_or_eq_true (decide (0 ≤ nth ((nth cols.l t).l) r)) with hb110 | hb110
    ·have hp110 : 0 ≤ nth ((nth cols.l t).l) r := of_decide_eq_true hb110
     refine wl_val h109 (r_move rfl rfl) (wanted_yes h109.fr rfl rfl rfl rfl hb110) rfl rfl fun a111 h111 => wl_val h111 (r_move rfl rfl) (wanted_yes h111.fr rfl rfl rfl rfl hb110) rfl rfl fun a112 h112 => ?_; clear h109 h111
     have hl113 : s55.l.length ≤ 140737488355328 := (h112.sh.deep 0 rfl).len
     refine wl_val h112 (r_ixN (s := s55) (q := r) sl_90 ti_92 rfl rfl rfl (fun w h => (h.deep 0 rfl)) (show r < s55.l.length from (by omega))) (wanted_yes h112.fr rfl rfl rfl rfl hb110) rfl rfl fun a114 h114 => wl_val h114 (r_lde (s := s55) (i := r) (v := (nth s55.l r).v) ti_92 rfl rfl rfl (fun w h => (h.deep 0 rfl)) (show r < s55.l.length from (by omega)) (Nat.le_of_ble_eq_true rfl) rfl) (wanted_yes h114.fr rfl rfl rfl rfl hb110) rfl rfl fun a115 h115 => wl_val h115 (r_move rfl rfl) (wanted_yes h115.fr rfl rfl rfl rfl hb110) rfl rfl fun a116 h116 => ?_; clear h112 h114 h115
     have hl117 : ((nth s55.l r).l).length ≤ 140737488355328 := ((h116.sh.deep 0 rfl).nth r (show r < s55.l.length from (by omega))).len
     refine wl_val h116 (r_ixN (s := nth s55.l r) (q := q) sl_92 ti_4 rfl rfl rfl (fun w h => ((h.deep 0 rfl).nth r (show r < s55.l.length from (by omega)))) (show q < ((nth s55.l r).l).length from (by omega))) (wanted_yes h116.fr rfl rfl rfl rfl hb110) rfl rfl fun a118 h118 => wl_val h118 (r_lde (s := nth s55.l r) (i := q) (v := .bool (nth ((nth s55.l r).l) q)) ti_4 rfl rfl rfl (fun w h => ((h.deep 0 rfl).nth r (show r < s55.l.length from (by omega)))) (show q < ((nth s55.l r).l).length from (by omega)) (Nat.le_of_ble_eq_true rfl) rfl) (wanted_yes h118.fr rfl rfl rfl rfl hb110) rfl rfl fun a119 h119 => wv h119 (r_pickT rfl rfl hb110 rfl) rfl rfl fun a120 h120 => wms 1 h120 rfl fun a121 h121 => ?_; clear h116 h118 h119 h120
     rcases Bool.eq_false_or_eq_true (nth ((nth s55.l r).l) q) with hb122 | hb122
     ·skip
      refine wl_val h121 (r_move rfl rfl) (wanted_yes h121.fr rfl rfl rfl rfl hb122) rfl rfl fun a123 h123 => wl_val h123 (r_move rfl rfl) (wanted_yes h123.fr rfl rfl rfl rfl hb122) rfl rfl fun a124 h124 => wl_val h124 (r_ixN (s := cols) (q := t) sl_35 ti_23 rfl rfl rfl (fun w h => (h.at 4 rfl)) (show t < cols.l.length from (by omega))) (wanted_yes h124.fr rfl rfl rfl rfl hb122) rfl rfl fun a125 h125 => wl_val h125 (r_lde (s := cols) (i := t) (v := (nth cols.l t).v) ti_23 rfl rfl rfl (fun w h => (h.at 4 rfl)) (show t < cols.l.length from (by omega)) (Nat.le_of_ble_eq_true rfl) rfl) (wanted_yes h125.fr rfl rfl rfl rfl hb122) rfl rfl fun a126 h126 => wl_val h126 (r_move rfl rfl) (wanted_yes h126.fr rfl rfl rfl rfl hb122) rfl rfl fun a127 h127 => wl_val h127 (r_ixN (s := nth cols.l t) (q := q) sl_23 ti_3 rfl rfl rfl (fun w h => ((h.at 4 rfl).nth t (show t < cols.l.length from (by omega)))) (show q < ((nth cols.l t).l).length from (by omega))) (wanted_yes h127.fr rfl rfl rfl rfl hb122) rfl rfl fun a128 h128 => wl_val h128 (r_lde (s := nth cols.l t) (i := q) (v := .int .i64 (nth ((nth cols.l t).l) q)) ti_3 rfl rfl rfl (fun w h => ((h.at 4 rfl).nth t (show t < cols.l.length from (by omega)))) (show q < ((nth cols.l t).l).length from (by omega)) (Nat.le_of_ble_eq_true rfl) rfl) (wanted_yes h128.fr rfl rfl rfl rfl hb122) rfl rfl fun a129 h129 => wl_val h129 (r_move rfl rfl) (wanted_yes h129.fr rfl rfl rfl rfl hb122) rfl rfl fun a130 h130 => wl_val h130 (r_eqlI (p := nth ((nth cols.l t).l) q) (q := nth ((nth cols.l t).l) r) rfl rfl rfl) (wanted_yes h130.fr rfl rfl rfl rfl hb122) rfl rfl fun a131 h131 => wv h131 (r_pickT rfl rfl hb122 rfl) rfl rfl fun a132 h132 => wpList_nil <| hK106 _ _ ?_; clear h121 h123 h124 h125 h126 h127 h128 h129 h130 h131
      have h133 : St 85 (fun _ => False) W a132 w97 [(1, cols.v), (2, .pointer (some ⟨b3, 0, none⟩)), (5, .int .i64 ((t : Nat) : Int)), (6, s55.v), (7, .int .i64 ((r : Nat) : Int)), (8, .int .i64 (nth ((nth cols.l t).l) r)), (9, .int .i64 ((q : Nat) : Int)), (84, .bool (decide (nth ((nth cols.l t).l) q = nth ((nth cols.l t).l) r)))] [.deep 92 s55, .blk b3 25 [code.v, words.v, .int .i64 locks, .int .i64 regs], .at_ code, .at_ words, .at_ cols] := h132.nrm ⟨rfl, rfl, rfl, rfl, rfl, rfl, rfl, rfl, trivial⟩ [0, 1, 2, 3, 4] (by decide) ⟨rfl, rfl, rfl, rfl, rfl, trivial⟩
      clear h132
      refine x_cond h133 rfl (fun hb134 => ?_) (fun hb134 => ?_)
      ·have hp134 : nth ((nth cols.l t).l) q = nth ((nth cols.l t).l) r := of_decide_eq_true hb134
       refine wp_seq_k fun K135 hK135 => wp_region_lit <| wms 1 h133 rfl fun a136 h136 => wpList_nil <| hK135 _ _ <| wp_ret ?_; clear h133
       try simp only [Exit.then, Exit.inBlock]
       refine x_ret1 (fn := Try.f22) (t := 4) rfl h136 rfl <| ⟨?_, (h136.sh.sel [] (by decide) trivial)⟩
       congr 1
       first | exact (colsB_t (by omega) fun j hj => hall j (by omega)).symm | exact (colsB_f1 (by omega)).symm | exact (colsB_f2 (t := t) (by omega) (thB_f1 (by omega))).symm | exact (colsB_f2 (t := t) (by omega) (thB_f2 (r := r) (by omega) (rowB_f1 (by omega)))).symm | exact (colsB_f2 (t := t) (by omega) (thB_f2 (r := r) (by omega) (rowB_f2 (s := q) (by omega) (cellB_t (by assumption) (by rw [← hk4 q (by omega)]; assumption) (by assumption))))).symm
      have hp134 : ¬ (nth ((nth cols.l t).l) q = nth ((nth cols.l t).l) r) := of_decide_eq_false hb134
      refine wp_skip <| hK105 _ _ <| wp_region_lit <| wms 1 h133 rfl fun a137 h137 => wv h137 (r_addN (p := q) (q := 1) rfl rfl rfl (show q + 1 < 9223372036854775808 from (by omega))) rfl rfl fun a138 h138 => wms 1 h138 rfl fun a139 h139 => wpList_nil <| x_again ⟨_, ?_, q + 1, ?_, ?_, h139.nrm ⟨rfl, rfl, rfl, rfl, rfl, rfl, rfl, trivial⟩ [0, 1, 2, 3, 4] (by decide) ⟨rfl, rfl, rfl, rfl, rfl, trivial⟩, rfl⟩; clear h133 h137 h138
      · rw [hm97]; first | omega | (simp only [lens9]; omega)
      · omega
      · exact all_step hcell (cellB_f (by rw [← hk4 q (by omega)]; first | exact .inl (by assumption) | exact .inr (.inl (by assumption)) | exact .inr (.inr (by assumption))))
     refine wl_skip h121 (wanted_no h121.fr rfl rfl rfl rfl hb122) rfl rfl fun a140 h140 => wl_skip h140 (wanted_no h140.fr rfl rfl rfl rfl hb122) rfl rfl fun a141 h141 => wl_skip h141 (wanted_no h141.fr rfl rfl rfl rfl hb122) rfl rfl fun a142 h142 => wl_skip h142 (wanted_no h142.fr rfl rfl rfl rfl hb122) rfl rfl fun a143 h143 => wl_skip h143 (wanted_no h143.fr rfl rfl rfl rfl hb122) rfl rfl fun a144 h144 => wl_skip h144 (wanted_no h144.fr rfl rfl rfl rfl hb122) rfl rfl fun a145 h145 => wl_skip h145 (wanted_no h145.fr rfl rfl rfl rfl hb122) rfl rfl fun a146 h146 => wl_skip h146 (wanted_no h146.fr rfl rfl rfl rfl hb122) rfl rfl fun a147 h147 => wl_skip h147 (wanted_no h147.fr rfl rfl rfl rfl hb122) rfl rfl fun a148 h148 => wv h148 (r_pickF rfl rfl hb122 rfl) rfl rfl fun a149 h149 => wpList_nil <| hK106 _ _ ?_; clear h121 h140 h141 h142 h143 h144 h145 h146 h147 h148
     have h150 : St 85 (fun _ => False) W a149 w97 [(1, cols.v), (2, .pointer (some ⟨b3, 0, none⟩)), (5, .int .i64 ((t : Nat) : Int)), (6, s55.v), (7, .int .i64 ((r : Nat) : Int)), (8, .int .i64 (nth ((nth cols.l t).l) r)), (9, .int .i64 ((q : Nat) : Int)), (84, .bool false)] [.deep 92 s55, .blk b3 25 [code.v, words.v, .int .i64 locks, .int .i64 regs], .at_ code, .at_ words, .at_ cols] := h149.nrm ⟨rfl, rfl, rfl, rfl, rfl, rfl, rfl, rfl, trivial⟩ [0, 1, 2, 3, 4] (by decide) ⟨rfl, rfl, rfl, rfl, rfl, trivial⟩
     clear h149
     refine x_condF h150 rfl rfl <| wp_skip <| hK105 _ _ <| wp_region_lit <| wms 1 h150 rfl fun a151 h151 => wv h151 (r_addN (p := q) (q := 1) rfl rfl rfl (show q + 1 < 9223372036854775808 from (by omega))) rfl rfl fun a152 h152 => wms 1 h152 rfl fun a153 h153 => wpList_nil <| x_again ⟨_, ?_, q + 1, ?_, ?_, h153.nrm ⟨rfl, rfl, rfl, rfl, rfl, rfl, rfl, trivial⟩ [0, 1, 2, 3, 4] (by decide) ⟨rfl, rfl, rfl, rfl, rfl, trivial⟩, rfl⟩; clear h150 h151 h152
     · rw [hm97]; first | omega | (simp only [lens9]; omega)
     · omega
     · exact all_step hcell (cellB_f (by rw [← hk4 q (by omega)]; first | exact .inl (by assumption) | exact .inr (.inl (by assumption)) | exact .inr (.inr (by assumption))))
    have hp110 : ¬ (0 ≤ nth ((nth cols.l t).l) r) := of_decide_eq_false hb110
    refine wl_skip h109 (wanted_no h109.fr rfl rfl rfl rfl hb110) rfl rfl fun a154 h154 => wl_skip h154 (wanted_no h154.fr rfl rfl rfl rfl hb110) rfl rfl fun a155 h155 => wl_skip h155 (wanted_no h155.fr rfl rfl rfl rfl hb110) rfl rfl fun a156 h156 => wl_skip h156 (wanted_no h156.fr rfl rfl rfl rfl hb110) rfl rfl fun a157 h157 => wl_skip h157 (wanted_no h157.fr rfl rfl rfl rfl hb110) rfl rfl fun a158 h158 => wl_skip h158 (wanted_no h158.fr rfl rfl rfl rfl hb110) rfl rfl fun a159 h159 => wl_skip h159 (wanted_no h159.fr rfl rfl rfl rfl hb110) rfl rfl fun a160 h160 => wv h160 (r_pickF rfl rfl hb110 rfl) rfl rfl fun a161 h161 => wms 1 h161 rfl fun a162 h162 => wl_skip h162 (wanted_no h162.fr rfl rfl rfl rfl rfl) rfl rfl fun a163 h163 => wl_skip h163 (wanted_no h163.fr rfl rfl rfl rfl rfl) rfl rfl fun a164 h164 => wl_skip h164 (wanted_no h164.fr rfl rfl rfl rfl rfl) rfl rfl fun a165 h165 => wl_skip h165 (wanted_no h165.fr rfl rfl rfl rfl rfl) rfl rfl fun a166 h166 => wl_skip h166 (wanted_no h166.fr rfl rfl rfl rfl rfl) rfl rfl fun a167 h167 => ?_; clear h109 h154 h155 h156 h157 h158 h159 h160 h161 h162 h163 h164 h165 h166
    refine wl_skip h167 (wanted_no h167.fr rfl rfl rfl rfl rfl) rfl rfl fun a168 h168 => wl_skip h168 (wanted_no h168.fr rfl rfl rfl rfl rfl) rfl rfl fun a169 h169 => wl_skip h169 (wanted_no h169.fr rfl rfl rfl rfl rfl) rfl rfl fun a170 h170 => wl_skip h170 (wanted_no h170.fr rfl rfl rfl rfl rfl) rfl rfl fun a171 h171 => wv h171 (r_pickF rfl rfl rfl rfl) rfl rfl fun a172 h172 => wpList_nil <| hK106 _ _ ?_; clear h167 h168 h169 h170 h171
    have h173 : St 85 (fun _ => False) W a172 w97 [(1, cols.v), (2, .pointer (some ⟨b3, 0, none⟩)), (5, .int .i64 ((t : Nat) : Int)), (6, s55.v), (7, .int .i64 ((r : Nat) : Int)), (8, .int .i64 (nth ((nth cols.l t).l) r)), (9, .int .i64 ((q : Nat) : Int)), (84, .bool false)] [.deep 92 s55, .blk b3 25 [code.v, words.v, .int .i64 locks, .int .i64 regs], .at_ code, .at_ words, .at_ cols] := h172.nrm ⟨rfl, rfl, rfl, rfl, rfl, rfl, rfl, rfl, trivial⟩ [0, 1, 2, 3, 4] (by decide) ⟨rfl, rfl, rfl, rfl, rfl, trivial⟩
    clear h172
    refine x_condF h173 rfl rfl <| wp_skip <| hK105 _ _ <| wp_region_lit <| wms 1 h173 rfl fun a174 h174 => wv h174 (r_addN (p := q) (q := 1) rfl rfl rfl (show q + 1 < 9223372036854775808 from (by omega))) rfl rfl fun a175 h175 => wms 1 h175 rfl fun a176 h176 => wpList_nil <| x_again ⟨_, ?_, q + 1, ?_, ?_, h176.nrm ⟨rfl, rfl, rfl, rfl, rfl, rfl, rfl, trivial⟩ [0, 1, 2, 3, 4] (by decide) ⟨rfl, rfl, rfl, rfl, rfl, trivial⟩, rfl⟩; clear h173 h174 h175
    · rw [hm97]; first | omega | (simp only [lens9]; omega)
    · omega
    · exact all_step hcell (cellB_f (by rw [← hk4 q (by omega)]; first | exact .inl (by assumption) | exact .inr (.inl (by assumption)) | exact .inr (.inr (by assumption))))
   have hp104 : ¬ (((q : Nat) : Int) < regs) := of_decide_eq_false hb104
   refine wp_exit <| hK67 _ _ <| wp_region_lit <| wms 1 h103 rfl fun a177 h177 => wv h177 (r_addN (p := r) (q := 1) rfl rfl rfl (show r + 1 < 9223372036854775808 from (by omega))) rfl rfl fun a178 h178 => wms 1 h178 rfl fun a179 h179 => wpList_nil <| x_again ⟨_, ?_, r + 1, ?_, ?_, h179.nrm ⟨rfl, rfl, rfl, rfl, rfl, trivial⟩ [0, 1, 2, 3, 4] (by decide) ⟨rfl, rfl, rfl, rfl, rfl, trivial⟩, rfl⟩; clear h103 h177 h178
   · rw [hm59]; first | omega | (simp only [lens9]; omega)
   · omega
   · exact all_step hrow (rowB_t (by omega) fun q hq => hcell q (by omega))
  have hp66 : ¬ (((r : Nat) : Int) < regs) := of_decide_eq_false hb66
  refine wp_exit <| hK28 _ _ <| wp_region_lit <| wms 1 h65 rfl fun a180 h180 => wv h180 (r_addN (p := t) (q := 1) rfl rfl rfl (show t + 1 < 9223372036854775808 from (by omega))) rfl rfl fun a181 h181 => wms 1 h181 rfl fun a182 h182 => wpList_nil <| x_again ⟨_, ?_, t + 1, ?_, ?_, h182.nrm ⟨rfl, rfl, rfl, trivial⟩ [1, 2, 3, 4] (by decide) ⟨rfl, rfl, rfl, rfl, trivial⟩, rfl⟩; clear h65 h180 h181
  · rw [hm21]; first | omega | (simp only [lens9]; omega)
  · omega
  · exact all_step hall (thB_t (by omega) fun q hq => hrow q (by omega))
 have hp27 : ¬ (t < cols.l.length) := of_decide_eq_false hb27
 refine wp_exit <| hK18 _ _ <| wp_seq_k fun K183 hK183 => wp_region_lit <| wms 1 h26 rfl fun a184 h184 => wpList_nil <| hK183 _ _ <| wp_ret ?_; clear h26
 try simp only [Exit.then, Exit.inBlock]
 refine x_ret1 (fn := Try.f22) (t := 4) rfl h184 rfl <| ⟨?_, (h184.sh.sel [] (by decide) trivial)⟩
 congr 1
 first | exact (colsB_t (by omega) fun j hj => hall j (by omega)).symm | exact (colsB_f1 (by omega)).symm | exact (colsB_f2 (t := t) (by omega) (thB_f1 (by omega))).symm | exact (colsB_f2 (t := t) (by omega) (thB_f2 (r := r) (by omega) (rowB_f1 (by omega)))).symm | exact (colsB_f2 (t := t) (by omega) (thB_f2 (r := r) (by omega) (rowB_f2 (s := q) (by omega) (cellB_t (by assumption) (by rw [← hk4 q (by omega)]; assumption) (by assumption))))).symm

end Go.Proofs.Ytfpaahkleienoaa
