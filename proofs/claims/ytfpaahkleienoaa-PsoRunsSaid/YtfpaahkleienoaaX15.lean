/-
  Contracts of functions of this program and of the references, each walked once.
-/
import Derived.Test.YtfpaahkleienoaaX0
import Derived.Test.YtfpaahkleienoaaX2
import Derived.Test.YtfpaahkleienoaaS7
namespace Go.Proofs.Ytfpaahkleienoaa
open Go.RowKit
set_option linter.unusedSimpArgs false
set_option linter.unusedVariables false


theorem and_t' {p : Prop} [Decidable p] {b c : Bool} (h : p) (e : b = c) : b = (decide p && c) := by rw [decide_eq_true h, e]; rfl
theorem and_f' {p : Prop} [Decidable p] {c : Bool} (h : ¬ p) : false = (decide p && c) := by rw [decide_eq_false h]; rfl
def ableT (code : Ls (Ls Ins)) (thr : Ls ThL) (owner : List Int) (t : Nat) : Bool := decide ((nth thr.l t).pc < ((nth code.l t).l.length : Int)) && ableL owner (nth thr.l t).wait.l.length (nextIns (nth code.l t).l (nth thr.l t).pc)
def mayT (mode : Int) (thr : Ls ThL) (t k : Nat) : List Int := ((List.range k).filter (mayK mode (nth thr.l t).wait.l)).map fun k => ((8 * t + k + 1 : Nat) : Int)
def moveT (mode : Int) (code : Ls (Ls Ins)) (thr : Ls ThL) (owner : List Int) (t : Nat) : List Int := (if ableT code thr owner t = true then [((8 * t : Nat) : Int)] else []) ++ mayT mode thr t (nth thr.l t).wait.l.length
theorem mayT_len (mode : Int) (thr : Ls ThL) (t k : Nat) : (mayT mode thr t k).length ≤ k := by
  unfold mayT
  rw [List.length_map]
  exact Nat.le_trans (List.length_filter_le _ _) (by simp)
theorem mayT_t {mode : Int} {thr : Ls ThL} {t k : Nat} (h : mayK mode (nth thr.l t).wait.l k = true) : mayT mode thr t (k + 1) = mayT mode thr t k ++ [((8 * t + k + 1 : Nat) : Int)] := by
  unfold mayT; rw [List.range_succ, List.filter_append, List.map_append]; simp [h]
theorem mayT_f {mode : Int} {thr : Ls ThL} {t k : Nat} (h : mayK mode (nth thr.l t).wait.l k = false) : mayT mode thr t (k + 1) = mayT mode thr t k := by
  unfold mayT; rw [List.range_succ, List.filter_append, List.map_append]; simp [h]
def movesL (mode : Int) (code : Ls (Ls Ins)) (thr : Ls ThL) (owner : List Int) (n : Nat) : List Int := (List.range n).flatMap (moveT mode code thr owner)
theorem movesL_succ (mode : Int) (code : Ls (Ls Ins)) (thr : Ls ThL) (owner : List Int) (n : Nat) : movesL mode code thr owner (n + 1) = movesL mode code thr owner n ++ moveT mode code thr owner n := by simp [movesL, List.range_succ]
def endT (code : Ls (Ls Ins)) (thr : Ls ThL) (t : Nat) : Bool := decide (¬ (nth thr.l t).pc < ((nth code.l t).l.length : Int)) && decide ((nth thr.l t).wait.l.length = 0)
def endedL (code : Ls (Ls Ins)) (thr : Ls ThL) : Bool := (List.range code.l.length).all (endT code thr)
theorem endT_t {code : Ls (Ls Ins)} {thr : Ls ThL} {t : Nat} (h : ¬ (nth thr.l t).pc < ((nth code.l t).l.length : Int)) (h2 : (nth thr.l t).wait.l.length = 0) : endT code thr t = true := by unfold endT; rw [decide_eq_true h, decide_eq_true h2]; rfl
theorem endedL_t {code : Ls (Ls Ins)} {thr : Ls ThL} (h : ∀ j, j < code.l.length → endT code thr j = true) : endedL code thr = true := by
  unfold endedL; rw [List.all_eq_true]; intro j hj; exact h j (by simpa using hj)
theorem endedL_f {code : Ls (Ls Ins)} {thr : Ls ThL} {t : Nat} (ht : t < code.l.length) (h : (nth thr.l t).pc < ((nth code.l t).l.length : Int) ∨ ¬ (nth thr.l t).wait.l.length = 0) : endedL code thr = false := by
  unfold endedL; rw [List.all_eq_false]
  refine ⟨t, by simpa using ht, ?_⟩
  unfold endT
  rcases h with h | h
  · rw [decide_eq_false (by omega)]; simp
  · rw [decide_eq_false h]; simp
theorem mayK_t0 {m : Int} {l : List Wt} {k : Nat} (h : k = 0) : mayK m l k = true := by unfold mayK; simp [h]
theorem mayK_f1 {m : Int} {l : List Wt} {k : Nat} (h : k ≠ 0) (h2 : m = 1 ∨ (nth l k).lock = true) : mayK m l k = false := by unfold mayK; rcases h2 with h2 | h2 <;> simp [h, h2]
theorem mayK_f2 {m : Int} {l : List Wt} {k : Nat} (h : k ≠ 0) (i : Nat) (hi : i < k) (h2 : (nth l i).lock = true ∨ (nth l i).wh = (nth l k).wh) : mayK m l k = false := by
  have e : (List.range k).all (fun i => !((nth l i).lock || decide ((nth l i).wh = (nth l k).wh))) = false := by
    rw [List.all_eq_false]
    exact ⟨i, by simpa using hi, by rcases h2 with h2 | h2 <;> simp [h2]⟩
  unfold mayK
  rw [e]
  simp [h]
theorem mayK_t {m : Int} {l : List Wt} {k : Nat} (h : m ≠ 1) (h2 : (nth l k).lock = false) (ha : ∀ j, j < k → (nth l j).lock = false ∧ (nth l j).wh ≠ (nth l k).wh) : mayK m l k = true := by
  have e : (List.range k).all (fun i => !((nth l i).lock || decide ((nth l i).wh = (nth l k).wh))) = true := by
    rw [List.all_eq_true]
    intro j hj
    obtain ⟨h3, h4⟩ := ha j (by simpa using hj)
    simp [h3, h4]
  unfold mayK
  rw [e]
  simp [h, h2]

set_option maxRecDepth 100000 in
set_option maxHeartbeats 1000000 in
theorem bit_c (b : Bool) (W : World) :
    Rets Try.prog 128 [.bool b] W (fun v w' => v = .int .i64 (bit b) ∧ Sh0 W w' []) := by
 refine x_enter (N := 4) Try.func128 rfl Try.ntmps128 (Nat.le_of_ble_eq_true rfl) fun a1 hf1 => ?_
 have h1 : St 4 (fun _ => False) W a1 W [(0, .bool b)] [] := ⟨hf1.sub ⟨rfl, trivial⟩, Sh0.start _⟩
 clear hf1
 refine wp_seq_k fun K2 hK2 => wp_region_lit <| wms 1 h1 rfl fun a3 h3 => wpList_nil <| hK2 _ _ <| wp_seq_k fun K4 hK4 => wp_seq_k fun K5 hK5 => wp_region_lit <| wms 1 h3 rfl fun a6 h6 => wpList_nil <| hK5 _ _ <| x_cond h6 rfl (fun hb7 => ?_) (fun hb7 => ?_); clear h1 h3
 ·skip
  refine wp_seq_k fun K8 hK8 => wp_region_lit <| wms 1 h6 rfl fun a9 h9 => wpList_nil <| hK8 _ _ <| wp_ret ?_; clear h6
  try simp only [Exit.then, Exit.inBlock]
  refine x_ret1 (fn := Try.f128) (t := 2) rfl h9 rfl <| ⟨?_, (h9.sh.sel [] (by decide) trivial)⟩
  first | (rw [show b = true by assumption]; rfl) | (rw [show b = false by assumption]; rfl)
 refine wp_skip <| hK4 _ _ <| wp_seq_k fun K10 hK10 => wp_region_lit <| wms 1 h6 rfl fun a11 h11 => wpList_nil <| hK10 _ _ <| wp_ret ?_; clear h6
 try simp only [Exit.then, Exit.inBlock]
 refine x_ret1 (fn := Try.f128) (t := 2) rfl h11 rfl <| ⟨?_, (h11.sh.sel [] (by decide) trivial)⟩
 first | (rw [show b = true by assumption]; rfl) | (rw [show b = false by assumption]; rfl)

set_option maxRecDepth 100000 in
set_option maxHeartbeats 1000000 in
theorem may_c (g : Nat) (l : Ls Wt) (k : Nat) (cv : Value) (pw : Value) (locks : Int) (regs : Int) (mode : Int) (tv : Value) (uv : Value) (ov : Value) (pv : Value) (fell : Bool) (W : World) (hB : Blk W g 125 #[cv, pw, .int .i64 locks, .int .i64 regs, .int .i64 mode, tv, uv, ov, pv, .bool fell]) (h_l : l.At W) (hk : k < l.l.length) :
    Rets Try.prog 126 [.pointer (some ⟨g, 0, none⟩), l.v, .int .i64 ((k : Nat) : Int)] W (fun v w' => v = .bool (mayK mode l.l k) ∧ Sh0 W w' []) := by
 refine x_enter (N := 45) Try.func126 rfl Try.ntmps126 (Nat.le_of_ble_eq_true rfl) fun a1 hf1 => ?_
 have h1 : St 45 (fun _ => False) W a1 W [(0, .pointer (some ⟨g, 0, none⟩)), (1, l.v), (2, .int .i64 ((k : Nat) : Int))] [.rblk g 125 [cv, pw, .int .i64 locks, .int .i64 regs, .int .i64 mode, tv, uv, ov, pv, .bool fell], .at_ l] := ⟨hf1.sub ⟨rfl, rfl, rfl, trivial⟩, Sh0.ext (by intro A hA; simp at hA; rcases hA with rfl | rfl; exact hB; exact h_l) (by intro A hA b hb; simp at hA; rcases hA with rfl | rfl <;> exact hb)⟩
 clear hf1
 refine wp_seq_k fun K2 hK2 => wp_region_lit <| wms 1 h1 rfl fun a3 h3 => wpList_nil <| hK2 _ _ <| wp_seq_k fun K4 hK4 => wp_seq_k fun K5 hK5 => wp_region_lit <| wms 1 h3 rfl fun a6 h6 => wv h6 (r_eqlN (p := k) (q := 0) rfl rfl rfl) rfl rfl fun a7 h7 => wpList_nil <| hK5 _ _ <| x_cond h7 rfl (fun hb8 => ?_) (fun hb8 => ?_); clear h1 h3 h6
 ·have hp8 : k = 0 := of_decide_eq_true hb8
  refine wp_seq_k fun K9 hK9 => wp_region_lit <| wms 1 h7 rfl fun a10 h10 => wpList_nil <| hK9 _ _ <| wp_ret ?_; clear h7
  try simp only [Exit.then, Exit.inBlock]
  refine x_ret1 (fn := Try.f126) (t := 6) rfl h10 rfl <| ⟨?_, (h10.sh.sel [] (by decide) trivial)⟩
  congr 1
  first | exact (mayK_t0 (by omega)).symm | exact (mayK_f1 (by omega) (by first | exact .inl (by omega) | exact .inr (by assumption))).symm | exact (mayK_f2 (by omega) i (by omega) (by first | exact .inl (by assumption) | exact .inr (by omega))).symm | exact (mayK_t (by omega) (by assumption) (fun j hj => hall j (by omega))).symm
 have hp8 : ¬ (k = 0) := of_decide_eq_false hb8
 refine wp_skip <| hK4 _ _ <| wp_seq_k fun K11 hK11 => wp_seq_k fun K12 hK12 => wp_region_lit <| wms 1 h7 rfl fun a13 h13 => wv h13 (r_nil rfl rfl) rfl rfl fun a14 h14 => wv h14 (r_fieldB (r := 4) fl_125_1 rfl rfl rfl) rfl rfl fun a15 h15 => wv h15 (r_ldbR ti_3 rfl rfl (fun w h => h.rblk 0 rfl) rfl) rfl rfl fun a16 h16 => wv h16 (r_eqlI (p := mode) (q := 1) rfl rfl rfl) rfl rfl fun a17 h17 => wms 1 h17 rfl fun a18 h18 => ?_; clear h7 h13 h14 h15 h16 h17
 rcases Bool.eq_false_or_eq_true (decide (mode = 1)) with hb19 | hb19
 ·have hp19 : mode = 1 := of_decide_eq_true hb19
  refine wl_skip h18 (wanted_no h18.fr rfl rfl rfl rfl hb19) rfl rfl fun a20 h20 => wl_skip h20 (wanted_no h20.fr rfl rfl rfl rfl hb19) rfl rfl fun a21 h21 => wl_skip h21 (wanted_no h21.fr rfl rfl rfl rfl hb19) rfl rfl fun a22 h22 => wl_skip h22 (wanted_no h22.fr rfl rfl rfl rfl hb19) rfl rfl fun a23 h23 => wl_skip h23 (wanted_no h23.fr rfl rfl rfl rfl hb19) rfl rfl fun a24 h24 => wv h24 (r_pickT rfl rfl hb19 rfl) rfl rfl fun a25 h25 => wpList_nil <| hK12 _ _ <| x_condT h25 rfl rfl <| wp_seq_k fun K26 hK26 => wp_region_lit <| wms 1 h25 rfl fun a27 h27 => wpList_nil <| hK26 _ _ ?_; clear h18 h20 h21 h22 h23 h24 h25
  refine wp_ret ?_
  try simp only [Exit.then, Exit.inBlock]
  refine x_ret1 (fn := Try.f126) (t := 6) rfl h27 rfl <| ⟨?_, (h27.sh.sel [] (by decide) trivial)⟩
  congr 1
  first | exact (mayK_t0 (by omega)).symm | exact (mayK_f1 (by omega) (by first | exact .inl (by omega) | exact .inr (by assumption))).symm | exact (mayK_f2 (by omega) i (by omega) (by first | exact .inl (by assumption) | exact .inr (by omega))).symm | exact (mayK_t (by omega) (by assumption) (fun j hj => hall j (by omega))).symm
 have hp19 : ¬ (mode = 1) := of_decide_eq_false hb19
 refine wl_val h18 (r_move rfl rfl) (wanted_yes h18.fr rfl rfl rfl rfl hb19) rfl rfl fun a28 h28 => wl_val h28 (r_move rfl rfl) (wanted_yes h28.fr rfl rfl rfl rfl hb19) rfl rfl fun a29 h29 => ?_; clear h18 h28
 have hl30 : l.l.length ≤ 140737488355328 := (h29.sh.at 1 rfl).len
 refine wl_val h29 (r_ixN (s := l) (q := k) sl_145 ti_210 rfl rfl rfl (fun w h => (h.at 1 rfl)) (show k < l.l.length from (by omega))) (wanted_yes h29.fr rfl rfl rfl rfl hb19) rfl rfl fun a31 h31 => wl_val h31 (r_fieldE (r := 0) fl_210_0 rfl rfl rfl) (wanted_yes h31.fr rfl rfl rfl rfl hb19) rfl rfl fun a32 h32 => wl_val h32 (r_lde (s := l) (i := k) (v := .bool ((nth l.l k).lock)) ti_4 rfl rfl rfl (fun w h => (h.at 1 rfl)) (show k < l.l.length from (by omega)) (Nat.le_of_ble_eq_true rfl) rfl) (wanted_yes h32.fr rfl rfl rfl rfl hb19) rfl rfl fun a33 h33 => wv h33 (r_pickF rfl rfl hb19 rfl) rfl rfl fun a34 h34 => wpList_nil <| hK12 _ _ <| x_cond h34 rfl (fun hb35 => ?_) (fun hb35 => ?_); clear h29 h31 h32 h33
 ·skip
  refine wp_seq_k fun K36 hK36 => wp_region_lit <| wms 1 h34 rfl fun a37 h37 => wpList_nil <| hK36 _ _ <| wp_ret ?_; clear h34
  try simp only [Exit.then, Exit.inBlock]
  refine x_ret1 (fn := Try.f126) (t := 6) rfl h37 rfl <| ⟨?_, (h37.sh.sel [] (by decide) trivial)⟩
  congr 1
  first | exact (mayK_t0 (by omega)).symm | exact (mayK_f1 (by omega) (by first | exact .inl (by omega) | exact .inr (by assumption))).symm | exact (mayK_f2 (by omega) i (by omega) (by first | exact .inl (by assumption) | exact .inr (by omega))).symm | exact (mayK_t (by omega) (by assumption) (fun j hj => hall j (by omega))).symm
 refine wp_skip <| hK11 _ _ <| wp_seq_k fun K38 hK38 => wp_seq_k fun K39 hK39 => wp_region_lit <| wms 1 h34 rfl fun a40 h40 => wpList_nil <| hK39 _ _ <| wp_block <| x_loop (fun m a w => ∃ (i : Nat), (i ≤ k) ∧ (∀ j, j < i → (nth l.l j).lock = false ∧ (nth l.l j).wh ≠ (nth l.l k).wh) ∧ St 45 (fun _ => False) W a w [(1, l.v), (2, .int .i64 ((k : Nat) : Int)), (7, .int .i64 ((i : Nat) : Int))] [.rblk g 125 [cv, pw, .int .i64 locks, .int .i64 regs, .int .i64 mode, tv, uv, ov, pv, .bool fell], .at_ l] ∧ m = k - i) ⟨_, 0, (by omega), (fun j hj => absurd hj (by omega)), h40.nrm ⟨rfl, rfl, rfl, trivial⟩ [0, 1] (by decide) ⟨rfl, rfl, trivial⟩, rfl⟩ ?_; clear h34
 clear h40
 rintro m41 a41 w41 ⟨i, hi, hall, h41, hm41⟩
 refine wp_seq_k fun K42 hK42 => wp_seq_k fun K43 hK43 => wp_region_lit <| wms 2 h41 rfl fun a44 h44 => wv h44 (r_lssN (p := i) (q := k) rfl rfl rfl) rfl rfl fun a45 h45 => wpList_nil <| hK43 _ _ <| x_cond h45 rfl (fun hb46 => ?_) (fun hb46 => ?_); clear h41 h44
 ·have hp46 : i < k := of_decide_eq_true hb46
  refine wp_skip <| hK42 _ _ <| wp_seq_k fun K47 hK47 => wp_block <| wp_seq_k fun K48 hK48 => x_quiet (by kernel_rfl) (by kernel_rfl) h45 fun Z49 hZ49 => ?_
  have hq49 := h45.fr
  refine wq_val hq49 (r_move rfl rfl) (wanted_none rfl _) rfl rfl fun a50 hq50 => wq_val hq50 (r_move rfl rfl) (wanted_none rfl _) rfl rfl fun a51 hq51 => wq_val hq51 (r_ixN (s := l) (q := i) sl_145 ti_210 rfl rfl rfl (fun w h => (h.at 1 rfl)) (show i < l.l.length from (by omega))) (wanted_none rfl _) rfl rfl fun a52 hq52 => wq_val hq52 (r_fieldE (r := 0) fl_210_0 rfl rfl rfl) (wanted_none rfl _) rfl rfl fun a53 hq53 => wq_val hq53 (r_lde (s := l) (i := i) (v := .bool ((nth l.l i).lock)) ti_4 rfl rfl rfl (fun w h => (h.at 1 rfl)) (show i < l.l.length from (by omega)) (Nat.le_of_ble_eq_true rfl) rfl) (wanted_none rfl _) rfl rfl fun a54 hq54 => wq_val hq54 (r_move rfl rfl) (wanted_none rfl _) rfl rfl fun a55 hq55 => ?_; clear hq49 hq50 hq51 hq52 hq53 hq54
  rcases Bool.eq_false_or_eq_true ((nth l.l i).lock) with hb56 | hb56
  ·skip
   refine wq_skip hq55 (wanted_no hq55 rfl rfl rfl rfl hb56) rfl rfl fun a57 hq57 => wq_skip hq57 (wanted_no hq57 rfl rfl rfl rfl hb56) rfl rfl fun a58 hq58 => wq_skip hq58 (wanted_no hq58 rfl rfl rfl rfl hb56) rfl rfl fun a59 hq59 => wq_skip hq59 (wanted_no hq59 rfl rfl rfl rfl hb56) rfl rfl fun a60 hq60 => wq_skip hq60 (wanted_no hq60 rfl rfl rfl rfl hb56) rfl rfl fun a61 hq61 => wq_skip hq61 (wanted_no hq61 rfl rfl rfl rfl hb56) rfl rfl fun a62 hq62 => wq_skip hq62 (wanted_no hq62 rfl rfl rfl rfl hb56) rfl rfl fun a63 hq63 => wq_skip hq63 (wanted_no hq63 rfl rfl rfl rfl hb56) rfl rfl fun a64 hq64 => wq_skip hq64 (wanted_no hq64 rfl rfl rfl rfl hb56) rfl rfl fun a65 hq65 => wq_skip hq65 (wanted_no hq65 rfl rfl rfl rfl hb56) rfl rfl fun a66 hq66 => wq_skip hq66 (wanted_no hq66 rfl rfl rfl rfl hb56) rfl rfl fun a67 hq67 => wq_val hq67 (r_pickT rfl rfl hb56 rfl) (wanted_none rfl _) rfl rfl fun a68 hq68 => wpQuiet_nil (hZ49 _ fun w69 hw69 => ?_); clear hq55 hq57 hq58 hq59 hq60 hq61 hq62 hq63 hq64 hq65 hq66 hq67
   have h69 : St 45 (fun _ => False) W a68 w69 _ _ := ⟨hq68, hw69⟩
   clear hq68 hw69 h45
   refine hK48 _ _ <| x_condT h69 rfl rfl <| wp_seq_k fun K70 hK70 => wp_region_lit <| wms 1 h69 rfl fun a71 h71 => wpList_nil <| hK70 _ _ ?_; clear h69
   have h72 : St 45 (fun _ => False) W a71 w69 [(6, .bool false)] [.rblk g 125 [cv, pw, .int .i64 locks, .int .i64 regs, .int .i64 mode, tv, uv, ov, pv, .bool fell], .at_ l] := h71.nrm ⟨rfl, trivial⟩ [0, 1] (by decide) ⟨rfl, rfl, trivial⟩
   clear h71
   refine wp_ret ?_
   try simp only [Exit.then, Exit.inBlock]
   refine x_ret1 (fn := Try.f126) (t := 6) rfl h72 rfl <| ⟨?_, (h72.sh.sel [] (by decide) trivial)⟩
   congr 1
   first | exact (mayK_t0 (by omega)).symm | exact (mayK_f1 (by omega) (by first | exact .inl (by omega) | exact .inr (by assumption))).symm | exact (mayK_f2 (by omega) i (by omega) (by first | exact .inl (by assumption) | exact .inr (by omega))).symm | exact (mayK_t (by omega) (by assumption) (fun j hj => hall j (by omega))).symm
  refine wq_val hq55 (r_move rfl rfl) (wanted_yes hq55 rfl rfl rfl rfl hb56) rfl rfl fun a74 hq74 => wq_val hq74 (r_move rfl rfl) (wanted_yes hq74 rfl rfl rfl rfl hb56) rfl rfl fun a76 hq76 => wq_val hq76 (r_ixN (s := l) (q := i) sl_145 ti_210 rfl rfl rfl (fun w h => (h.at 1 rfl)) (show i < l.l.length from (by omega))) (wanted_yes hq76 rfl rfl rfl rfl hb56) rfl rfl fun a78 hq78 => wq_val hq78 (r_fieldE (r := 1) fl_210_1 rfl rfl rfl) (wanted_yes hq78 rfl rfl rfl rfl hb56) rfl rfl fun a80 hq80 => wq_val hq80 (r_lde (s := l) (i := i) (v := .int .i64 ((nth l.l i).wh)) ti_3 rfl rfl rfl (fun w h => (h.at 1 rfl)) (show i < l.l.length from (by omega)) (Nat.le_of_ble_eq_true rfl) rfl) (wanted_yes hq80 rfl rfl rfl rfl hb56) rfl rfl fun a82 hq82 => wq_val hq82 (r_move rfl rfl) (wanted_yes hq82 rfl rfl rfl rfl hb56) rfl rfl fun a84 hq84 => wq_val hq84 (r_move rfl rfl) (wanted_yes hq84 rfl rfl rfl rfl hb56) rfl rfl fun a86 hq86 => wq_val hq86 (r_ixN (s := l) (q := k) sl_145 ti_210 rfl rfl rfl (fun w h => (h.at 1 rfl)) (show k < l.l.length from (by omega))) (wanted_yes hq86 rfl rfl rfl rfl hb56) rfl rfl fun a88 hq88 => wq_val hq88 (r_fieldE (r := 1) fl_210_1 rfl rfl rfl) (wanted_yes hq88 rfl rfl rfl rfl hb56) rfl rfl fun a90 hq90 => wq_val hq90 (r_lde (s := l) (i := k) (v := .int .i64 ((nth l.l k).wh)) ti_3 rfl rfl rfl (fun w h => (h.at 1 rfl)) (show k < l.l.length from (by omega)) (Nat.le_of_ble_eq_true rfl) rfl) (wanted_yes hq90 rfl rfl rfl rfl hb56) rfl rfl fun a92 hq92 => wq_val hq92 (r_eqlI (p := (nth l.l i).wh) (q := (nth l.l k).wh) rfl rfl rfl) (wanted_yes hq92 rfl rfl rfl rfl hb56) rfl rfl fun a94 hq94 => wq_val hq94 (r_pickF rfl rfl hb56 rfl) (wanted_none rfl _) rfl rfl fun a95 hq95 => wpQuiet_nil (hZ49 _ fun w96 hw96 => ?_); clear hq55 hq74 hq76 hq78 hq80 hq82 hq84 hq86 hq88 hq90 hq92 hq94
  have h96 : St 45 (fun _ => False) W a95 w96 _ _ := ⟨hq95, hw96⟩
  clear hq95 hw96 h45
  refine hK48 _ _ <| x_cond h96 rfl (fun hb97 => ?_) (fun hb97 => ?_)
  ·have hp97 : (nth l.l i).wh = (nth l.l k).wh := of_decide_eq_true hb97
   refine wp_seq_k fun K98 hK98 => wp_region_lit <| wms 1 h96 rfl fun a99 h99 => wpList_nil <| hK98 _ _ ?_; clear h96
   have h100 : St 45 (fun _ => False) W a99 w96 [(6, .bool false)] [.rblk g 125 [cv, pw, .int .i64 locks, .int .i64 regs, .int .i64 mode, tv, uv, ov, pv, .bool fell], .at_ l] := h99.nrm ⟨rfl, trivial⟩ [0, 1] (by decide) ⟨rfl, rfl, trivial⟩
   clear h99
   refine wp_ret ?_
   try simp only [Exit.then, Exit.inBlock]
   refine x_ret1 (fn := Try.f126) (t := 6) rfl h100 rfl <| ⟨?_, (h100.sh.sel [] (by decide) trivial)⟩
   congr 1
   first | exact (mayK_t0 (by omega)).symm | exact (mayK_f1 (by omega) (by first | exact .inl (by omega) | exact .inr (by assumption))).symm | exact (mayK_f2 (by omega) i (by omega) (by first | exact .inl (by assumption) | exact .inr (by omega))).symm | exact (mayK_t (by omega) (by assumption) (fun j hj => hall j (by omega))).symm
  have hp97 : ¬ ((nth l.l i).wh = (nth l.l k).wh) := of_decide_eq_false hb97
  refine wp_skip <| hK47 _ _ <| wp_region_lit <| wms 1 h96 rfl fun a101 h101 => wv h101 (r_addN (p := i) (q := 1) rfl rfl rfl (show i + 1 < 9223372036854775808 from (by omega))) rfl rfl fun a102 h102 => wms 1 h102 rfl fun a103 h103 => wpList_nil <| x_again ⟨_, ?_, i + 1, ?_, ?_, h103.nrm ⟨rfl, rfl, rfl, trivial⟩ [0, 1] (by decide) ⟨rfl, rfl, trivial⟩, rfl⟩; clear h96 h101 h102
  · rw [hm41]; first | omega | (simp only [lens9]; omega)
  · omega
  · intro j hj; rcases Nat.lt_or_ge j i with h | h; (exact hall j h); obtain rfl : j = i := (by omega); exact ⟨by assumption, by omega⟩
 have hp46 : ¬ (i < k) := of_decide_eq_false hb46
 refine wp_exit <| hK38 _ _ <| wp_seq_k fun K104 hK104 => wp_region_lit <| wms 1 h45 rfl fun a105 h105 => wpList_nil <| hK104 _ _ <| wp_ret ?_; clear h45
 try simp only [Exit.then, Exit.inBlock]
 refine x_ret1 (fn := Try.f126) (t := 6) rfl h105 rfl <| ⟨?_, (h105.sh.sel [] (by decide) trivial)⟩
 congr 1
 first | exact (mayK_t0 (by omega)).symm | exact (mayK_f1 (by omega) (by first | exact .inl (by omega) | exact .inr (by assumption))).symm | exact (mayK_f2 (by omega) i (by omega) (by first | exact .inl (by assumption) | exact .inr (by omega))).symm | exact (mayK_t (by omega) (by assumption) (fun j hj => hall j (by omega))).symm

set_option maxRecDepth 100000 in
set_option maxHeartbeats 1000000 in
theorem next_c (g t : Nat) (code : Ls (Ls Ins)) (thr : Ls ThV) (pw : Value) (locks : Int) (regs : Int) (mode : Int) (uv : Value) (ov : Value) (pv : Value) (fell : Bool) (W : World) (hB : Blk W g 125 #[code.v, pw, .int .i64 locks, .int .i64 regs, .int .i64 mode, thr.v, uv, ov, pv, .bool fell]) (h_code : code.At W) (h_thr : thr.At W) (ht : t < code.l.length) (ht2 : t < thr.l.length) (hpc : 0 ≤ (nth thr.l t).pc) :
    Rets Try.prog 89 [.pointer (some ⟨g, 0, none⟩), .int .i64 ((t : Nat) : Int)] W (fun v w' => v = .tuple #[(nextIns (nth code.l t).l (nth thr.l t).pc).val, .bool (decide ((nth thr.l t).pc < ((nth code.l t).l.length : Int)))] ∧ Sh0 W w' []) := by
 refine x_enter (N := 33) Try.func89 rfl Try.ntmps89 (Nat.le_of_ble_eq_true rfl) fun a1 hf1 => ?_
 have h1 : St 33 (fun _ => False) W a1 W [(0, .pointer (some ⟨g, 0, none⟩)), (1, .int .i64 ((t : Nat) : Int))] [.rblk g 125 [code.v, pw, .int .i64 locks, .int .i64 regs, .int .i64 mode, thr.v, uv, ov, pv, .bool fell], .at_ code, .at_ thr] := ⟨hf1.sub ⟨rfl, rfl, trivial⟩, Sh0.ext (by intro A hA; simp at hA; rcases hA with rfl | rfl | rfl; exact hB; exact h_code; exact h_thr) (by intro A hA b hb; simp at hA; rcases hA with rfl | rfl | rfl <;> exact hb)⟩
 clear hf1
 refine wp_seq_k fun K2 hK2 => wp_region_lit <| wl_ex (x_alloc h1 ti_32 rfl rfl rfl) (wanted_none rfl _) ?_
 rintro a3 w3 ⟨b3, h3⟩; clear h1
 refine wms 1 h3 rfl fun a4 h4 => wpList_nil <| hK2 _ _ <| wp_seq_k fun K5 hK5 => wp_region_lit <| wms 1 h4 rfl fun a6 h6 => wv h6 (r_nil rfl rfl) rfl rfl fun a7 h7 => wv h7 (r_fieldB (r := 0) fl_125_0 rfl rfl rfl) rfl rfl fun a8 h8 => wv h8 (r_fieldB (r := 0) fl_25_0 rfl rfl rfl) rfl rfl fun a9 h9 => wv h9 (r_ldbR ti_22 rfl rfl (fun w h => h.rblk 1 rfl) rfl) rfl rfl fun a10 h10 => wms 1 h10 rfl fun a11 h11 => ?_; clear h3 h4 h6 h7 h8 h9 h10
 have hl12 : code.l.length ≤ 140737488355328 := (h11.sh.at 2 rfl).len
 refine wv h11 (r_ixN (s := code) (q := t) sl_22 ti_33 rfl rfl rfl (fun w h => (h.at 2 rfl)) (show t < code.l.length from (by omega))) rfl rfl fun a13 h13 => wv h13 (r_lde (s := code) (i := t) (v := (nth code.l t).v) ti_33 rfl rfl rfl (fun w h => (h.at 2 rfl)) (show t < code.l.length from (by omega)) (Nat.le_of_ble_eq_true rfl) rfl) rfl rfl fun a14 h14 => wms 1 h14 rfl fun a15 h15 => wpList_nil <| hK5 _ _ <| wp_seq_k fun K16 hK16 => wp_region_lit <| wms 1 h15 rfl fun a17 h17 => wv h17 (r_nil rfl rfl) rfl rfl fun a18 h18 => wv h18 (r_fieldB (r := 5) fl_125_2 rfl rfl rfl) rfl rfl fun a19 h19 => wv h19 (r_ldbR ti_123 rfl rfl (fun w h => h.rblk 1 rfl) rfl) rfl rfl fun a20 h20 => wms 1 h20 rfl fun a21 h21 => ?_; clear h11 h13 h14 h15 h17 h18 h19 h20
 have hl22 : thr.l.length ≤ 140737488355328 := (h21.sh.at 3 rfl).len
 refine wv h21 (r_ixN (s := thr) (q := t) sl_123 ti_147 rfl rfl rfl (fun w h => (h.at 3 rfl)) (show t < thr.l.length from (by omega))) rfl rfl fun a23 h23 => wv h23 (r_fieldE (r := 0) fl_147_0 rfl rfl rfl) rfl rfl fun a24 h24 => wv h24 (r_lde (s := thr) (i := t) (v := .int .i64 ((nth thr.l t).pc)) ti_3 rfl rfl rfl (fun w h => (h.at 3 rfl)) (show t < thr.l.length from (by omega)) (Nat.le_of_ble_eq_true rfl) rfl) rfl rfl fun a25 h25 => wms 1 h25 rfl fun a26 h26 => wpList_nil <| hK16 _ _ <| wp_seq_k fun K27 hK27 => wp_seq_k fun K28 hK28 => wp_region_lit <| wms 2 h26 rfl fun a29 h29 => ?_; clear h21 h23 h24 h25 h26
 have hl30 : ((nth code.l t).l).length ≤ 140737488355328 := ((h29.sh.at 2 rfl).nth t (show t < code.l.length from (by omega))).len
 refine wv h29 (r_len (s := nth code.l t) (n := ((nth code.l t).l).length) sl_33 rfl rfl (fun w h => ((h.at 2 rfl).nth t (show t < code.l.length from (by omega)))) rfl) rfl rfl fun a31 h31 => wv h31 (r_geqI (p := (nth thr.l t).pc) (q := ((((nth code.l t).l).length : Nat) : Int)) rfl rfl rfl) rfl rfl fun a32 h32 => wpList_nil <| hK28 _ _ <| x_cond h32 rfl (fun hb33 => ?_) (fun hb33 => ?_); clear h29 h31
 ·have hp33 : ((((nth code.l t).l).length : Nat) : Int) ≤ (nth thr.l t).pc := of_decide_eq_true hb33
  refine wp_seq_k fun K34 hK34 => wp_region_lit <| wv h32 (r_build (cs := [.int .i64 0, .int .i64 0, .int .i64 0, .int .i64 0]) rfl rfl (by kernel_rfl)) rfl rfl fun a35 h35 => wl_ex (x_stb (i := 0) (vs := [.int .i64 0, .int .i64 0, .int .i64 0, .int .i64 0]) (cs' := [.int .i64 0, .int .i64 0, .int .i64 0, .int .i64 0]) h35 ti_32 rfl rfl rfl rfl rfl rfl rfl (allOne_cons rfl (allOne_cons rfl (allOne_cons rfl (allOne_cons rfl allOne_nil)))) (Nat.le_of_ble_eq_true rfl) rfl) (wanted_none rfl _) ?_; clear h32
  rintro a36 w36 h36
  clear h35
  refine wms 1 h36 rfl fun a37 h37 => wpList_nil <| hK34 _ _ ?_; clear h36
  have h38 : St 33 (fun _ => False) W a37 w36 [(4, .pointer (some ⟨b3, 0, none⟩)), (5, .bool false)] [.blk b3 32 [.int .i64 0, .int .i64 0, .int .i64 0, .int .i64 0], .rblk g 125 [code.v, pw, .int .i64 locks, .int .i64 regs, .int .i64 mode, thr.v, uv, ov, pv, .bool fell], .at_ code, .at_ thr] := h37.nrm ⟨rfl, rfl, trivial⟩ [0, 1, 2, 3] (by decide) ⟨rfl, rfl, rfl, rfl, trivial⟩
  clear h37
  refine wp_ret ?_
  try simp only [Exit.then, Exit.inBlock]
  refine x_retct (fn := Try.f89) (t := 4) (u := 5) (i := 0) ti_32 rfl h38 rfl rfl rfl rfl <| ⟨?_, (h38.sh.sel [] (by decide) trivial)⟩
  first | (rw [nextIns_t (by omega), decide_eq_true (by omega)]; rfl) | (rw [nextIns_f (by omega), decide_eq_false (by omega)]; rfl)
 have hp33 : ¬ (((((nth code.l t).l).length : Nat) : Int) ≤ (nth thr.l t).pc) := of_decide_eq_false hb33
 refine wp_skip <| hK27 _ _ ?_
 have h39 : St 33 (fun _ => False) W a32 w3 [(4, .pointer (some ⟨b3, 0, none⟩)), (6, (nth code.l t).v), (7, .int .i64 ((nth thr.l t).pc))] [.blk b3 32 [.int .i64 0, .int .i64 0, .int .i64 0, .int .i64 0], .rblk g 125 [code.v, pw, .int .i64 locks, .int .i64 regs, .int .i64 mode, thr.v, uv, ov, pv, .bool fell], .at_ code, .at_ thr] := h32.nrm ⟨rfl, rfl, rfl, trivial⟩ [0, 1, 2, 3] (by decide) ⟨rfl, rfl, rfl, rfl, trivial⟩
 clear h32
 refine wp_seq_k fun K40 hK40 => wp_region_lit <| wms 2 h39 rfl fun a41 h41 => wv h41 (r_ixI (s := nth code.l t) (q := (nth thr.l t).pc) sl_33 ti_32 rfl rfl rfl (fun w h => ((h.at 2 rfl).nth t (show t < code.l.length from (by omega)))) (show 0 ≤ (nth thr.l t).pc ∧ (nth thr.l t).pc < ((nth code.l t).l).length from (by omega))) rfl rfl fun a42 h42 => wv h42 (r_ldew (s := nth code.l t) (i := ((nth thr.l t).pc).toNat) (vs := [.int .i64 ((nth ((nth code.l t).l) (((nth thr.l t).pc).toNat)).op), .int .i64 ((nth ((nth code.l t).l) (((nth thr.l t).pc).toNat)).a), .int .i64 ((nth ((nth code.l t).l) (((nth thr.l t).pc).toNat)).b), .int .i64 ((nth ((nth code.l t).l) (((nth thr.l t).pc).toNat)).c)]) ti_32 rfl rfl rfl (fun w h => ((h.at 2 rfl).nth t (show t < code.l.length from (by omega)))) (show ((nth thr.l t).pc).toNat < ((nth code.l t).l).length from (by omega)) (Nat.le_of_ble_eq_true rfl) rfl) rfl rfl fun a43 h43 => wl_ex (x_stb (i := 0) (vs := [.int .i64 ((nth ((nth code.l t).l) (((nth thr.l t).pc).toNat)).op), .int .i64 ((nth ((nth code.l t).l) (((nth thr.l t).pc).toNat)).a), .int .i64 ((nth ((nth code.l t).l) (((nth thr.l t).pc).toNat)).b), .int .i64 ((nth ((nth code.l t).l) (((nth thr.l t).pc).toNat)).c)]) (cs' := [.int .i64 ((nth ((nth code.l t).l) (((nth thr.l t).pc).toNat)).op), .int .i64 ((nth ((nth code.l t).l) (((nth thr.l t).pc).toNat)).a), .int .i64 ((nth ((nth code.l t).l) (((nth thr.l t).pc).toNat)).b), .int .i64 ((nth ((nth code.l t).l) (((nth thr.l t).pc).toNat)).c)]) h43 ti_32 rfl rfl rfl rfl rfl rfl rfl (allOne_cons rfl (allOne_cons rfl (allOne_cons rfl (allOne_cons rfl allOne_nil)))) (Nat.le_of_ble_eq_true rfl) rfl) (wanted_none rfl _) ?_; clear h39 h41 h42
 rintro a44 w44 h44
 clear h43
 refine wms 1 h44 rfl fun a45 h45 => wpList_nil <| hK40 _ _ <| wp_ret ?_; clear h44
 try simp only [Exit.then, Exit.inBlock]
 refine x_retct (fn := Try.f89) (t := 4) (u := 5) (i := 0) ti_32 rfl h45 rfl rfl rfl rfl <| ⟨?_, (h45.sh.sel [] (by decide) trivial)⟩
 first | (rw [nextIns_t (by omega), decide_eq_true (by omega)]; rfl) | (rw [nextIns_f (by omega), decide_eq_false (by omega)]; rfl)

set_option maxRecDepth 100000 in
set_option maxHeartbeats 2000000 in
theorem able_c (g t : Nat) (code : Ls (Ls Ins)) (thr : Ls ThL) (owner : Ls Int) (pw : Value) (locks : Int) (regs : Int) (mode : Int) (uv : Value) (pv : Value) (fell : Bool) (W : World) (hB : Blk W g 125 #[code.v, pw, .int .i64 locks, .int .i64 regs, .int .i64 mode, thr.v, uv, owner.v, pv, .bool fell]) (h_code : code.At W) (h_thr : thr.At W) (h_owner : owner.At W) (ht : t < code.l.length) (htl : thr.l.length = code.l.length) (hpc : ∀ t, t < code.l.length → 0 ≤ (nth thr.l t).pc) (hlk : ∀ i, i < (nth code.l t).l.length → (nth (nth code.l t).l i).op = 17 → 0 ≤ (nth (nth code.l t).l i).a ∧ (nth (nth code.l t).l i).a < owner.l.length) :
    Rets Try.prog 125 [.pointer (some ⟨g, 0, none⟩), .int .i64 ((t : Nat) : Int)] W (fun v w' => v = .bool (decide ((nth thr.l t).pc < ((nth code.l t).l.length : Int)) && ableL owner.l (nth thr.l t).wait.l.length (nextIns (nth code.l t).l (nth thr.l t).pc)) ∧ Sh0 W w' []) := by
 refine x_enter (N := 53) Try.func125 rfl Try.ntmps125 (Nat.le_of_ble_eq_true rfl) fun a1 hf1 => ?_
 have h1 : St 53 (fun _ => False) W a1 W [(0, .pointer (some ⟨g, 0, none⟩)), (1, .int .i64 ((t : Nat) : Int))] [.rblk g 125 [code.v, pw, .int .i64 locks, .int .i64 regs, .int .i64 mode, thr.v, uv, owner.v, pv, .bool fell], .at_ code, .at_ thr, .at_ owner] := ⟨hf1.sub ⟨rfl, rfl, trivial⟩, Sh0.ext (by intro A hA; simp at hA; rcases hA with rfl | rfl | rfl | rfl; exact hB; exact h_code; exact h_thr; exact h_owner) (by intro A hA b hb; simp at hA; rcases hA with rfl | rfl | rfl | rfl <;> exact hb)⟩
 clear hf1
 refine wp_seq_k fun K2 hK2 => wp_region_lit <| wms 1 h1 rfl fun a3 h3 => wpList_nil <| hK2 _ _ <| wp_seq_k fun K4 hK4 => wp_region_lit <| wms 2 h3 rfl fun a5 h5 => wl_ex (x_call h5 bd_89 rfl rfl rfl rfl rfl (next_c g t code ⟨thr.v, thr.l.map ThL.toV⟩ _ _ _ _ _ _ _ _ _ (h5.sh.rblk 0 rfl) (h5.sh.at 1 rfl) (ThL.atV (h5.sh.at 2 rfl)) (by first | omega | (simp only [lens9]; omega)) (by simp; omega) (by rw [nth_map' _ _ _ (by omega)]; exact hpc t (by omega)))) (wanted_none rfl _) ?_; clear h1 h3
 rintro a6 w6 ⟨_, ⟨hv6, hs6⟩, hf6⟩
 rw [nth_map' _ _ _ (show t < thr.l.length from (by omega)), show (ThL.toV (nth thr.l t)).pc = (nth thr.l t).pc from rfl] at hv6
 subst hv6
 have h6 : St 53 (fun _ => False) W a6 w6 _ _ := ⟨hf6, h5.sh.call0 hs6⟩
 clear hf6 hs6
 clear h5
 refine wms 1 h6 rfl fun a7 h7 => wv h7 (r_extract rfl rfl rfl) rfl rfl fun a8 h8 => wv h8 (r_extract rfl rfl rfl) rfl rfl fun a9 h9 => wl_ex (x_alloc h9 ti_32 rfl rfl rfl) (wanted_none rfl _) ?_; clear h6 h7 h8
 rintro a10 w10 ⟨b10, h10⟩; clear h9
 refine wl_ex (x_stb (i := 0) (vs := [.int .i64 ((nextIns (nth code.l t).l (nth thr.l t).pc).op), .int .i64 ((nextIns (nth code.l t).l (nth thr.l t).pc).a), .int .i64 ((nextIns (nth code.l t).l (nth thr.l t).pc).b), .int .i64 ((nextIns (nth code.l t).l (nth thr.l t).pc).c)]) (cs' := [.int .i64 ((nextIns (nth code.l t).l (nth thr.l t).pc).op), .int .i64 ((nextIns (nth code.l t).l (nth thr.l t).pc).a), .int .i64 ((nextIns (nth code.l t).l (nth thr.l t).pc).b), .int .i64 ((nextIns (nth code.l t).l (nth thr.l t).pc).c)]) h10 ti_32 rfl rfl rfl rfl rfl rfl rfl (allOne_cons rfl (allOne_cons rfl (allOne_cons rfl (allOne_cons rfl allOne_nil)))) (Nat.le_of_ble_eq_true rfl) rfl) (wanted_none rfl _) ?_
 rintro a11 w11 h11
 clear h10
 refine wms 1 h11 rfl fun a12 h12 => wpList_nil <| hK4 _ _ <| wp_seq_k fun K13 hK13 => wp_seq_k fun K14 hK14 => wp_region_lit <| wms 1 h12 rfl fun a15 h15 => wv h15 (r_not rfl rfl) rfl rfl fun a16 h16 => wpList_nil <| hK14 _ _ <| x_cond h16 rfl (fun hb17 => ?_) (fun hb17 => ?_); clear h11 h12 h15
 ·have hp17 : ¬ ((nth thr.l t).pc < ((nth code.l t).l.length : Int)) := by simpa using hb17
  refine wp_seq_k fun K18 hK18 => wp_region_lit <| wms 1 h16 rfl fun a19 h19 => wpList_nil <| hK18 _ _ <| wp_ret ?_; clear h16
  try simp only [Exit.then, Exit.inBlock]
  refine x_ret1 (fn := Try.f125) (t := 4) rfl h19 rfl <| ⟨?_, (h19.sh.sel [] (by decide) trivial)⟩
  congr 1
  first | exact and_f' (by omega) | (refine and_t' (by omega) ?_; unfold ableL; first | (rw [if_pos (by omega)]; done) | (rw [if_neg (by omega), if_pos (by omega)]; done) | (rw [if_neg (by omega), if_neg (by omega), if_pos (by omega)]; first | exact and_f' (by omega) | exact and_t' (by omega) rfl) | (rw [if_neg (by omega), if_neg (by omega), if_neg (by omega)]))
 have hp17 : (nth thr.l t).pc < ((nth code.l t).l.length : Int) := by simpa using hb17
 refine wp_skip <| hK13 _ _ ?_
 have hpc0 := hpc t (by omega)
 have hnx := nextIns_t (c := (nth code.l t).l) (pc := (nth thr.l t).pc) (by omega)
 have hlk2 := hlk (nth thr.l t).pc.toNat (by omega)
 rw [← hnx] at hlk2
 refine wp_seq_k fun K20 hK20 => wp_region_lit <| wms 1 h16 rfl fun a21 h21 => wv h21 (r_nil rfl rfl) rfl rfl fun a22 h22 => wv h22 (r_fieldB (r := 5) fl_125_2 rfl rfl rfl) rfl rfl fun a23 h23 => wv h23 (r_ldbR ti_123 rfl rfl (fun w h => h.rblk 1 rfl) rfl) rfl rfl fun a24 h24 => wms 1 h24 rfl fun a25 h25 => ?_; clear h16 h21 h22 h23 h24
 have hl26 : thr.l.length ≤ 140737488355328 := (h25.sh.at 3 rfl).len
 refine wv h25 (r_ixN (s := thr) (q := t) sl_123 ti_147 rfl rfl rfl (fun w h => (h.at 3 rfl)) (show t < thr.l.length from (by omega))) rfl rfl fun a27 h27 => wv h27 (r_fieldE (r := 2) fl_147_2 rfl rfl rfl) rfl rfl fun a28 h28 => wv h28 (r_lde (s := thr) (i := t) (v := ((nth thr.l t).wait).v) ti_145 rfl rfl rfl (fun w h => (h.at 3 rfl)) (show t < thr.l.length from (by omega)) (Nat.le_of_ble_eq_true rfl) rfl) rfl rfl fun a29 h29 => ?_; clear h25 h27 h28
 have hl30 : (((nth thr.l t).wait).l).length ≤ 140737488355328 := ((h29.sh.at 3 rfl).inner t (show t < thr.l.length from (by omega))).2.len
 refine wv h29 (r_len (s := (nth thr.l t).wait) (n := (((nth thr.l t).wait).l).length) sl_145 rfl rfl (fun w h => ((h.at 3 rfl).inner t (show t < thr.l.length from (by omega))).2) rfl) rfl rfl fun a31 h31 => wms 1 h31 rfl fun a32 h32 => wpList_nil <| hK20 _ _ <| wp_seq_k fun K33 hK33 => wp_seq_k fun K34 hK34 => wp_region_lit <| wv h32 (r_fieldB (r := 0) fl_32_0 rfl rfl rfl) rfl rfl fun a35 h35 => wv h35 (r_ldb (i := 0) ti_3 rfl rfl rfl rfl) rfl rfl fun a36 h36 => wpList_nil <| hK34 _ _ <| wp_block <| wp_seq_k fun K37 hK37 => wp_seq_k fun K38 hK38 => ?_; clear h29 h31 h32 h35
 refine wp_region_lit <| wv h36 (r_eqlI (p := (nextIns (nth code.l t).l (nth thr.l t).pc).op) (q := 9) rfl rfl rfl) rfl rfl fun a39 h39 => wms 1 h39 rfl fun a40 h40 => wpList_nil <| hK38 _ _ <| x_cond h40 rfl (fun hb41 => ?_) (fun hb41 => ?_); clear h36 h39
 ·have hp41 : (nextIns (nth code.l t).l (nth thr.l t).pc).op = 9 := of_decide_eq_true hb41
  refine wp_skip <| hK37 _ _ <| x_condT h40 rfl hb41 <| wp_seq_k fun K42 hK42 => wp_region_lit <| wms 1 h40 rfl fun a43 h43 => wv h43 (r_lssN (p := (((nth thr.l t).wait).l).length) (q := 3) rfl rfl rfl) rfl rfl fun a44 h44 => wms 1 h44 rfl fun a45 h45 => wpList_nil <| hK42 _ _ ?_; clear h40 h43 h44
  have h46 : St 53 (fun _ => False) W a45 w11 [(4, .bool (decide ((((nth thr.l t).wait).l).length < 3)))] [.blk b10 32 [.int .i64 ((nextIns (nth code.l t).l (nth thr.l t).pc).op), .int .i64 ((nextIns (nth code.l t).l (nth thr.l t).pc).a), .int .i64 ((nextIns (nth code.l t).l (nth thr.l t).pc).b), .int .i64 ((nextIns (nth code.l t).l (nth thr.l t).pc).c)], .rblk g 125 [code.v, pw, .int .i64 locks, .int .i64 regs, .int .i64 mode, thr.v, uv, owner.v, pv, .bool fell], .at_ code, .at_ thr, .at_ owner] := h45.nrm ⟨rfl, trivial⟩ [0, 1, 2, 3, 4] (by decide) ⟨rfl, rfl, rfl, rfl, rfl, trivial⟩
  clear h45
  refine wp_ret ?_
  try simp only [Exit.then, Exit.inBlock]
  refine x_ret1 (fn := Try.f125) (t := 4) rfl h46 rfl <| ⟨?_, (h46.sh.sel [] (by decide) trivial)⟩
  congr 1
  first | exact and_f' (by omega) | (refine and_t' (by omega) ?_; unfold ableL; first | (rw [if_pos (by omega)]; done) | (rw [if_neg (by omega), if_pos (by omega)]; done) | (rw [if_neg (by omega), if_neg (by omega), if_pos (by omega)]; first | exact and_f' (by omega) | exact and_t' (by omega) rfl) | (rw [if_neg (by omega), if_neg (by omega), if_neg (by omega)]))
 have hp41 : ¬ ((nextIns (nth code.l t).l (nth thr.l t).pc).op = 9) := of_decide_eq_false hb41
 refine wp_seq_k fun K47 hK47 => wp_region_lit <| wv h40 (r_eqlI (p := (nextIns (nth code.l t).l (nth thr.l t).pc).op) (q := 11) rfl rfl rfl) rfl rfl fun a48 h48 => wms 1 h48 rfl fun a49 h49 => wpList_nil <| hK47 _ _ ?_; clear h40 h48
 have h50 : St 53 (fun _ => False) W a49 w11 [(0, .pointer (some ⟨g, 0, none⟩)), (5, .pointer (some ⟨b10, 0, none⟩)), (7, .int .i64 (((((nth thr.l t).wait).l).length : Nat) : Int)), (26, .int .i64 ((nextIns (nth code.l t).l (nth thr.l t).pc).op)), (27, .bool (decide ((nextIns (nth code.l t).l (nth thr.l t).pc).op = 11)))] [.blk b10 32 [.int .i64 ((nextIns (nth code.l t).l (nth thr.l t).pc).op), .int .i64 ((nextIns (nth code.l t).l (nth thr.l t).pc).a), .int .i64 ((nextIns (nth code.l t).l (nth thr.l t).pc).b), .int .i64 ((nextIns (nth code.l t).l (nth thr.l t).pc).c)], .rblk g 125 [code.v, pw, .int .i64 locks, .int .i64 regs, .int .i64 mode, thr.v, uv, owner.v, pv, .bool fell], .at_ code, .at_ thr, .at_ owner] := h49.nrm ⟨rfl, rfl, rfl, rfl, rfl, trivial⟩ [0, 1, 2, 3, 4] (by decide) ⟨rfl, rfl, rfl, rfl, rfl, trivial⟩
 clear h49
 refine x_cond h50 rfl (fun hb51 => ?_) (fun hb51 => ?_)
 ·have hp51 : (nextIns (nth code.l t).l (nth thr.l t).pc).op = 11 := of_decide_eq_true hb51
  refine wp_skip <| hK37 _ _ <| x_condT h50 rfl hb51 <| wp_seq_k fun K52 hK52 => wp_region_lit <| wms 1 h50 rfl fun a53 h53 => wv h53 (r_lssN (p := (((nth thr.l t).wait).l).length) (q := 3) rfl rfl rfl) rfl rfl fun a54 h54 => wms 1 h54 rfl fun a55 h55 => wpList_nil <| hK52 _ _ <| wp_ret ?_; clear h50 h53 h54
  try simp only [Exit.then, Exit.inBlock]
  refine x_ret1 (fn := Try.f125) (t := 4) rfl h55 rfl <| ⟨?_, (h55.sh.sel [] (by decide) trivial)⟩
  congr 1
  first | exact and_f' (by omega) | (refine and_t' (by omega) ?_; unfold ableL; first | (rw [if_pos (by omega)]; done) | (rw [if_neg (by omega), if_pos (by omega)]; done) | (rw [if_neg (by omega), if_neg (by omega), if_pos (by omega)]; first | exact and_f' (by omega) | exact and_t' (by omega) rfl) | (rw [if_neg (by omega), if_neg (by omega), if_neg (by omega)]))
 have hp51 : ¬ ((nextIns (nth code.l t).l (nth thr.l t).pc).op = 11) := of_decide_eq_false hb51
 refine wp_region_lit <| wv h50 (r_eqlI (p := (nextIns (nth code.l t).l (nth thr.l t).pc).op) (q := 18) rfl rfl rfl) rfl rfl fun a56 h56 => wms 1 h56 rfl fun a57 h57 => wpList_nil <| hK37 _ _ <| x_cond h57 rfl (fun hb58 => ?_) (fun hb58 => ?_); clear h50 h56
 ·have hp58 : (nextIns (nth code.l t).l (nth thr.l t).pc).op = 18 := of_decide_eq_true hb58
  refine wp_seq_k fun K59 hK59 => wp_region_lit <| wms 1 h57 rfl fun a60 h60 => wv h60 (r_lssN (p := (((nth thr.l t).wait).l).length) (q := 3) rfl rfl rfl) rfl rfl fun a61 h61 => wms 1 h61 rfl fun a62 h62 => wpList_nil <| hK59 _ _ <| wp_ret ?_; clear h57 h60 h61
  try simp only [Exit.then, Exit.inBlock]
  refine x_ret1 (fn := Try.f125) (t := 4) rfl h62 rfl <| ⟨?_, (h62.sh.sel [] (by decide) trivial)⟩
  congr 1
  first | exact and_f' (by omega) | (refine and_t' (by omega) ?_; unfold ableL; first | (rw [if_pos (by omega)]; done) | (rw [if_neg (by omega), if_pos (by omega)]; done) | (rw [if_neg (by omega), if_neg (by omega), if_pos (by omega)]; first | exact and_f' (by omega) | exact and_t' (by omega) rfl) | (rw [if_neg (by omega), if_neg (by omega), if_neg (by omega)]))
 have hp58 : ¬ ((nextIns (nth code.l t).l (nth thr.l t).pc).op = 18) := of_decide_eq_false hb58
 refine wp_seq_k fun K63 hK63 => wp_seq_k fun K64 hK64 => wp_region_lit <| wv h57 (r_eqlI (p := (nextIns (nth code.l t).l (nth thr.l t).pc).op) (q := 12) rfl rfl rfl) rfl rfl fun a65 h65 => wms 1 h65 rfl fun a66 h66 => wpList_nil <| hK64 _ _ <| x_cond h66 rfl (fun hb67 => ?_) (fun hb67 => ?_); clear h57 h65
 ·have hp67 : (nextIns (nth code.l t).l (nth thr.l t).pc).op = 12 := of_decide_eq_true hb67
  refine wp_skip <| hK63 _ _ <| x_condT h66 rfl hb67 <| wp_seq_k fun K68 hK68 => wp_region_lit <| wms 1 h66 rfl fun a69 h69 => wv h69 (r_eqlN (p := (((nth thr.l t).wait).l).length) (q := 0) rfl rfl rfl) rfl rfl fun a70 h70 => wms 1 h70 rfl fun a71 h71 => wpList_nil <| hK68 _ _ <| wp_ret ?_; clear h66 h69 h70
  try simp only [Exit.then, Exit.inBlock]
  refine x_ret1 (fn := Try.f125) (t := 4) rfl h71 rfl <| ⟨?_, (h71.sh.sel [] (by decide) trivial)⟩
  congr 1
  first | exact and_f' (by omega) | (refine and_t' (by omega) ?_; unfold ableL; first | (rw [if_pos (by omega)]; done) | (rw [if_neg (by omega), if_pos (by omega)]; done) | (rw [if_neg (by omega), if_neg (by omega), if_pos (by omega)]; first | exact and_f' (by omega) | exact and_t' (by omega) rfl) | (rw [if_neg (by omega), if_neg (by omega), if_neg (by omega)]))
 have hp67 : ¬ ((nextIns (nth code.l t).l (nth thr.l t).pc).op = 12) := of_decide_eq_false hb67
 refine wp_region_lit <| wv h66 (r_eqlI (p := (nextIns (nth code.l t).l (nth thr.l t).pc).op) (q := 13) rfl rfl rfl) rfl rfl fun a72 h72 => wms 1 h72 rfl fun a73 h73 => wpList_nil <| hK63 _ _ <| x_cond h73 rfl (fun hb74 => ?_) (fun hb74 => ?_); clear h66 h72
 ·have hp74 : (nextIns (nth code.l t).l (nth thr.l t).pc).op = 13 := of_decide_eq_true hb74
  refine wp_seq_k fun K75 hK75 => wp_region_lit <| wms 1 h73 rfl fun a76 h76 => wv h76 (r_eqlN (p := (((nth thr.l t).wait).l).length) (q := 0) rfl rfl rfl) rfl rfl fun a77 h77 => wms 1 h77 rfl fun a78 h78 => wpList_nil <| hK75 _ _ <| wp_ret ?_; clear h73 h76 h77
  try simp only [Exit.then, Exit.inBlock]
  refine x_ret1 (fn := Try.f125) (t := 4) rfl h78 rfl <| ⟨?_, (h78.sh.sel [] (by decide) trivial)⟩
  congr 1
  first | exact and_f' (by omega) | (refine and_t' (by omega) ?_; unfold ableL; first | (rw [if_pos (by omega)]; done) | (rw [if_neg (by omega), if_pos (by omega)]; done) | (rw [if_neg (by omega), if_neg (by omega), if_pos (by omega)]; first | exact and_f' (by omega) | exact and_t' (by omega) rfl) | (rw [if_neg (by omega), if_neg (by omega), if_neg (by omega)]))
 have hp74 : ¬ ((nextIns (nth code.l t).l (nth thr.l t).pc).op = 13) := of_decide_eq_false hb74
 refine wp_seq_k fun K79 hK79 => wp_region_lit <| wv h73 (r_eqlI (p := (nextIns (nth code.l t).l (nth thr.l t).pc).op) (q := 17) rfl rfl rfl) rfl rfl fun a80 h80 => wms 1 h80 rfl fun a81 h81 => wpList_nil <| hK79 _ _ <| x_cond h81 rfl (fun hb82 => ?_) (fun hb82 => ?_); clear h73 h80
 ·have hp82 : (nextIns (nth code.l t).l (nth thr.l t).pc).op = 17 := of_decide_eq_true hb82
  refine wp_seq_k fun K83 hK83 => x_quiet (by kernel_rfl) (by kernel_rfl) h81 fun Z84 hZ84 => ?_
  have hq84 := h81.fr
  refine wq_val hq84 (r_move rfl rfl) (wanted_none rfl _) rfl rfl fun a85 hq85 => wq_val hq85 (r_eqlN (p := (((nth thr.l t).wait).l).length) (q := 0) rfl rfl rfl) (wanted_none rfl _) rfl rfl fun a86 hq86 => wq_val hq86 (r_move rfl rfl) (wanted_none rfl _) rfl rfl fun a87 hq87 => ?_; clear hq84 hq85 hq86
  rcases Bool.eq_false_or_eq_true (decide ((((nth thr.l t).wait).l).length = 0)) with hb88 | hb88
  ·have hp88 : (((nth thr.l t).wait).l).length = 0 := of_decide_eq_true hb88
   refine wq_val hq87 (r_move rfl rfl) (wanted_yes hq87 rfl rfl rfl rfl hb88) rfl rfl fun a90 hq90 => wq_val hq90 (r_nil rfl rfl) (wanted_yes hq90 rfl rfl rfl rfl hb88) rfl rfl fun a92 hq92 => wq_val hq92 (r_fieldB (r := 7) fl_125_4 rfl rfl rfl) (wanted_yes hq92 rfl rfl rfl rfl hb88) rfl rfl fun a94 hq94 => wq_val hq94 (r_ldbR ti_23 rfl rfl (fun w h => h.rblk 1 rfl) rfl) (wanted_yes hq94 rfl rfl rfl rfl hb88) rfl rfl fun a96 hq96 => wq_val hq96 (r_fieldB (r := 1) fl_32_1 rfl rfl rfl) (wanted_yes hq96 rfl rfl rfl rfl hb88) rfl rfl fun a98 hq98 => wq_val hq98 (r_ldb (i := 0) ti_3 rfl rfl rfl rfl) (wanted_yes hq98 rfl rfl rfl rfl hb88) rfl rfl fun a100 hq100 => ?_; clear hq87 hq90 hq92 hq94 hq96 hq98
   have hl102 : owner.l.length ≤ 140737488355328 := (h81.sh.at 4 rfl).len
   refine wq_val hq100 (r_ixI (s := owner) (q := (nextIns (nth code.l t).l (nth thr.l t).pc).a) sl_23 ti_3 rfl rfl rfl (fun w h => (h.at 4 rfl)) (show 0 ≤ (nextIns (nth code.l t).l (nth thr.l t).pc).a ∧ (nextIns (nth code.l t).l (nth thr.l t).pc).a < owner.l.length from (by omega))) (wanted_yes hq100 rfl rfl rfl rfl hb88) rfl rfl fun a103 hq103 => wq_val hq103 (r_lde (s := owner) (i := ((nextIns (nth code.l t).l (nth thr.l t).pc).a).toNat) (v := .int .i64 (nth owner.l (((nextIns (nth code.l t).l (nth thr.l t).pc).a).toNat))) ti_3 rfl rfl rfl (fun w h => (h.at 4 rfl)) (show ((nextIns (nth code.l t).l (nth thr.l t).pc).a).toNat < owner.l.length from (by omega)) (Nat.le_of_ble_eq_true rfl) rfl) (wanted_yes hq103 rfl rfl rfl rfl hb88) rfl rfl fun a105 hq105 => wq_val hq105 (r_eqlI (p := nth owner.l (((nextIns (nth code.l t).l (nth thr.l t).pc).a).toNat)) (q := (-1)) rfl rfl rfl) (wanted_yes hq105 rfl rfl rfl rfl hb88) rfl rfl fun a107 hq107 => wq_val hq107 (r_pickT rfl rfl hb88 rfl) (wanted_none rfl _) rfl rfl fun a108 hq108 => wq_val hq108 (r_assign rfl rfl) (wanted_none rfl _) rfl rfl fun a109 hq109 => wpQuiet_nil (hZ84 _ fun w110 hw110 => ?_); clear hq100 hq103 hq105 hq107 hq108
   have h110 : St 53 (fun _ => False) W a109 w110 _ _ := ⟨hq109, hw110⟩
   clear hq109 hw110 h81
   refine hK83 _ _ ?_
   have h111 : St 53 (fun _ => False) W a109 w110 [(4, .bool (decide (nth owner.l (((nextIns (nth code.l t).l (nth thr.l t).pc).a).toNat) = (-1))))] [.blk b10 32 [.int .i64 ((nextIns (nth code.l t).l (nth thr.l t).pc).op), .int .i64 ((nextIns (nth code.l t).l (nth thr.l t).pc).a), .int .i64 ((nextIns (nth code.l t).l (nth thr.l t).pc).b), .int .i64 ((nextIns (nth code.l t).l (nth thr.l t).pc).c)], .rblk g 125 [code.v, pw, .int .i64 locks, .int .i64 regs, .int .i64 mode, thr.v, uv, owner.v, pv, .bool fell], .at_ code, .at_ thr, .at_ owner] := h110.nrm ⟨rfl, trivial⟩ [0, 1, 2, 3, 4] (by decide) ⟨rfl, rfl, rfl, rfl, rfl, trivial⟩
   clear h110
   refine wp_ret ?_
   try simp only [Exit.then, Exit.inBlock]
   refine x_ret1 (fn := Try.f125) (t := 4) rfl h111 rfl <| ⟨?_, (h111.sh.sel [] (by decide) trivial)⟩
   congr 1
   first | exact and_f' (by omega) | (refine and_t' (by omega) ?_; unfold ableL; first | (rw [if_pos (by omega)]; done) | (rw [if_neg (by omega), if_pos (by omega)]; done) | (rw [if_neg (by omega), if_neg (by omega), if_pos (by omega)]; first | exact and_f' (by omega) | exact and_t' (by omega) rfl) | (rw [if_neg (by omega), if_neg (by omega), if_neg (by omega)]))
  have hp88 : ¬ ((((nth thr.l t).wait).l).length = 0) := of_decide_eq_false hb88
  refine wq_skip hq87 (wanted_no hq87 rfl rfl rfl rfl hb88) rfl rfl fun a112 hq112 => wq_skip hq112 (wanted_no hq112 rfl rfl rfl rfl hb88) rfl rfl fun a113 hq113 => wq_skip hq113 (wanted_no hq113 rfl rfl rfl rfl hb88) rfl rfl fun a114 hq114 => wq_skip hq114 (wanted_no hq114 rfl rfl rfl rfl hb88) rfl rfl fun a115 hq115 => wq_skip hq115 (wanted_no hq115 rfl rfl rfl rfl hb88) rfl rfl fun a116 hq116 => wq_skip hq116 (wanted_no hq116 rfl rfl rfl rfl hb88) rfl rfl fun a117 hq117 => wq_skip hq117 (wanted_no hq117 rfl rfl rfl rfl hb88) rfl rfl fun a118 hq118 => wq_skip hq118 (wanted_no hq118 rfl rfl rfl rfl hb88) rfl rfl fun a119 hq119 => wq_skip hq119 (wanted_no hq119 rfl rfl rfl rfl hb88) rfl rfl fun a120 hq120 => wq_val hq120 (r_pickF rfl rfl hb88 rfl) (wanted_none rfl _) rfl rfl fun a121 hq121 => wq_val hq121 (r_assign rfl rfl) (wanted_none rfl _) rfl rfl fun a122 hq122 => wpQuiet_nil (hZ84 _ fun w123 hw123 => ?_); clear hq87 hq112 hq113 hq114 hq115 hq116 hq117 hq118 hq119 hq120 hq121
  have h123 : St 53 (fun _ => False) W a122 w123 _ _ := ⟨hq122, hw123⟩
  clear hq122 hw123 h81
  refine hK83 _ _ ?_
  have h124 : St 53 (fun _ => False) W a122 w123 [(4, .bool false)] [.blk b10 32 [.int .i64 ((nextIns (nth code.l t).l (nth thr.l t).pc).op), .int .i64 ((nextIns (nth code.l t).l (nth thr.l t).pc).a), .int .i64 ((nextIns (nth code.l t).l (nth thr.l t).pc).b), .int .i64 ((nextIns (nth code.l t).l (nth thr.l t).pc).c)], .rblk g 125 [code.v, pw, .int .i64 locks, .int .i64 regs, .int .i64 mode, thr.v, uv, owner.v, pv, .bool fell], .at_ code, .at_ thr, .at_ owner] := h123.nrm ⟨rfl, trivial⟩ [0, 1, 2, 3, 4] (by decide) ⟨rfl, rfl, rfl, rfl, rfl, trivial⟩
  clear h123
  refine wp_ret ?_
  try simp only [Exit.then, Exit.inBlock]
  refine x_ret1 (fn := Try.f125) (t := 4) rfl h124 rfl <| ⟨?_, (h124.sh.sel [] (by decide) trivial)⟩
  congr 1
  first | exact and_f' (by omega) | (refine and_t' (by omega) ?_; unfold ableL; first | (rw [if_pos (by omega)]; done) | (rw [if_neg (by omega), if_pos (by omega)]; done) | (rw [if_neg (by omega), if_neg (by omega), if_pos (by omega)]; first | exact and_f' (by omega) | exact and_t' (by omega) rfl) | (rw [if_neg (by omega), if_neg (by omega), if_neg (by omega)]))
 have hp82 : ¬ ((nextIns (nth code.l t).l (nth thr.l t).pc).op = 17) := of_decide_eq_false hb82
 refine wp_skip <| hK33 _ _ <| wp_seq_k fun K125 hK125 => wp_region_lit <| wms 1 h81 rfl fun a126 h126 => wpList_nil <| hK125 _ _ <| wp_ret ?_; clear h81
 try simp only [Exit.then, Exit.inBlock]
 refine x_ret1 (fn := Try.f125) (t := 4) rfl h126 rfl <| ⟨?_, (h126.sh.sel [] (by decide) trivial)⟩
 congr 1
 first | exact and_f' (by omega) | (refine and_t' (by omega) ?_; unfold ableL; first | (rw [if_pos (by omega)]; done) | (rw [if_neg (by omega), if_pos (by omega)]; done) | (rw [if_neg (by omega), if_neg (by omega), if_pos (by omega)]; first | exact and_f' (by omega) | exact and_t' (by omega) rfl) | (rw [if_neg (by omega), if_neg (by omega), if_neg (by omega)]))

set_option maxRecDepth 100000 in
set_option maxHeartbeats 2000000 in
theorem moves_c (g : Nat) (code : Ls (Ls Ins)) (thr : Ls ThL) (owner : Ls Int) (pw : Value) (locks : Int) (regs : Int) (mode : Int) (uv : Value) (pv : Value) (fell : Bool) (W : World) (hB : Blk W g 125 #[code.v, pw, .int .i64 locks, .int .i64 regs, .int .i64 mode, thr.v, uv, owner.v, pv, .bool fell]) (h_code : code.At W) (h_thr : thr.At W) (h_owner : owner.At W) (hcl : code.l.length ≤ 4) (htl : thr.l.length = code.l.length) (hpc : ∀ t, t < code.l.length → 0 ≤ (nth thr.l t).pc) (hlk : ∀ t, t < code.l.length → ∀ i, i < (nth code.l t).l.length → (nth (nth code.l t).l i).op = 17 → 0 ≤ (nth (nth code.l t).l i).a ∧ (nth (nth code.l t).l i).a < owner.l.length) (hw : ∀ t, t < code.l.length → (nth thr.l t).wait.l.length ≤ 3) :
    Rets Try.prog 79 [.pointer (some ⟨g, 0, none⟩)] W (fun v w' => ∃ s : Ls Int, v = s.v ∧ s.l = movesL mode code thr owner.l code.l.length ∧ Sh0 W w' [.own 3 s]) := by
 refine x_enter (N := 60) Try.func79 rfl Try.ntmps79 (Nat.le_of_ble_eq_true rfl) fun a1 hf1 => ?_
 have h1 : St 60 (fun _ => False) W a1 W [(0, .pointer (some ⟨g, 0, none⟩))] [.rblk g 125 [code.v, pw, .int .i64 locks, .int .i64 regs, .int .i64 mode, thr.v, uv, owner.v, pv, .bool fell], .at_ code, .at_ thr, .at_ owner] := ⟨hf1.sub ⟨rfl, trivial⟩, Sh0.ext (by intro A hA; simp at hA; rcases hA with rfl | rfl | rfl | rfl; exact hB; exact h_code; exact h_thr; exact h_owner) (by intro A hA b hb; simp at hA; rcases hA with rfl | rfl | rfl | rfl <;> exact hb)⟩
 clear hf1
 refine wp_seq_k fun K2 hK2 => wp_region_lit <| wms 1 h1 rfl fun a3 h3 => wpList_nil <| hK2 _ _ <| wp_seq_k fun K4 hK4 => wp_region_lit <| wms 1 h3 rfl fun a5 h5 => wpList_nil <| hK4 _ _ <| wp_seq_k fun K6 hK6 => wp_seq_k fun K7 hK7 => wp_region_lit <| wms 1 h5 rfl fun a8 h8 => ?_; clear h1 h3 h5
 refine wpList_nil <| hK7 _ _ <| wp_block ?_
 have h10 := h8.nil (α := Int) 3
 clear h8
 refine x_loop (fun m a w => ∃ (t : Nat) (ml : List Int) (vm : Value), (t ≤ thr.l.length) ∧ (ml = movesL mode code thr owner.l t) ∧ (ml.length ≤ 4 * t) ∧ St 60 (fun _ => False) W a w [(0, .pointer (some ⟨g, 0, none⟩)), (3, vm), (4, .int .i64 ((t : Nat) : Int))] [.rblk g 125 [code.v, pw, .int .i64 locks, .int .i64 regs, .int .i64 mode, thr.v, uv, owner.v, pv, .bool fell], .at_ code, .at_ thr, .at_ owner, .own 3 (⟨vm, ml⟩ : Ls Int)] ∧ m = thr.l.length - t) ⟨_, 0, [], (.slice none 0 0), (by omega), (rfl), (by simp), h10.nrm ⟨rfl, rfl, rfl, trivial⟩ [1, 2, 3, 4, 0] (by decide) ⟨rfl, rfl, rfl, rfl, rfl, trivial⟩, rfl⟩ ?_
 clear h10
 rintro m9 a9 w9 ⟨t, ml, vm, ht, hml, hmn, h9, hm9⟩
 refine wp_seq_k fun K11 hK11 => wp_seq_k fun K12 hK12 => wp_region_lit <| wms 2 h9 rfl fun a13 h13 => wv h13 (r_nil rfl rfl) rfl rfl fun a14 h14 => wv h14 (r_fieldB (r := 5) fl_125_2 rfl rfl rfl) rfl rfl fun a15 h15 => wv h15 (r_ldbR ti_123 rfl rfl (fun w h => h.rblk 0 rfl) rfl) rfl rfl fun a16 h16 => ?_; clear h9 h13 h14 h15
 have hl17 : thr.l.length ≤ 140737488355328 := (h16.sh.at 2 rfl).len
 refine wv h16 (r_len (s := thr) (n := thr.l.length) sl_123 rfl rfl (fun w h => (h.at 2 rfl)) rfl) rfl rfl fun a18 h18 => wv h18 (r_lssN (p := t) (q := thr.l.length) rfl rfl rfl) rfl rfl fun a19 h19 => wpList_nil <| hK12 _ _ <| x_cond h19 rfl (fun hb20 => ?_) (fun hb20 => ?_); clear h16 h18
 ·have hp20 : t < thr.l.length := of_decide_eq_true hb20
  refine wp_skip <| hK11 _ _ <| wp_seq_k fun K21 hK21 => wp_block <| wp_seq_k fun K22 hK22 => wp_region_lit <| wms 2 h19 rfl fun a23 h23 => wl_ex (x_call h23 bd_125 rfl rfl rfl rfl rfl (able_c g t code thr owner _ _ _ _ _ _ _ _ (h23.sh.rblk 0 rfl) (h23.sh.at 1 rfl) (h23.sh.at 2 rfl) (h23.sh.at 3 rfl) (by omega) htl hpc (hlk t (by omega)))) (wanted_none rfl _) ?_; clear h19
  rintro a24 w24 ⟨_, ⟨rfl, hs24⟩, hf24⟩
  have h24 : St 60 (fun _ => False) W a24 w24 _ _ := ⟨hf24, h23.sh.call0 hs24⟩
  clear hf24 hs24
  clear h23
  refine wms 1 h24 rfl fun a25 h25 => wpList_nil <| hK22 _ _ <| wp_seq_k fun K26 hK26 => wp_seq_k fun K27 hK27 => wp_region_lit <| wms 1 h25 rfl fun a28 h28 => wpList_nil <| hK27 _ _ <| x_cond h28 rfl (fun hb29 => ?_) (fun hb29 => ?_); clear h24 h25
  ·skip
   refine wp_region_lit <| wms 2 h28 rfl fun a30 h30 => wv h30 (r_mulN (p := 8) (q := t) rfl rfl rfl (show 8 * t < 9223372036854775808 from (by omega))) rfl rfl fun a31 h31 => wl_ex (x_lit (n := 1) (cs := [.int .i64 ((8 * t : Nat) : Int)]) ([((8 * t : Nat) : Int)] : List Int) h31 sl_23 ti_3 rfl rfl rfl (by decide) rfl (by kernel_rfl) rfl (fun q hq w h => Flat.inner _ _) (fun q hq b hb => (Flat.on _ _ hb).elim) rfl rfl) (wanted_none rfl _) ?_; clear h28 h30
   rintro a32 w32 ⟨v32, h32⟩; clear h31
   refine wl_ex (x_app (r := 5) (rm := 0) (s := (⟨vm, ml⟩ : Ls Int)) (m := (⟨v32, [((8 * t : Nat) : Int)]⟩ : Ls Int)) h32 sl_23 ti_3 rfl rfl rfl rfl rfl rfl rfl (fun w h => (h.own 0 rfl)) (fun b hb => own_on (h32.sh.ok _ (List.mem_of_getElem? (i := 0) rfl)) hb) (fun q hq b hb => ⟨q, hq, hb⟩) rfl rfl rfl inferInstance (show (ml.length + ([((8 * t : Nat) : Int)]).length) * 8 ≤ 140737488355328 ∧ ml.length + ([((8 * t : Nat) : Int)]).length ≤ 140737488355328 from (by first | omega | (simp only [lens9]; omega))) rfl rfl) (wanted_none rfl _) ?_
   rintro a33 w33 ⟨v33, h33⟩; clear h32
   refine wms 1 h33 rfl fun a34 h34 => wpList_nil <| hK26 _ _ <| wp_seq_k fun K35 hK35 => wp_region_lit <| wms 1 h34 rfl fun a36 h36 => wpList_nil <| hK35 _ _ <| wp_block ?_; clear h33 h34
   have hwt := hw t (by omega)
   refine x_loop (fun m a w => ∃ (k : Nat) (ml2 : List Int) (vm2 : Value), (k ≤ (nth thr.l t).wait.l.length) ∧ (ml2 = ml ++ ((if ableT code thr owner.l t = true then [((8 * t : Nat) : Int)] else []) ++ mayT mode thr t k)) ∧ (ml2.length ≤ 4 * t + 1 + k) ∧ St 60 (fun _ => False) W a w [(0, .pointer (some ⟨g, 0, none⟩)), (3, vm2), (4, .int .i64 ((t : Nat) : Int)), (6, .int .i64 ((k : Nat) : Int))] [.own 3 (⟨v32, [((8 * t : Nat) : Int)]⟩ : Ls Int), .rblk g 125 [code.v, pw, .int .i64 locks, .int .i64 regs, .int .i64 mode, thr.v, uv, owner.v, pv, .bool fell], .at_ code, .at_ thr, .at_ owner, .own 3 (⟨vm2, ml2⟩ : Ls Int)] ∧ m = (nth thr.l t).wait.l.length - k) ⟨_, 0, ml ++ ([((8 * t : Nat) : Int)]), v33, (by omega), (by first | (rw [if_pos (by assumption)]; simp [mayT]) | (rw [if_neg (by rw [show ableT code thr owner.l t = false by assumption]; decide)]; simp [mayT])), (by simp; omega), h36.nrm ⟨rfl, rfl, rfl, rfl, trivial⟩ [0, 1, 2, 3, 4, 5] (by decide) ⟨rfl, rfl, rfl, rfl, rfl, rfl, trivial⟩, rfl⟩ ?_
   clear h36
   rintro m37 a37 w37 ⟨k, ml2, vm2, hk, hml2, hmn2, h37, hm37⟩
   refine wp_seq_k fun K38 hK38 => wp_seq_k fun K39 hK39 => wp_region_lit <| wms 2 h37 rfl fun a40 h40 => wv h40 (r_nil rfl rfl) rfl rfl fun a41 h41 => wv h41 (r_fieldB (r := 5) fl_125_2 rfl rfl rfl) rfl rfl fun a42 h42 => wv h42 (r_ldbR ti_123 rfl rfl (fun w h => h.rblk 1 rfl) rfl) rfl rfl fun a43 h43 => wms 1 h43 rfl fun a44 h44 => wv h44 (r_ixN (s := thr) (q := t) sl_123 ti_147 rfl rfl rfl (fun w h => (h.at 3 rfl)) (show t < thr.l.length from (by omega))) rfl rfl fun a45 h45 => wv h45 (r_fieldE (r := 2) fl_147_2 rfl rfl rfl) rfl rfl fun a46 h46 => wv h46 (r_lde (s := thr) (i := t) (v := ((nth thr.l t).wait).v) ti_145 rfl rfl rfl (fun w h => (h.at 3 rfl)) (show t < thr.l.length from (by omega)) (Nat.le_of_ble_eq_true rfl) rfl) rfl rfl fun a47 h47 => ?_; clear h37 h40 h41 h42 h43 h44 h45 h46
   have hl48 : (((nth thr.l t).wait).l).length ≤ 140737488355328 := ((h47.sh.at 3 rfl).inner t (show t < thr.l.length from (by omega))).2.len
   refine wv h47 (r_len (s := (nth thr.l t).wait) (n := (((nth thr.l t).wait).l).length) sl_145 rfl rfl (fun w h => ((h.at 3 rfl).inner t (show t < thr.l.length from (by omega))).2) rfl) rfl rfl fun a49 h49 => wv h49 (r_lssN (p := k) (q := (((nth thr.l t).wait).l).length) rfl rfl rfl) rfl rfl fun a50 h50 => wpList_nil <| hK39 _ _ <| x_cond h50 rfl (fun hb51 => ?_) (fun hb51 => ?_); clear h47 h49
   ·have hp51 : k < (((nth thr.l t).wait).l).length := of_decide_eq_true hb51
    refine wp_skip <| hK38 _ _ <| wp_seq_k fun K52 hK52 => wp_block <| wp_seq_k fun K53 hK53 => wp_region_lit <| wms 2 h50 rfl fun a54 h54 => wv h54 (r_nil rfl rfl) rfl rfl fun a55 h55 => wv h55 (r_fieldB (r := 5) fl_125_2 rfl rfl rfl) rfl rfl fun a56 h56 => wv h56 (r_ldbR ti_123 rfl rfl (fun w h => h.rblk 1 rfl) rfl) rfl rfl fun a57 h57 => wms 1 h57 rfl fun a58 h58 => wv h58 (r_ixN (s := thr) (q := t) sl_123 ti_147 rfl rfl rfl (fun w h => (h.at 3 rfl)) (show t < thr.l.length from (by omega))) rfl rfl fun a59 h59 => wv h59 (r_fieldE (r := 2) fl_147_2 rfl rfl rfl) rfl rfl fun a60 h60 => wv h60 (r_lde (s := thr) (i := t) (v := ((nth thr.l t).wait).v) ti_145 rfl rfl rfl (fun w h => (h.at 3 rfl)) (show t < thr.l.length from (by omega)) (Nat.le_of_ble_eq_true rfl) rfl) rfl rfl fun a61 h61 => ?_; clear h50 h54 h55 h56 h57 h58 h59 h60
    refine wms 1 h61 rfl fun a62 h62 => wl_ex (x_call h62 bd_126 rfl rfl rfl rfl rfl (may_c g ((nth thr.l t).wait) k _ _ _ _ _ _ _ _ _ _ _ (h62.sh.rblk 1 rfl) ((h62.sh.at 3 rfl).inner t (show t < thr.l.length from (by omega))).2 (by omega))) (wanted_none rfl _) ?_; clear h61
    rintro a63 w63 ⟨_, ⟨rfl, hs63⟩, hf63⟩
    have h63 : St 60 (fun _ => False) W a63 w63 _ _ := ⟨hf63, h62.sh.call0 hs63⟩
    clear hf63 hs63
    clear h62
    refine wms 1 h63 rfl fun a64 h64 => wpList_nil <| hK53 _ _ <| wp_seq_k fun K65 hK65 => wp_region_lit <| wms 1 h64 rfl fun a66 h66 => wpList_nil <| hK65 _ _ ?_; clear h63 h64
    have h67 : St 60 (fun _ => False) W a66 w63 [(0, .pointer (some ⟨g, 0, none⟩)), (3, vm2), (4, .int .i64 ((t : Nat) : Int)), (6, .int .i64 ((k : Nat) : Int)), (50, .bool (mayK mode (((nth thr.l t).wait).l) k))] [.own 3 (⟨v32, [((8 * t : Nat) : Int)]⟩ : Ls Int), .rblk g 125 [code.v, pw, .int .i64 locks, .int .i64 regs, .int .i64 mode, thr.v, uv, owner.v, pv, .bool fell], .at_ code, .at_ thr, .at_ owner, .own 3 (⟨vm2, ml2⟩ : Ls Int)] := h66.nrm ⟨rfl, rfl, rfl, rfl, rfl, trivial⟩ [0, 1, 2, 3, 4, 5] (by decide) ⟨rfl, rfl, rfl, rfl, rfl, rfl, trivial⟩
    clear h66
    refine x_cond h67 rfl (fun hb68 => ?_) (fun hb68 => ?_)
    ·skip
     refine wp_region_lit <| wms 2 h67 rfl fun a69 h69 => wv h69 (r_mulN (p := 8) (q := t) rfl rfl rfl (show 8 * t < 9223372036854775808 from (by omega))) rfl rfl fun a70 h70 => wms 1 h70 rfl fun a71 h71 => wv h71 (r_addN (p := 8 * t) (q := k) rfl rfl rfl (show (8 * t) + k < 9223372036854775808 from (by omega))) rfl rfl fun a72 h72 => wv h72 (r_addN (p := (8 * t) + k) (q := 1) rfl rfl rfl (show ((8 * t) + k) + 1 < 9223372036854775808 from (by omega))) rfl rfl fun a73 h73 => wl_ex (x_lit (n := 1) (cs := [.int .i64 ((((8 * t) + k) + 1 : Nat) : Int)]) ([((((8 * t) + k) + 1 : Nat) : Int)] : List Int) h73 sl_23 ti_3 rfl rfl rfl (by decide) rfl (by kernel_rfl) rfl (fun q hq w h => Flat.inner _ _) (fun q hq b hb => (Flat.on _ _ hb).elim) rfl rfl) (wanted_none rfl _) ?_; clear h67 h69 h70 h71 h72
     rintro a74 w74 ⟨v74, h74⟩; clear h73
     refine wl_ex (x_app (r := 6) (rm := 0) (s := (⟨vm2, ml2⟩ : Ls Int)) (m := (⟨v74, [((((8 * t) + k) + 1 : Nat) : Int)]⟩ : Ls Int)) h74 sl_23 ti_3 rfl rfl rfl rfl rfl rfl rfl (fun w h => (h.own 0 rfl)) (fun b hb => own_on (h74.sh.ok _ (List.mem_of_getElem? (i := 0) rfl)) hb) (fun q hq b hb => ⟨q, hq, hb⟩) rfl rfl rfl inferInstance (show (ml2.length + ([((((8 * t) + k) + 1 : Nat) : Int)]).length) * 8 ≤ 140737488355328 ∧ ml2.length + ([((((8 * t) + k) + 1 : Nat) : Int)]).length ≤ 140737488355328 from (by first | omega | (simp only [lens9]; omega))) rfl rfl) (wanted_none rfl _) ?_
     rintro a75 w75 ⟨v75, h75⟩; clear h74
     refine wms 1 h75 rfl fun a76 h76 => wpList_nil <| hK52 _ _ <| wp_region_lit <| wms 1 h76 rfl fun a77 h77 => wv h77 (r_addN (p := k) (q := 1) rfl rfl rfl (show k + 1 < 9223372036854775808 from (by omega))) rfl rfl fun a78 h78 => wms 1 h78 rfl fun a79 h79 => wpList_nil <| x_again ⟨_, ?_, k + 1, ml2 ++ ([((((8 * t) + k) + 1 : Nat) : Int)]), v75, ?_, ?_, ?_, h79.nrm ⟨rfl, rfl, rfl, rfl, trivial⟩ [1, 2, 3, 4, 5, 6] (by decide) ⟨rfl, rfl, rfl, rfl, rfl, rfl, trivial⟩, rfl⟩; clear h75 h76 h77 h78
     · rw [hm37]; first | omega | (simp only [lens9]; omega)
     · omega
     · first | (rw [mayT_t (by assumption), hml2]; simp only [List.append_assoc]) | (rw [mayT_f (by assumption), hml2])
     · first | omega | (simp; omega)
    refine wp_skip <| hK52 _ _ <| wp_region_lit <| wms 1 h67 rfl fun a80 h80 => wv h80 (r_addN (p := k) (q := 1) rfl rfl rfl (show k + 1 < 9223372036854775808 from (by omega))) rfl rfl fun a81 h81 => wms 1 h81 rfl fun a82 h82 => wpList_nil <| x_again ⟨_, ?_, k + 1, ml2, vm2, ?_, ?_, ?_, h82.nrm ⟨rfl, rfl, rfl, rfl, trivial⟩ [0, 1, 2, 3, 4, 5] (by decide) ⟨rfl, rfl, rfl, rfl, rfl, rfl, trivial⟩, rfl⟩; clear h67 h80 h81
    · rw [hm37]; first | omega | (simp only [lens9]; omega)
    · omega
    · first | (rw [mayT_t (by assumption), hml2]; simp only [List.append_assoc]) | (rw [mayT_f (by assumption), hml2])
    · first | omega | (simp; omega)
   have hp51 : ¬ (k < (((nth thr.l t).wait).l).length) := of_decide_eq_false hb51
   refine wp_exit <| hK21 _ _ <| wp_region_lit <| wms 1 h50 rfl fun a83 h83 => wv h83 (r_addN (p := t) (q := 1) rfl rfl rfl (show t + 1 < 9223372036854775808 from (by omega))) rfl rfl fun a84 h84 => wms 1 h84 rfl fun a85 h85 => wpList_nil <| x_again ⟨_, ?_, t + 1, ml2, vm2, ?_, ?_, ?_, h85.nrm ⟨rfl, rfl, rfl, trivial⟩ [1, 2, 3, 4, 5] (by decide) ⟨rfl, rfl, rfl, rfl, rfl, trivial⟩, rfl⟩; clear h50 h83 h84
   · rw [hm9]; first | omega | (simp only [lens9]; omega)
   · omega
   · rw [movesL_succ, ← hml, hml2, moveT, show k = (nth thr.l t).wait.l.length by omega]
   · omega
  refine wp_skip <| hK26 _ _ <| wp_seq_k fun K86 hK86 => wp_region_lit <| wms 1 h28 rfl fun a87 h87 => wpList_nil <| hK86 _ _ <| wp_block ?_; clear h28
  have hwt := hw t (by omega)
  refine x_loop (fun m a w => ∃ (k : Nat) (ml2 : List Int) (vm2 : Value), (k ≤ (nth thr.l t).wait.l.length) ∧ (ml2 = ml ++ ((if ableT code thr owner.l t = true then [((8 * t : Nat) : Int)] else []) ++ mayT mode thr t k)) ∧ (ml2.length ≤ 4 * t + 1 + k) ∧ St 60 (fun _ => False) W a w [(0, .pointer (some ⟨g, 0, none⟩)), (3, vm2), (4, .int .i64 ((t : Nat) : Int)), (6, .int .i64 ((k : Nat) : Int))] [.rblk g 125 [code.v, pw, .int .i64 locks, .int .i64 regs, .int .i64 mode, thr.v, uv, owner.v, pv, .bool fell], .at_ code, .at_ thr, .at_ owner, .own 3 (⟨vm2, ml2⟩ : Ls Int)] ∧ m = (nth thr.l t).wait.l.length - k) ⟨_, 0, ml, vm, (by omega), (by first | (rw [if_pos (by assumption)]; simp [mayT]) | (rw [if_neg (by rw [show ableT code thr owner.l t = false by assumption]; decide)]; simp [mayT])), (by simp; omega), h87.nrm ⟨rfl, rfl, rfl, rfl, trivial⟩ [0, 1, 2, 3, 4] (by decide) ⟨rfl, rfl, rfl, rfl, rfl, trivial⟩, rfl⟩ ?_
  clear h87
  rintro m88 a88 w88 ⟨k, ml2, vm2, hk, hml2, hmn2, h88, hm88⟩
  refine wp_seq_k fun K89 hK89 => wp_seq_k fun K90 hK90 => wp_region_lit <| wms 2 h88 rfl fun a91 h91 => wv h91 (r_nil rfl rfl) rfl rfl fun a92 h92 => wv h92 (r_fieldB (r := 5) fl_125_2 rfl rfl rfl) rfl rfl fun a93 h93 => wv h93 (r_ldbR ti_123 rfl rfl (fun w h => h.rblk 0 rfl) rfl) rfl rfl fun a94 h94 => wms 1 h94 rfl fun a95 h95 => wv h95 (r_ixN (s := thr) (q := t) sl_123 ti_147 rfl rfl rfl (fun w h => (h.at 2 rfl)) (show t < thr.l.length from (by omega))) rfl rfl fun a96 h96 => wv h96 (r_fieldE (r := 2) fl_147_2 rfl rfl rfl) rfl rfl fun a97 h97 => wv h97 (r_lde (s := thr) (i := t) (v := ((nth thr.l t).wait).v) ti_145 rfl rfl rfl (fun w h => (h.at 2 rfl)) (show t < thr.l.length from (by omega)) (Nat.le_of_ble_eq_true rfl) rfl) rfl rfl fun a98 h98 => ?_; clear h88 h91 h92 h93 h94 h95 h96 h97
  have hl99 : (((nth thr.l t).wait).l).length ≤ 140737488355328 := ((h98.sh.at 2 rfl).inner t (show t < thr.l.length from (by omega))).2.len
  refine wv h98 (r_len (s := (nth thr.l t).wait) (n := (((nth thr.l t).wait).l).length) sl_145 rfl rfl (fun w h => ((h.at 2 rfl).inner t (show t < thr.l.length from (by omega))).2) rfl) rfl rfl fun a100 h100 => wv h100 (r_lssN (p := k) (q := (((nth thr.l t).wait).l).length) rfl rfl rfl) rfl rfl fun a101 h101 => wpList_nil <| hK90 _ _ <| x_cond h101 rfl (fun hb102 => ?_) (fun hb102 => ?_); clear h98 h100
  ·have hp102 : k < (((nth thr.l t).wait).l).length := of_decide_eq_true hb102
   refine wp_skip <| hK89 _ _ <| wp_seq_k fun K103 hK103 => wp_block <| wp_seq_k fun K104 hK104 => wp_region_lit <| wms 2 h101 rfl fun a105 h105 => wv h105 (r_nil rfl rfl) rfl rfl fun a106 h106 => wv h106 (r_fieldB (r := 5) fl_125_2 rfl rfl rfl) rfl rfl fun a107 h107 => wv h107 (r_ldbR ti_123 rfl rfl (fun w h => h.rblk 0 rfl) rfl) rfl rfl fun a108 h108 => wms 1 h108 rfl fun a109 h109 => wv h109 (r_ixN (s := thr) (q := t) sl_123 ti_147 rfl rfl rfl (fun w h => (h.at 2 rfl)) (show t < thr.l.length from (by omega))) rfl rfl fun a110 h110 => wv h110 (r_fieldE (r := 2) fl_147_2 rfl rfl rfl) rfl rfl fun a111 h111 => wv h111 (r_lde (s := thr) (i := t) (v := ((nth thr.l t).wait).v) ti_145 rfl rfl rfl (fun w h => (h.at 2 rfl)) (show t < thr.l.length from (by omega)) (Nat.le_of_ble_eq_true rfl) rfl) rfl rfl fun a112 h112 => ?_; clear h101 h105 h106 h107 h108 h109 h110 h111
   refine wms 1 h112 rfl fun a113 h113 => wl_ex (x_call h113 bd_126 rfl rfl rfl rfl rfl (may_c g ((nth thr.l t).wait) k _ _ _ _ _ _ _ _ _ _ _ (h113.sh.rblk 0 rfl) ((h113.sh.at 2 rfl).inner t (show t < thr.l.length from (by omega))).2 (by omega))) (wanted_none rfl _) ?_; clear h112
   rintro a114 w114 ⟨_, ⟨rfl, hs114⟩, hf114⟩
   have h114 : St 60 (fun _ => False) W a114 w114 _ _ := ⟨hf114, h113.sh.call0 hs114⟩
   clear hf114 hs114
   clear h113
   refine wms 1 h114 rfl fun a115 h115 => wpList_nil <| hK104 _ _ <| wp_seq_k fun K116 hK116 => wp_region_lit <| wms 1 h115 rfl fun a117 h117 => wpList_nil <| hK116 _ _ ?_; clear h114 h115
   have h118 : St 60 (fun _ => False) W a117 w114 [(0, .pointer (some ⟨g, 0, none⟩)), (3, vm2), (4, .int .i64 ((t : Nat) : Int)), (6, .int .i64 ((k : Nat) : Int)), (50, .bool (mayK mode (((nth thr.l t).wait).l) k))] [.rblk g 125 [code.v, pw, .int .i64 locks, .int .i64 regs, .int .i64 mode, thr.v, uv, owner.v, pv, .bool fell], .at_ code, .at_ thr, .at_ owner, .own 3 (⟨vm2, ml2⟩ : Ls Int)] := h117.nrm ⟨rfl, rfl, rfl, rfl, rfl, trivial⟩ [0, 1, 2, 3, 4] (by decide) ⟨rfl, rfl, rfl, rfl, rfl, trivial⟩
   clear h117
   refine x_cond h118 rfl (fun hb119 => ?_) (fun hb119 => ?_)
   ·skip
    refine wp_region_lit <| wms 2 h118 rfl fun a120 h120 => wv h120 (r_mulN (p := 8) (q := t) rfl rfl rfl (show 8 * t < 9223372036854775808 from (by omega))) rfl rfl fun a121 h121 => wms 1 h121 rfl fun a122 h122 => wv h122 (r_addN (p := 8 * t) (q := k) rfl rfl rfl (show (8 * t) + k < 9223372036854775808 from (by omega))) rfl rfl fun a123 h123 => wv h123 (r_addN (p := (8 * t) + k) (q := 1) rfl rfl rfl (show ((8 * t) + k) + 1 < 9223372036854775808 from (by omega))) rfl rfl fun a124 h124 => wl_ex (x_lit (n := 1) (cs := [.int .i64 ((((8 * t) + k) + 1 : Nat) : Int)]) ([((((8 * t) + k) + 1 : Nat) : Int)] : List Int) h124 sl_23 ti_3 rfl rfl rfl (by decide) rfl (by kernel_rfl) rfl (fun q hq w h => Flat.inner _ _) (fun q hq b hb => (Flat.on _ _ hb).elim) rfl rfl) (wanted_none rfl _) ?_; clear h118 h120 h121 h122 h123
    rintro a125 w125 ⟨v125, h125⟩; clear h124
    refine wl_ex (x_app (r := 5) (rm := 0) (s := (⟨vm2, ml2⟩ : Ls Int)) (m := (⟨v125, [((((8 * t) + k) + 1 : Nat) : Int)]⟩ : Ls Int)) h125 sl_23 ti_3 rfl rfl rfl rfl rfl rfl rfl (fun w h => (h.own 0 rfl)) (fun b hb => own_on (h125.sh.ok _ (List.mem_of_getElem? (i := 0) rfl)) hb) (fun q hq b hb => ⟨q, hq, hb⟩) rfl rfl rfl inferInstance (show (ml2.length + ([((((8 * t) + k) + 1 : Nat) : Int)]).length) * 8 ≤ 140737488355328 ∧ ml2.length + ([((((8 * t) + k) + 1 : Nat) : Int)]).length ≤ 140737488355328 from (by first | omega | (simp only [lens9]; omega))) rfl rfl) (wanted_none rfl _) ?_
    rintro a126 w126 ⟨v126, h126⟩; clear h125
    refine wms 1 h126 rfl fun a127 h127 => wpList_nil <| hK103 _ _ <| wp_region_lit <| wms 1 h127 rfl fun a128 h128 => wv h128 (r_addN (p := k) (q := 1) rfl rfl rfl (show k + 1 < 9223372036854775808 from (by omega))) rfl rfl fun a129 h129 => wms 1 h129 rfl fun a130 h130 => wpList_nil <| x_again ⟨_, ?_, k + 1, ml2 ++ ([((((8 * t) + k) + 1 : Nat) : Int)]), v126, ?_, ?_, ?_, h130.nrm ⟨rfl, rfl, rfl, rfl, trivial⟩ [1, 2, 3, 4, 5] (by decide) ⟨rfl, rfl, rfl, rfl, rfl, trivial⟩, rfl⟩; clear h126 h127 h128 h129
    · rw [hm88]; first | omega | (simp only [lens9]; omega)
    · omega
    · first | (rw [mayT_t (by assumption), hml2]; simp only [List.append_assoc]) | (rw [mayT_f (by assumption), hml2])
    · first | omega | (simp; omega)
   refine wp_skip <| hK103 _ _ <| wp_region_lit <| wms 1 h118 rfl fun a131 h131 => wv h131 (r_addN (p := k) (q := 1) rfl rfl rfl (show k + 1 < 9223372036854775808 from (by omega))) rfl rfl fun a132 h132 => wms 1 h132 rfl fun a133 h133 => wpList_nil <| x_again ⟨_, ?_, k + 1, ml2, vm2, ?_, ?_, ?_, h133.nrm ⟨rfl, rfl, rfl, rfl, trivial⟩ [0, 1, 2, 3, 4] (by decide) ⟨rfl, rfl, rfl, rfl, rfl, trivial⟩, rfl⟩; clear h118 h131 h132
   · rw [hm88]; first | omega | (simp only [lens9]; omega)
   · omega
   · first | (rw [mayT_t (by assumption), hml2]; simp only [List.append_assoc]) | (rw [mayT_f (by assumption), hml2])
   · first | omega | (simp; omega)
  have hp102 : ¬ (k < (((nth thr.l t).wait).l).length) := of_decide_eq_false hb102
  refine wp_exit <| hK21 _ _ <| wp_region_lit <| wms 1 h101 rfl fun a134 h134 => wv h134 (r_addN (p := t) (q := 1) rfl rfl rfl (show t + 1 < 9223372036854775808 from (by omega))) rfl rfl fun a135 h135 => wms 1 h135 rfl fun a136 h136 => wpList_nil <| x_again ⟨_, ?_, t + 1, ml2, vm2, ?_, ?_, ?_, h136.nrm ⟨rfl, rfl, rfl, trivial⟩ [0, 1, 2, 3, 4] (by decide) ⟨rfl, rfl, rfl, rfl, rfl, trivial⟩, rfl⟩; clear h101 h134 h135
  · rw [hm9]; first | omega | (simp only [lens9]; omega)
  · omega
  · rw [movesL_succ, ← hml, hml2, moveT, show k = (nth thr.l t).wait.l.length by omega]
  · omega
 have hp20 : ¬ (t < thr.l.length) := of_decide_eq_false hb20
 refine wp_exit <| hK6 _ _ <| wp_seq_k fun K137 hK137 => wp_region_lit <| wms 2 h19 rfl fun a138 h138 => wpList_nil <| hK137 _ _ <| wp_ret ?_; clear h19
 try simp only [Exit.then, Exit.inBlock]
 refine x_ret1 (fn := Try.f79) (t := 2) rfl h138 rfl <| ⟨⟨vm, ml⟩, rfl, ?_, (h138.sh.sel (L' := [.own 3 (⟨vm, ml⟩ : Ls Int)]) [4] (by decide) ⟨rfl, trivial⟩)⟩
 rw [← show t = code.l.length by omega]; exact hml

set_option maxRecDepth 100000 in
set_option maxHeartbeats 1000000 in
theorem ended_c (g : Nat) (code : Ls (Ls Ins)) (thr : Ls ThL) (pw : Value) (locks : Int) (regs : Int) (mode : Int) (uv : Value) (ov : Value) (pv : Value) (fell : Bool) (W : World) (hB : Blk W g 125 #[code.v, pw, .int .i64 locks, .int .i64 regs, .int .i64 mode, thr.v, uv, ov, pv, .bool fell]) (h_code : code.At W) (h_thr : thr.At W) (hcl : code.l.length ≤ 4) (htl : thr.l.length = code.l.length) (hpc : ∀ t, t < code.l.length → 0 ≤ (nth thr.l t).pc) :
    Rets Try.prog 78 [.pointer (some ⟨g, 0, none⟩)] W (fun v w' => v = .bool (endedL code thr) ∧ Sh0 W w' []) := by
 refine x_enter (N := 34) Try.func78 rfl Try.ntmps78 (Nat.le_of_ble_eq_true rfl) fun a1 hf1 => ?_
 have h1 : St 34 (fun _ => False) W a1 W [(0, .pointer (some ⟨g, 0, none⟩))] [.rblk g 125 [code.v, pw, .int .i64 locks, .int .i64 regs, .int .i64 mode, thr.v, uv, ov, pv, .bool fell], .at_ code, .at_ thr] := ⟨hf1.sub ⟨rfl, trivial⟩, Sh0.ext (by intro A hA; simp at hA; rcases hA with rfl | rfl | rfl; exact hB; exact h_code; exact h_thr) (by intro A hA b hb; simp at hA; rcases hA with rfl | rfl | rfl <;> exact hb)⟩
 clear hf1
 refine wp_seq_k fun K2 hK2 => wp_region_lit <| wms 1 h1 rfl fun a3 h3 => wpList_nil <| hK2 _ _ <| wp_seq_k fun K4 hK4 => wp_seq_k fun K5 hK5 => wp_region_lit <| wms 1 h3 rfl fun a6 h6 => wpList_nil <| hK5 _ _ <| wp_block <| x_loop (fun m a w => ∃ (t : Nat), (t ≤ thr.l.length) ∧ (∀ j, j < t → endT code thr j = true) ∧ St 34 (fun _ => False) W a w [(0, .pointer (some ⟨g, 0, none⟩)), (3, .int .i64 ((t : Nat) : Int))] [.rblk g 125 [code.v, pw, .int .i64 locks, .int .i64 regs, .int .i64 mode, thr.v, uv, ov, pv, .bool fell], .at_ code, .at_ thr] ∧ m = thr.l.length - t) ⟨_, 0, (by omega), (fun j hj => absurd hj (by omega)), h6.nrm ⟨rfl, rfl, trivial⟩ [0, 1, 2] (by decide) ⟨rfl, rfl, rfl, trivial⟩, rfl⟩ ?_; clear h1 h3
 clear h6
 rintro m7 a7 w7 ⟨t, ht, hall, h7, hm7⟩
 refine wp_seq_k fun K8 hK8 => wp_seq_k fun K9 hK9 => wp_region_lit <| wms 2 h7 rfl fun a10 h10 => wv h10 (r_nil rfl rfl) rfl rfl fun a11 h11 => wv h11 (r_fieldB (r := 5) fl_125_2 rfl rfl rfl) rfl rfl fun a12 h12 => wv h12 (r_ldbR ti_123 rfl rfl (fun w h => h.rblk 0 rfl) rfl) rfl rfl fun a13 h13 => ?_; clear h7 h10 h11 h12
 have hl14 : thr.l.length ≤ 140737488355328 := (h13.sh.at 2 rfl).len
 refine wv h13 (r_len (s := thr) (n := thr.l.length) sl_123 rfl rfl (fun w h => (h.at 2 rfl)) rfl) rfl rfl fun a15 h15 => wv h15 (r_lssN (p := t) (q := thr.l.length) rfl rfl rfl) rfl rfl fun a16 h16 => wpList_nil <| hK9 _ _ <| x_cond h16 rfl (fun hb17 => ?_) (fun hb17 => ?_); clear h13 h15
 ·have hp17 : t < thr.l.length := of_decide_eq_true hb17
  refine wp_skip <| hK8 _ _ <| wp_seq_k fun K18 hK18 => wp_block <| wp_seq_k fun K19 hK19 => wp_region_lit <| wms 2 h16 rfl fun a20 h20 => wl_ex (x_call h20 bd_89 rfl rfl rfl rfl rfl (next_c g t code ⟨thr.v, thr.l.map ThL.toV⟩ _ _ _ _ _ _ _ _ _ (h20.sh.rblk 0 rfl) (h20.sh.at 1 rfl) (ThL.atV (h20.sh.at 2 rfl)) (by first | omega | (simp only [lens9]; omega)) (by simp; omega) (by rw [nth_map' _ _ _ (by omega)]; exact hpc t (by omega)))) (wanted_none rfl _) ?_; clear h16
  rintro a21 w21 ⟨_, ⟨hv21, hs21⟩, hf21⟩
  rw [nth_map' _ _ _ (show t < thr.l.length from (by omega)), show (ThL.toV (nth thr.l t)).pc = (nth thr.l t).pc from rfl] at hv21
  subst hv21
  have h21 : St 34 (fun _ => False) W a21 w21 _ _ := ⟨hf21, h20.sh.call0 hs21⟩
  clear hf21 hs21
  clear h20
  refine wms 1 h21 rfl fun a22 h22 => wv h22 (r_extract rfl rfl rfl) rfl rfl fun a23 h23 => wv h23 (r_extract rfl rfl rfl) rfl rfl fun a24 h24 => wl_ex (x_alloc h24 ti_32 rfl rfl rfl) (wanted_none rfl _) ?_; clear h21 h22 h23
  rintro a25 w25 ⟨b25, h25⟩; clear h24
  refine wl_ex (x_stb (i := 0) (vs := [.int .i64 ((nextIns (nth code.l t).l (nth thr.l t).pc).op), .int .i64 ((nextIns (nth code.l t).l (nth thr.l t).pc).a), .int .i64 ((nextIns (nth code.l t).l (nth thr.l t).pc).b), .int .i64 ((nextIns (nth code.l t).l (nth thr.l t).pc).c)]) (cs' := [.int .i64 ((nextIns (nth code.l t).l (nth thr.l t).pc).op), .int .i64 ((nextIns (nth code.l t).l (nth thr.l t).pc).a), .int .i64 ((nextIns (nth code.l t).l (nth thr.l t).pc).b), .int .i64 ((nextIns (nth code.l t).l (nth thr.l t).pc).c)]) h25 ti_32 rfl rfl rfl rfl rfl rfl rfl (allOne_cons rfl (allOne_cons rfl (allOne_cons rfl (allOne_cons rfl allOne_nil)))) (Nat.le_of_ble_eq_true rfl) rfl) (wanted_none rfl _) ?_
  rintro a26 w26 h26
  clear h25
  refine wms 1 h26 rfl fun a27 h27 => wpList_nil <| hK19 _ _ <| wp_seq_k fun K28 hK28 => wp_region_lit <| wms 2 h27 rfl fun a29 h29 => ?_; clear h26 h27
  rcases Bool.eq_false_or_eq_true (decide ((nth thr.l t).pc < ((nth code.l t).l.length : Int))) with hb30 | hb30
  ·have hp30 : (nth thr.l t).pc < ((nth code.l t).l.length : Int) := of_decide_eq_true hb30
   refine wl_skip h29 (wanted_no h29.fr rfl rfl rfl rfl hb30) rfl rfl fun a31 h31 => wl_skip h31 (wanted_no h31.fr rfl rfl rfl rfl hb30) rfl rfl fun a32 h32 => wl_skip h32 (wanted_no h32.fr rfl rfl rfl rfl hb30) rfl rfl fun a33 h33 => wl_skip h33 (wanted_no h33.fr rfl rfl rfl rfl hb30) rfl rfl fun a34 h34 => wl_skip h34 (wanted_no h34.fr rfl rfl rfl rfl hb30) rfl rfl fun a35 h35 => wl_skip h35 (wanted_no h35.fr rfl rfl rfl rfl hb30) rfl rfl fun a36 h36 => wl_skip h36 (wanted_no h36.fr rfl rfl rfl rfl hb30) rfl rfl fun a37 h37 => wl_skip h37 (wanted_no h37.fr rfl rfl rfl rfl hb30) rfl rfl fun a38 h38 => wl_skip h38 (wanted_no h38.fr rfl rfl rfl rfl hb30) rfl rfl fun a39 h39 => wl_skip h39 (wanted_no h39.fr rfl rfl rfl rfl hb30) rfl rfl fun a40 h40 => wv h40 (r_pickT rfl rfl hb30 rfl) rfl rfl fun a41 h41 => wpList_nil <| hK28 _ _ ?_; clear h29 h31 h32 h33 h34 h35 h36 h37 h38 h39 h40
   have h42 : St 34 (fun _ => False) W a41 w26 [(0, .pointer (some ⟨g, 0, none⟩)), (3, .int .i64 ((t : Nat) : Int)), (33, .bool true)] [.blk b25 32 [.int .i64 ((nextIns (nth code.l t).l (nth thr.l t).pc).op), .int .i64 ((nextIns (nth code.l t).l (nth thr.l t).pc).a), .int .i64 ((nextIns (nth code.l t).l (nth thr.l t).pc).b), .int .i64 ((nextIns (nth code.l t).l (nth thr.l t).pc).c)], .rblk g 125 [code.v, pw, .int .i64 locks, .int .i64 regs, .int .i64 mode, thr.v, uv, ov, pv, .bool fell], .at_ code, .at_ thr] := h41.nrm ⟨rfl, rfl, rfl, trivial⟩ [0, 1, 2, 3] (by decide) ⟨rfl, rfl, rfl, rfl, trivial⟩
   clear h41
   refine x_condT h42 rfl rfl <| wp_seq_k fun K43 hK43 => wp_region_lit <| wms 1 h42 rfl fun a44 h44 => wpList_nil <| hK43 _ _ <| wp_ret ?_; clear h42
   try simp only [Exit.then, Exit.inBlock]
   refine x_ret1 (fn := Try.f78) (t := 2) rfl h44 rfl <| ⟨?_, (h44.sh.sel [] (by decide) trivial)⟩
   congr 1
   first | exact (endedL_t (fun j hj => hall j (by omega))).symm | exact (endedL_f (t := t) (by omega) (by omega)).symm
  have hp30 : ¬ ((nth thr.l t).pc < ((nth code.l t).l.length : Int)) := of_decide_eq_false hb30
  refine wl_val h29 (r_move rfl rfl) (wanted_yes h29.fr rfl rfl rfl rfl hb30) rfl rfl fun a45 h45 => wl_val h45 (r_nil rfl rfl) (wanted_yes h45.fr rfl rfl rfl rfl hb30) rfl rfl fun a46 h46 => wl_val h46 (r_fieldB (r := 5) fl_125_2 rfl rfl rfl) (wanted_yes h46.fr rfl rfl rfl rfl hb30) rfl rfl fun a47 h47 => wl_val h47 (r_ldbR ti_123 rfl rfl (fun w h => h.rblk 1 rfl) rfl) (wanted_yes h47.fr rfl rfl rfl rfl hb30) rfl rfl fun a48 h48 => wl_val h48 (r_move rfl rfl) (wanted_yes h48.fr rfl rfl rfl rfl hb30) rfl rfl fun a49 h49 => wl_val h49 (r_ixN (s := thr) (q := t) sl_123 ti_147 rfl rfl rfl (fun w h => (h.at 3 rfl)) (show t < thr.l.length from (by omega))) (wanted_yes h49.fr rfl rfl rfl rfl hb30) rfl rfl fun a50 h50 => wl_val h50 (r_fieldE (r := 2) fl_147_2 rfl rfl rfl) (wanted_yes h50.fr rfl rfl rfl rfl hb30) rfl rfl fun a51 h51 => wl_val h51 (r_lde (s := thr) (i := t) (v := ((nth thr.l t).wait).v) ti_145 rfl rfl rfl (fun w h => (h.at 3 rfl)) (show t < thr.l.length from (by omega)) (Nat.le_of_ble_eq_true rfl) rfl) (wanted_yes h51.fr rfl rfl rfl rfl hb30) rfl rfl fun a52 h52 => ?_; clear h29 h45 h46 h47 h48 h49 h50 h51
  have hl53 : (((nth thr.l t).wait).l).length ≤ 140737488355328 := ((h52.sh.at 3 rfl).inner t (show t < thr.l.length from (by omega))).2.len
  refine wl_val h52 (r_len (s := (nth thr.l t).wait) (n := (((nth thr.l t).wait).l).length) sl_145 rfl rfl (fun w h => ((h.at 3 rfl).inner t (show t < thr.l.length from (by omega))).2) rfl) (wanted_yes h52.fr rfl rfl rfl rfl hb30) rfl rfl fun a54 h54 => wl_val h54 (r_gtrN (p := (((nth thr.l t).wait).l).length) (q := 0) rfl rfl rfl) (wanted_yes h54.fr rfl rfl rfl rfl hb30) rfl rfl fun a55 h55 => wv h55 (r_pickF rfl rfl hb30 rfl) rfl rfl fun a56 h56 => wpList_nil <| hK28 _ _ ?_; clear h52 h54 h55
  have h57 : St 34 (fun _ => False) W a56 w26 [(0, .pointer (some ⟨g, 0, none⟩)), (3, .int .i64 ((t : Nat) : Int)), (33, .bool (decide (0 < (((nth thr.l t).wait).l).length)))] [.blk b25 32 [.int .i64 ((nextIns (nth code.l t).l (nth thr.l t).pc).op), .int .i64 ((nextIns (nth code.l t).l (nth thr.l t).pc).a), .int .i64 ((nextIns (nth code.l t).l (nth thr.l t).pc).b), .int .i64 ((nextIns (nth code.l t).l (nth thr.l t).pc).c)], .rblk g 125 [code.v, pw, .int .i64 locks, .int .i64 regs, .int .i64 mode, thr.v, uv, ov, pv, .bool fell], .at_ code, .at_ thr] := h56.nrm ⟨rfl, rfl, rfl, trivial⟩ [0, 1, 2, 3] (by decide) ⟨rfl, rfl, rfl, rfl, trivial⟩
  clear h56
  refine x_cond h57 rfl (fun hb58 => ?_) (fun hb58 => ?_)
  ·have hp58 : 0 < (((nth thr.l t).wait).l).length := of_decide_eq_true hb58
   refine wp_seq_k fun K59 hK59 => wp_region_lit <| wms 1 h57 rfl fun a60 h60 => wpList_nil <| hK59 _ _ <| wp_ret ?_; clear h57
   try simp only [Exit.then, Exit.inBlock]
   refine x_ret1 (fn := Try.f78) (t := 2) rfl h60 rfl <| ⟨?_, (h60.sh.sel [] (by decide) trivial)⟩
   congr 1
   first | exact (endedL_t (fun j hj => hall j (by omega))).symm | exact (endedL_f (t := t) (by omega) (by omega)).symm
  have hp58 : ¬ (0 < (((nth thr.l t).wait).l).length) := of_decide_eq_false hb58
  refine wp_skip <| hK18 _ _ <| wp_region_lit <| wms 1 h57 rfl fun a61 h61 => wv h61 (r_addN (p := t) (q := 1) rfl rfl rfl (show t + 1 < 9223372036854775808 from (by omega))) rfl rfl fun a62 h62 => wms 1 h62 rfl fun a63 h63 => wpList_nil <| x_again ⟨_, ?_, t + 1, ?_, ?_, h63.nrm ⟨rfl, rfl, trivial⟩ [1, 2, 3] (by decide) ⟨rfl, rfl, rfl, trivial⟩, rfl⟩; clear h57 h61 h62
  · rw [hm7]; first | omega | (simp only [lens9]; omega)
  · omega
  · intro j hj; rcases Nat.lt_or_ge j t with h | h; (exact hall j h); obtain rfl : j = t := (by omega); exact endT_t (by omega) (by omega)
 have hp17 : ¬ (t < thr.l.length) := of_decide_eq_false hb17
 refine wp_exit <| hK4 _ _ <| wp_seq_k fun K64 hK64 => wp_region_lit <| wms 1 h16 rfl fun a65 h65 => wpList_nil <| hK64 _ _ <| wp_ret ?_; clear h16
 try simp only [Exit.then, Exit.inBlock]
 refine x_ret1 (fn := Try.f78) (t := 2) rfl h65 rfl <| ⟨?_, (h65.sh.sel [] (by decide) trivial)⟩
 congr 1
 first | exact (endedL_t (fun j hj => hall j (by omega))).symm | exact (endedL_f (t := t) (by omega) (by omega)).symm

end Go.Proofs.Ytfpaahkleienoaa
