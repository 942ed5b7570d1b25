/-
  Contracts of functions of this program and of the references, each walked once.
-/
import Derived.Test.YtanhbpofhebbaaaX1
import Derived.Test.YtanhbpofhebbaaaC1
namespace Go.Proofs.Ytanhbpofhebbaaa
open Go.RowKit
set_option linter.unusedSimpArgs false
set_option linter.unusedVariables false


theorem take_succ_nth {α : Type} [Inhabited α] (l : List α) (k : Nat) (h : k < l.length) : l.take (k + 1) = l.take k ++ [nth l k] := by
  rw [List.take_succ_eq_append_getElem h, nth_lt l k h]
theorem ext_nth {α : Type} [Inhabited α] (l m : List α) (hl : l.length = m.length) (h : ∀ i, i < l.length → nth l i = nth m i) : l = m := by
  apply List.ext_getElem hl
  intro i h1 h2
  have := h i h1
  rwa [nth_lt l i h1, nth_lt m i h2] at this

def endF (code : List Ins) : Nat → Nat → Nat
  | 0, at_ => at_
  | n + 1, at_ => if at_ < code.length ∧ (nth code at_).op = 14 then endF code n (nth code at_).a.toNat else at_
theorem endF_stop (code : List Ins) (n at_ : Nat) (h : ¬ (at_ < code.length ∧ (nth code at_).op = 14)) : endF code n at_ = at_ := by
  cases n <;> simp [endF, h]
theorem endF_go (code : List Ins) (n at_ : Nat) (h : at_ < code.length) (h2 : (nth code at_).op = 14) (hn : 0 < n) : endF code n at_ = endF code (n - 1) (nth code at_).a.toNat := by
  obtain ⟨m, rfl⟩ : ∃ m, n = m + 1 := ⟨n - 1, by omega⟩
  simp [endF, h, h2]
/-- Every jump of a thread leads to a place of it. -/
def JumpsOK (code : List Ins) : Prop := ∀ i, i < code.length → ((nth code i).op = 14 → 0 ≤ (nth code i).a ∧ (nth code i).a ≤ code.length) ∧ ((nth code i).op = 15 → 0 ≤ (nth code i).b ∧ (nth code i).b ≤ code.length)

def placeL (become : List (List Ins)) (i : Nat) : Nat := ((become.take i).map List.length).sum
theorem placeL_succ (become : List (List Ins)) (i : Nat) (h : i < become.length) : placeL become (i + 1) = placeL become i + (nth become i).length := by
  unfold placeL
  rw [take_succ_nth _ _ h]
  simp
def fixIns (become : List (List Ins)) (code : List Ins) (i : Nat) (x : Ins) : Ins :=
  if x.op = 14 ∧ ((nth code i).op = 14 ∨ (nth code i).op = 15) then { x with a := placeL become x.a.toNat }
  else if x.op = 15 ∧ (nth code i).op = 15 then { x with b := placeL become x.b.toNat }
  else if x.op = 15 ∧ (nth code i).op = 17 then { x with b := placeL become i } else x
def putUpto (become : List (List Ins)) (code : List Ins) (i : Nat) : List Ins := (List.range i).flatMap fun i => (nth become i).map (fixIns become code i)
def putL (become : List (List Ins)) (code : List Ins) : List Ins := putUpto become code code.length
theorem putUpto_succ (become : List (List Ins)) (code : List Ins) (i : Nat) : putUpto become code (i + 1) = putUpto become code i ++ (nth become i).map (fixIns become code i) := by
  simp [putUpto, List.range_succ]
theorem ins_ext {x y : Ins} (h1 : x.op = y.op) (h2 : x.a = y.a) (h3 : x.b = y.b) (h4 : x.c = y.c) : x = y := by
  cases x; cases y; simp_all
instance : DecidableEq Pg := fun p q => by
  rcases p with ⟨a, b, c, d⟩; rcases q with ⟨a', b', c', d'⟩
  exact decidable_of_iff (a = a' ∧ b = b' ∧ c = c' ∧ d = d') (by simp)
section
variable {code code2 : Ls (Ls Ins)} {words words2 : Ls Int} {locks regs locks2 regs2 : Int}
theorem pg_words (e : pgOf code words locks regs = pgOf code2 words2 locks2 regs2) : words.l = words2.l := congrArg Pg.words e
theorem pg_locks (e : pgOf code words locks regs = pgOf code2 words2 locks2 regs2) : locks = locks2 := congrArg Pg.locks e
theorem pg_regs (e : pgOf code words locks regs = pgOf code2 words2 locks2 regs2) : regs = regs2 := congrArg Pg.regs e
theorem pg_len (e : pgOf code words locks regs = pgOf code2 words2 locks2 regs2) : code.l.length = code2.l.length := by simpa [pgOf] using congrArg (fun p : Pg => p.code.length) e
theorem pg_code (e : pgOf code words locks regs = pgOf code2 words2 locks2 regs2) (t : Nat) (h : t < code.l.length) : (nth code.l t).l = (nth code2.l t).l := by
  have h1 := congrArg (fun p : Pg => nth p.code t) e
  have h2 := pg_len e
  simp only [pgOf] at h1
  rwa [nth_map' _ _ _ h, nth_map' _ _ _ (by omega)] at h1
theorem pg_eq (h1 : words.l = words2.l) (h2 : locks = locks2) (h3 : regs = regs2) (h4 : code.l.length = code2.l.length) (h5 : ∀ j, j < code.l.length → (nth code.l j).l = (nth code2.l j).l) : pgOf code words locks regs = pgOf code2 words2 locks2 regs2 := by
  unfold pgOf
  rw [h1, h2, h3]
  congr 1
  refine ext_nth _ _ (by simpa using h4) fun i hi => ?_
  have hi' : i < code.l.length := by simpa using hi
  rw [nth_map' _ _ _ hi', nth_map' _ _ _ (by omega)]
  exact h5 i hi'
end
def noneP (p : Pg) : Bool := decide (p.code.length + p.words.length = 0 ∧ p.locks = 0 ∧ p.regs = 0)
def BecomeOK2 (become : List (Ls Ins)) (code : List Ins) : Prop := ∀ i, i < code.length → ∀ k, k < (nth become i).l.length →
  ((nth (nth become i).l k).op ≠ 14 ∨ ((nth code i).op ≠ 14 ∧ (nth code i).op ≠ 15) ∨ (0 ≤ (nth (nth become i).l k).a ∧ (nth (nth become i).l k).a ≤ code.length)) ∧
  ((nth (nth become i).l k).op ≠ 15 ∨ (nth code i).op ≠ 15 ∨ (0 ≤ (nth (nth become i).l k).b ∧ (nth (nth become i).l k).b ≤ code.length))
/-- The new orders' jumps tell old places. -/
def BecomeOK (become : List (List Ins)) (code : List Ins) : Prop := ∀ i, i < code.length → ∀ k, k < (nth become i).length →
  ((nth (nth become i) k).op = 14 → ((nth code i).op = 14 ∨ (nth code i).op = 15) → 0 ≤ (nth (nth become i) k).a ∧ (nth (nth become i) k).a ≤ code.length) ∧
  ((nth (nth become i) k).op = 15 → (nth code i).op = 15 → 0 ≤ (nth (nth become i) k).b ∧ (nth (nth become i) k).b ≤ code.length)
theorem length_putUpto (become : List (List Ins)) (code : List Ins) (i : Nat) (h : ∀ j, j < i → (nth become j).length ≤ 8) : (putUpto become code i).length ≤ 8 * i := by
  induction i with
  | zero => simp [putUpto]
  | succ i ih =>
    rw [putUpto_succ]
    have := h i (by omega)
    have := ih fun j hj => h j (by omega)
    simp
    omega

set_option maxRecDepth 100000 in
set_option maxHeartbeats 1000000 in
theorem ints_c (x y : Ls Int) (W : World) (hx : x.At W) (hy : y.At W) :
    Rets Try.prog 41 [x.v, y.v] W (fun v w' => v = .bool (decide (x.l = y.l)) ∧ Sh0 W w' []) := by
 refine x_enter (N := 26) Try.func41 rfl Try.ntmps41 (Nat.le_of_ble_eq_true rfl) fun a1 hf1 => ?_
 have h1 : St 26 (fun _ => False) W a1 W [(0, x.v), (1, y.v)] [.at_ x, .at_ y] := ⟨hf1.sub ⟨rfl, rfl, trivial⟩, Sh0.ext2 hx hy⟩
 clear hf1
 refine wp_seq_k fun K2 hK2 => wp_region_lit <| wms 1 h1 rfl fun a3 h3 => wpList_nil <| hK2 _ _ <| wp_seq_k fun K4 hK4 => wp_seq_k fun K5 hK5 => wp_region_lit <| wms 1 h3 rfl fun a6 h6 => ?_; clear h1 h3
 have hl7 : x.l.length ≤ 140737488355328 := (h6.sh.at 0 rfl).len
 refine wv h6 (r_len (s := x) (n := x.l.length) sl_24 rfl rfl (fun w h => (h.at 0 rfl)) rfl) rfl rfl fun a8 h8 => wms 1 h8 rfl fun a9 h9 => ?_; clear h6 h8
 have hl10 : y.l.length ≤ 140737488355328 := (h9.sh.at 1 rfl).len
 refine wv h9 (r_len (s := y) (n := y.l.length) sl_24 rfl rfl (fun w h => (h.at 1 rfl)) rfl) rfl rfl fun a11 h11 => wv h11 (r_neqN (p := x.l.length) (q := y.l.length) rfl rfl rfl) rfl rfl fun a12 h12 => wpList_nil <| hK5 _ _ <| x_cond h12 rfl (fun hb13 => ?_) (fun hb13 => ?_); clear h9 h11
 ·
  have hp13 : x.l.length ≠ y.l.length := of_decide_eq_true hb13
  refine wp_seq_k fun K14 hK14 => wp_region_lit <| wms 1 h12 rfl fun a15 h15 => wpList_nil <| hK14 _ _ <| wp_ret ?_; clear h12
  try simp only [Exit.then, Exit.inBlock]
  refine x_ret1 (fn := Try.f41) (t := 4) rfl h15 rfl <| ⟨?_, (h15.sh.sel [] (by decide) trivial)⟩
  congr 1
  first | (exact (decide_eq_true (ext_nth _ _ (by omega) fun i hi => hall i (by omega))).symm) | (refine (decide_eq_false fun e => ?_).symm; simp_all)
 have hp13 : ¬ (x.l.length ≠ y.l.length) := of_decide_eq_false hb13
 refine wp_skip <| hK4 _ _ <| wp_seq_k fun K16 hK16 => wp_seq_k fun K17 hK17 => wp_region_lit <| wms 1 h12 rfl fun a18 h18 => wpList_nil <| hK17 _ _ <| wp_block <| x_loop (fun m a w => ∃ (k : Nat), (k ≤ x.l.length) ∧ (∀ j, j < k → nth x.l j = nth y.l j) ∧ St 26 (fun _ => False) W a w [(0, x.v), (1, y.v), (5, .int .i64 ((k : Nat) : Int))] [.at_ x, .at_ y] ∧ m = x.l.length - k) ⟨_, 0, (by omega), (fun j hj => absurd hj (by omega)), h18.nrm ⟨rfl, rfl, rfl, trivial⟩ [0, 1] (by decide) ⟨rfl, rfl, trivial⟩, rfl⟩ ?_; clear h12
 clear h18
 rintro m19 a19 w19 ⟨k, hk, hall, h19, hm19⟩
 refine wp_seq_k fun K20 hK20 => wp_seq_k fun K21 hK21 => wp_region_lit <| wms 2 h19 rfl fun a22 h22 => wv h22 (r_len (s := x) (n := x.l.length) sl_24 rfl rfl (fun w h => (h.at 0 rfl)) rfl) rfl rfl fun a23 h23 => wv h23 (r_lssN (p := k) (q := x.l.length) rfl rfl rfl) rfl rfl fun a24 h24 => wpList_nil <| hK21 _ _ <| x_cond h24 rfl (fun hb25 => ?_) (fun hb25 => ?_); clear h19 h22 h23
 ·
  have hp25 : k < x.l.length := of_decide_eq_true hb25
  refine wp_skip <| hK20 _ _ <| wp_seq_k fun K26 hK26 => wp_block <| wp_seq_k fun K27 hK27 => x_quiet (by kernel_rfl) (by kernel_rfl) h24 fun Z28 hZ28 => ?_
  have hq28 := h24.fr
  refine wq_val hq28 (r_move rfl rfl) (wanted_none rfl _) rfl rfl fun a29 hq29 => wq_val hq29 (r_move rfl rfl) (wanted_none rfl _) rfl rfl fun a30 hq30 => wq_val hq30 (r_ixN (s := x) (q := k) sl_24 ti_3 rfl rfl rfl (fun w h => (h.at 0 rfl)) (show k < x.l.length from (by omega))) (wanted_none rfl _) rfl rfl fun a31 hq31 => wq_val hq31 (r_lde (s := x) (i := k) (v := .int .i64 (nth x.l k)) ti_3 rfl rfl rfl (fun w h => (h.at 0 rfl)) (show k < x.l.length from (by omega)) (Nat.le_of_ble_eq_true rfl) rfl) (wanted_none rfl _) rfl rfl fun a32 hq32 => wq_val hq32 (r_move rfl rfl) (wanted_none rfl _) rfl rfl fun a33 hq33 => wq_val hq33 (r_move rfl rfl) (wanted_none rfl _) rfl rfl fun a34 hq34 => wq_val hq34 (r_ixN (s := y) (q := k) sl_24 ti_3 rfl rfl rfl (fun w h => (h.at 1 rfl)) (show k < y.l.length from (by omega))) (wanted_none rfl _) rfl rfl fun a35 hq35 => wq_val hq35 (r_lde (s := y) (i := k) (v := .int .i64 (nth y.l k)) ti_3 rfl rfl rfl (fun w h => (h.at 1 rfl)) (show k < y.l.length from (by omega)) (Nat.le_of_ble_eq_true rfl) rfl) (wanted_none rfl _) rfl rfl fun a36 hq36 => wq_val hq36 (r_neqI (p := nth x.l k) (q := nth y.l k) rfl rfl rfl) (wanted_none rfl _) rfl rfl fun a37 hq37 => wpQuiet_nil (hZ28 _ fun w38 hw38 => ?_); clear hq28 hq29 hq30 hq31 hq32 hq33 hq34 hq35 hq36
  have h38 : St 26 (fun _ => False) W a37 w38 _ _ := ⟨hq37, hw38⟩
  clear hq37 hw38 h24
  refine hK27 _ _ <| x_cond h38 rfl (fun hb39 => ?_) (fun hb39 => ?_)
  ·
   have hp39 : nth x.l k ≠ nth y.l k := of_decide_eq_true hb39
   refine wp_seq_k fun K40 hK40 => wp_region_lit <| wms 1 h38 rfl fun a41 h41 => wpList_nil <| hK40 _ _ <| wp_ret ?_; clear h38
   try simp only [Exit.then, Exit.inBlock]
   refine x_ret1 (fn := Try.f41) (t := 4) rfl h41 rfl <| ⟨?_, (h41.sh.sel [] (by decide) trivial)⟩
   congr 1
   first | (exact (decide_eq_true (ext_nth _ _ (by omega) fun i hi => hall i (by omega))).symm) | (refine (decide_eq_false fun e => ?_).symm; simp_all)
  have hp39 : ¬ (nth x.l k ≠ nth y.l k) := of_decide_eq_false hb39
  refine wp_skip <| hK26 _ _ <| wp_region_lit <| wms 1 h38 rfl fun a42 h42 => wv h42 (r_addN (p := k) (q := 1) rfl rfl rfl (show k + 1 < 9223372036854775808 from (by omega))) rfl rfl fun a43 h43 => wms 1 h43 rfl fun a44 h44 => wpList_nil <| x_again ⟨_, ?_, k + 1, ?_, ?_, h44.nrm ⟨rfl, rfl, rfl, trivial⟩ [0, 1] (by decide) ⟨rfl, rfl, trivial⟩, rfl⟩; clear h38 h42 h43
  · rw [hm19]; first | omega | (simp only [lens9]; omega)
  · omega
  · intro j hj; rcases Nat.lt_or_ge j k with h | h; exact hall j h; obtain rfl : j = k := (by omega); simp_all
 have hp25 : ¬ (k < x.l.length) := of_decide_eq_false hb25
 refine wp_exit <| hK16 _ _ <| wp_seq_k fun K45 hK45 => wp_region_lit <| wms 1 h24 rfl fun a46 h46 => wpList_nil <| hK45 _ _ <| wp_ret ?_; clear h24
 try simp only [Exit.then, Exit.inBlock]
 refine x_ret1 (fn := Try.f41) (t := 4) rfl h46 rfl <| ⟨?_, (h46.sh.sel [] (by decide) trivial)⟩
 congr 1
 first | (exact (decide_eq_true (ext_nth _ _ (by omega) fun i hi => hall i (by omega))).symm) | (refine (decide_eq_false fun e => ?_).symm; simp_all)

end Go.Proofs.Ytanhbpofhebbaaa
