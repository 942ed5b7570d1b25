/-
  Contracts of functions of this program and of the references, each walked once.
-/
import Derived.Test.YtfpaahkleienoaaX0
import Derived.Test.YtfpaahkleienoaaC1
namespace Go.Proofs.Ytfpaahkleienoaa
open Go.RowKit
set_option linter.unusedSimpArgs false
set_option linter.unusedVariables false


theorem take_succ_nth {α : Type} [Inhabited α] (l : List α) (k : Nat) (h : k < l.length) : l.take (k + 1) = l.take k ++ [nth l k] := by
  rw [List.take_succ_eq_append_getElem h, nth_lt l k h]
theorem ext_nth {α : Type} [Inhabited α] (l m : List α) (hl : l.length = m.length) (h : ∀ i, i < l.length → nth l i = nth m i) : l = m := by
  apply List.ext_getElem hl
  intro i h1 h2
  have := h i h1
  rwa [nth_lt l i h1, nth_lt m i h2] at this

/-- Every jump of a thread leads to a place of it. -/
def JumpsOK (code : List Ins) : Prop := ∀ i, i < code.length → ((nth code i).op = 14 → 0 ≤ (nth code i).a ∧ (nth code i).a ≤ code.length) ∧ ((nth code i).op = 15 → 0 ≤ (nth code i).b ∧ (nth code i).b ≤ code.length)

def placeL (become : List (List Ins)) (i : Nat) : Nat := ((become.take i).map List.length).sum
theorem placeL_succ (become : List (List Ins)) (i : Nat) (h : i < become.length) : placeL become (i + 1) = placeL become i + (nth become i).length := by
  unfold placeL
  rw [take_succ_nth _ _ h]
  simp
def fixIns (become : List (List Ins)) (code : List Ins) (i : Nat) (x : Ins) : Ins :=
  if x.op = 14 ∧ ((nth code i).op = 14 ∨ (nth code i).op = 15) then { x with a := placeL become x.a.toNat }
  else if x.op = 15 ∧ (nth code i).op = 15 then { x with b := placeL become x.b.toNat }
  else if x.op = 15 ∧ (nth code i).op = 17 then { x with b := placeL become i } else x
def putUpto (become : List (List Ins)) (code : List Ins) (i : Nat) : List Ins := (List.range i).flatMap fun i => (nth become i).map (fixIns become code i)
def putL (become : List (List Ins)) (code : List Ins) : List Ins := putUpto become code code.length
theorem putUpto_succ (become : List (List Ins)) (code : List Ins) (i : Nat) : putUpto become code (i + 1) = putUpto become code i ++ (nth become i).map (fixIns become code i) := by
  simp [putUpto, List.range_succ]
theorem ins_ext {x y : Ins} (h1 : x.op = y.op) (h2 : x.a = y.a) (h3 : x.b = y.b) (h4 : x.c = y.c) : x = y := by
  cases x; cases y; simp_all
instance : DecidableEq Pg := fun p q => by
  rcases p with ⟨a, b, c, d⟩; rcases q with ⟨a', b', c', d'⟩
  exact decidable_of_iff (a = a' ∧ b = b' ∧ c = c' ∧ d = d') (by simp)
section
variable {code code2 : Ls (Ls Ins)} {words words2 : Ls Int} {locks regs locks2 regs2 : Int}
theorem pg_words (e : pgOf code words locks regs = pgOf code2 words2 locks2 regs2) : words.l = words2.l := congrArg Pg.words e
theorem pg_locks (e : pgOf code words locks regs = pgOf code2 words2 locks2 regs2) : locks = locks2 := congrArg Pg.locks e
theorem pg_regs (e : pgOf code words locks regs = pgOf code2 words2 locks2 regs2) : regs = regs2 := congrArg Pg.regs e
theorem pg_len (e : pgOf code words locks regs = pgOf code2 words2 locks2 regs2) : code.l.length = code2.l.length := by simpa [pgOf] using congrArg (fun p : Pg => p.code.length) e
theorem pg_code (e : pgOf code words locks regs = pgOf code2 words2 locks2 regs2) (t : Nat) (h : t < code.l.length) : (nth code.l t).l = (nth code2.l t).l := by
  have h1 := congrArg (fun p : Pg => nth p.code t) e
  have h2 := pg_len e
  simp only [pgOf] at h1
  rwa [nth_map' _ _ _ h, nth_map' _ _ _ (by omega)] at h1
theorem pg_eq (h1 : words.l = words2.l) (h2 : locks = locks2) (h3 : regs = regs2) (h4 : code.l.length = code2.l.length) (h5 : ∀ j, j < code.l.length → (nth code.l j).l = (nth code2.l j).l) : pgOf code words locks regs = pgOf code2 words2 locks2 regs2 := by
  unfold pgOf
  rw [h1, h2, h3]
  congr 1
  refine ext_nth _ _ (by simpa using h4) fun i hi => ?_
  have hi' : i < code.l.length := by simpa using hi
  rw [nth_map' _ _ _ hi', nth_map' _ _ _ (by omega)]
  exact h5 i hi'
end
def noneP (p : Pg) : Bool := decide (p.code.length + p.words.length = 0 ∧ p.locks = 0 ∧ p.regs = 0)
def BecomeOK2 (become : List (Ls Ins)) (code : List Ins) : Prop := ∀ i, i < code.length → ∀ k, k < (nth become i).l.length →
  ((nth (nth become i).l k).op ≠ 14 ∨ ((nth code i).op ≠ 14 ∧ (nth code i).op ≠ 15) ∨ (0 ≤ (nth (nth become i).l k).a ∧ (nth (nth become i).l k).a ≤ code.length)) ∧
  ((nth (nth become i).l k).op ≠ 15 ∨ (nth code i).op ≠ 15 ∨ (0 ≤ (nth (nth become i).l k).b ∧ (nth (nth become i).l k).b ≤ code.length))
set_option maxRecDepth 100000 in
set_option maxHeartbeats 1000000 in
theorem ints_c (x y : Ls Int) (W : World) (hx : x.At W) (hy : y.At W) :
    Rets Try.prog 62 [x.v, y.v] W (fun v w' => v = .bool (decide (x.l = y.l)) ∧ Sh0 W w' []) := by
 refine x_enter (N := 26) Try.func62 rfl Try.ntmps62 (Nat.le_of_ble_eq_true rfl) fun a1 hf1 => ?_
 have h1 : St 26 (fun _ => False) W a1 W [(0, x.v), (1, y.v)] [.at_ x, .at_ y] := ⟨hf1.sub ⟨rfl, rfl, trivial⟩, Sh0.ext2 hx hy⟩
 clear hf1
 refine wp_seq_k fun K2 hK2 => wp_region_lit <| wms 1 h1 rfl fun a3 h3 => wpList_nil <| hK2 _ _ <| wp_seq_k fun K4 hK4 => wp_seq_k fun K5 hK5 => wp_region_lit <| wms 1 h3 rfl fun a6 h6 => ?_; clear h1 h3
 have hl7 : x.l.length ≤ 140737488355328 := (h6.sh.at 0 rfl).len
 refine wv h6 (r_len (s := x) (n := x.l.length) sl_23 rfl rfl (fun w h => (h.at 0 rfl)) rfl) rfl rfl fun a8 h8 => wms 1 h8 rfl fun a9 h9 => ?_; clear h6 h8
 have hl10 : y.l.length ≤ 140737488355328 := (h9.sh.at 1 rfl).len
 refine wv h9 (r_len (s := y) (n := y.l.length) sl_23 rfl rfl (fun w h => (h.at 1 rfl)) rfl) rfl rfl fun a11 h11 => wv h11 (r_neqN (p := x.l.length) (q := y.l.length) rfl rfl rfl) rfl rfl fun a12 h12 => wpList_nil <| hK5 _ _ <| x_cond h12 rfl (fun hb13 => ?_) (fun hb13 => ?_); clear h9 h11
 ·have hp13 : x.l.length ≠ y.l.length := of_decide_eq_true hb13
  refine wp_seq_k fun K14 hK14 => wp_region_lit <| wms 1 h12 rfl fun a15 h15 => wpList_nil <| hK14 _ _ <| wp_ret ?_; clear h12
  try simp only [Exit.then, Exit.inBlock]
  refine x_ret1 (fn := Try.f62) (t := 4) rfl h15 rfl <| ⟨?_, (h15.sh.sel [] (by decide) trivial)⟩
  congr 1
  first | (exact (decide_eq_true (ext_nth _ _ (by omega) fun i hi => hall i (by omega))).symm) | (refine (decide_eq_false fun e => ?_).symm; simp_all)
 have hp13 : ¬ (x.l.length ≠ y.l.length) := of_decide_eq_false hb13
 refine wp_skip <| hK4 _ _ <| wp_seq_k fun K16 hK16 => wp_seq_k fun K17 hK17 => wp_region_lit <| wms 1 h12 rfl fun a18 h18 => wpList_nil <| hK17 _ _ <| wp_block <| x_loop (fun m a w => ∃ (k : Nat), (k ≤ x.l.length) ∧ (∀ j, j < k → nth x.l j = nth y.l j) ∧ St 26 (fun _ => False) W a w [(0, x.v), (1, y.v), (5, .int .i64 ((k : Nat) : Int))] [.at_ x, .at_ y] ∧ m = x.l.length - k) ⟨_, 0, (by omega), (fun j hj => absurd hj (by omega)), h18.nrm ⟨rfl, rfl, rfl, trivial⟩ [0, 1] (by decide) ⟨rfl, rfl, trivial⟩, rfl⟩ ?_; clear h12
 clear h18
 rintro m19 a19 w19 ⟨k, hk, hall, h19, hm19⟩
 refine wp_seq_k fun K20 hK20 => wp_seq_k fun K21 hK21 => wp_region_lit <| wms 2 h19 rfl fun a22 h22 => wv h22 (r_len (s := x) (n := x.l.length) sl_23 rfl rfl (fun w h => (h.at 0 rfl)) rfl) rfl rfl fun a23 h23 => wv h23 (r_lssN (p := k) (q := x.l.length) rfl rfl rfl) rfl rfl fun a24 h24 => wpList_nil <| hK21 _ _ <| x_cond h24 rfl (fun hb25 => ?_) (fun hb25 => ?_); clear h19 h22 h23
 ·have hp25 : k < x.l.length := of_decide_eq_true hb25
  refine wp_skip <| hK20 _ _ <| wp_seq_k fun K26 hK26 => wp_block <| wp_seq_k fun K27 hK27 => x_quiet (by kernel_rfl) (by kernel_rfl) h24 fun Z28 hZ28 => ?_
  have hq28 := h24.fr
  refine wq_val hq28 (r_move rfl rfl) (wanted_none rfl _) rfl rfl fun a29 hq29 => wq_val hq29 (r_move rfl rfl) (wanted_none rfl _) rfl rfl fun a30 hq30 => wq_val hq30 (r_ixN (s := x) (q := k) sl_23 ti_3 rfl rfl rfl (fun w h => (h.at 0 rfl)) (show k < x.l.length from (by omega))) (wanted_none rfl _) rfl rfl fun a31 hq31 => wq_val hq31 (r_lde (s := x) (i := k) (v := .int .i64 (nth x.l k)) ti_3 rfl rfl rfl (fun w h => (h.at 0 rfl)) (show k < x.l.length from (by omega)) (Nat.le_of_ble_eq_true rfl) rfl) (wanted_none rfl _) rfl rfl fun a32 hq32 => wq_val hq32 (r_move rfl rfl) (wanted_none rfl _) rfl rfl fun a33 hq33 => wq_val hq33 (r_move rfl rfl) (wanted_none rfl _) rfl rfl fun a34 hq34 => wq_val hq34 (r_ixN (s := y) (q := k) sl_23 ti_3 rfl rfl rfl (fun w h => (h.at 1 rfl)) (show k < y.l.length from (by omega))) (wanted_none rfl _) rfl rfl fun a35 hq35 => wq_val hq35 (r_lde (s := y) (i := k) (v := .int .i64 (nth y.l k)) ti_3 rfl rfl rfl (fun w h => (h.at 1 rfl)) (show k < y.l.length from (by omega)) (Nat.le_of_ble_eq_true rfl) rfl) (wanted_none rfl _) rfl rfl fun a36 hq36 => wq_val hq36 (r_neqI (p := nth x.l k) (q := nth y.l k) rfl rfl rfl) (wanted_none rfl _) rfl rfl fun a37 hq37 => wpQuiet_nil (hZ28 _ fun w38 hw38 => ?_); clear hq28 hq29 hq30 hq31 hq32 hq33 hq34 hq35 hq36
  have h38 : St 26 (fun _ => False) W a37 w38 _ _ := ⟨hq37, hw38⟩
  clear hq37 hw38 h24
  refine hK27 _ _ <| x_cond h38 rfl (fun hb39 => ?_) (fun hb39 => ?_)
  ·have hp39 : nth x.l k ≠ nth y.l k := of_decide_eq_true hb39
   refine wp_seq_k fun K40 hK40 => wp_region_lit <| wms 1 h38 rfl fun a41 h41 => wpList_nil <| hK40 _ _ <| wp_ret ?_; clear h38
   try simp only [Exit.then, Exit.inBlock]
   refine x_ret1 (fn := Try.f62) (t := 4) rfl h41 rfl <| ⟨?_, (h41.sh.sel [] (by decide) trivial)⟩
   congr 1
   first | (exact (decide_eq_true (ext_nth _ _ (by omega) fun i hi => hall i (by omega))).symm) | (refine (decide_eq_false fun e => ?_).symm; simp_all)
  have hp39 : ¬ (nth x.l k ≠ nth y.l k) := of_decide_eq_false hb39
  refine wp_skip <| hK26 _ _ <| wp_region_lit <| wms 1 h38 rfl fun a42 h42 => wv h42 (r_addN (p := k) (q := 1) rfl rfl rfl (show k + 1 < 9223372036854775808 from (by omega))) rfl rfl fun a43 h43 => wms 1 h43 rfl fun a44 h44 => wpList_nil <| x_again ⟨_, ?_, k + 1, ?_, ?_, h44.nrm ⟨rfl, rfl, rfl, trivial⟩ [0, 1] (by decide) ⟨rfl, rfl, trivial⟩, rfl⟩; clear h38 h42 h43
  · rw [hm19]; first | omega | (simp only [lens9]; omega)
  · omega
  · intro j hj; rcases Nat.lt_or_ge j k with h | h; exact hall j h; obtain rfl : j = k := (by omega); simp_all
 have hp25 : ¬ (k < x.l.length) := of_decide_eq_false hb25
 refine wp_exit <| hK16 _ _ <| wp_seq_k fun K45 hK45 => wp_region_lit <| wms 1 h24 rfl fun a46 h46 => wpList_nil <| hK45 _ _ <| wp_ret ?_; clear h24
 try simp only [Exit.then, Exit.inBlock]
 refine x_ret1 (fn := Try.f62) (t := 4) rfl h46 rfl <| ⟨?_, (h46.sh.sel [] (by decide) trivial)⟩
 congr 1
 first | (exact (decide_eq_true (ext_nth _ _ (by omega) fun i hi => hall i (by omega))).symm) | (refine (decide_eq_false fun e => ?_).symm; simp_all)

set_option maxRecDepth 100000 in
set_option maxHeartbeats 2000000 in
theorem same_c (code : Ls (Ls Ins)) (words : Ls Int) (locks regs : Int) (code2 : Ls (Ls Ins)) (words2 : Ls Int) (locks2 regs2 : Int) (W : World) (hc : code.At W) (hw : words.At W) (hc2 : code2.At W) (hw2 : words2.At W) :
    Rets Try.prog 24 [.agg #[code.v, words.v, .int .i64 locks, .int .i64 regs], .agg #[code2.v, words2.v, .int .i64 locks2, .int .i64 regs2]] W (fun v w' => v = .bool (decide (pgOf code words locks regs = pgOf code2 words2 locks2 regs2)) ∧ Sh0 W w' []) := by
 refine x_enter (N := 112) Try.func24 rfl Try.ntmps24 (Nat.le_of_ble_eq_true rfl) fun a1 hf1 => ?_
 have h1 : St 112 (fun _ => False) W a1 W [(0, .agg #[code.v, words.v, .int .i64 locks, .int .i64 regs]), (1, .agg #[code2.v, words2.v, .int .i64 locks2, .int .i64 regs2])] [.at_ code, .at_ words, .at_ code2, .at_ words2] := ⟨hf1.sub ⟨rfl, rfl, trivial⟩, Sh0.ext4 hc hw hc2 hw2⟩
 clear hf1
 refine wp_seq_k fun K2 hK2 => wp_region_lit <| wl_ex (x_box (cs := [code.v, words.v, .int .i64 locks, .int .i64 regs]) h1 rfl rfl rfl rfl rfl) (wanted_none rfl _) ?_
 rintro a3 w3 ⟨b3, h3⟩; clear h1
 refine wl_ex (x_box (cs := [code2.v, words2.v, .int .i64 locks2, .int .i64 regs2]) h3 rfl rfl rfl rfl rfl) (wanted_none rfl _) ?_
 rintro a4 w4 ⟨b4, h4⟩; clear h3
 refine wms 1 h4 rfl fun a5 h5 => wpList_nil <| hK2 _ _ <| wp_seq_k fun K6 hK6 => wp_region_lit <| wv h5 (r_fieldB (r := 1) fl_25_1 rfl rfl rfl) rfl rfl fun a7 h7 => wv h7 (r_ldb (i := 1) ti_23 rfl rfl rfl rfl) rfl rfl fun a8 h8 => wv h8 (r_fieldB (r := 1) fl_25_1 rfl rfl rfl) rfl rfl fun a9 h9 => wv h9 (r_ldb (i := 0) ti_23 rfl rfl rfl rfl) rfl rfl fun a10 h10 => wl_ex (x_call h10 bd_62 rfl rfl rfl rfl rfl (ints_c words words2 _ (h10.sh.at 3 rfl) (h10.sh.at 5 rfl))) (wanted_none rfl _) ?_; clear h4 h5 h7 h8 h9
 rintro a11 w11 ⟨_, ⟨rfl, hs11⟩, hf11⟩
 have h11 : St 112 (fun _ => False) W a11 w11 _ _ := ⟨hf11, h10.sh.call0 hs11⟩
 clear hf11 hs11
 clear h10
 refine wms 1 h11 rfl fun a12 h12 => wpList_nil <| hK6 _ _ <| wp_seq_k fun K13 hK13 => wp_seq_k fun K14 hK14 => wp_region_lit <| wms 1 h12 rfl fun a15 h15 => wv h15 (r_not rfl rfl) rfl rfl fun a16 h16 => wms 1 h16 rfl fun a17 h17 => ?_; clear h11 h12 h15 h16
 rcases Bool.eq_false_or_eq_true (!(decide (words.l = words2.l))) with hb18 | hb18
 ·have hp18 : ¬ (words.l = words2.l) := by simpa using hb18
  refine wl_skip h17 (wanted_no h17.fr rfl rfl rfl rfl hb18) rfl rfl fun a19 h19 => wl_skip h19 (wanted_no h19.fr rfl rfl rfl rfl hb18) rfl rfl fun a20 h20 => wl_skip h20 (wanted_no h20.fr rfl rfl rfl rfl hb18) rfl rfl fun a21 h21 => wl_skip h21 (wanted_no h21.fr rfl rfl rfl rfl hb18) rfl rfl fun a22 h22 => wl_skip h22 (wanted_no h22.fr rfl rfl rfl rfl hb18) rfl rfl fun a23 h23 => wv h23 (r_pickT rfl rfl hb18 rfl) rfl rfl fun a24 h24 => wms 1 h24 rfl fun a25 h25 => wl_skip h25 (wanted_no h25.fr rfl rfl rfl rfl rfl) rfl rfl fun a26 h26 => wl_skip h26 (wanted_no h26.fr rfl rfl rfl rfl rfl) rfl rfl fun a27 h27 => wl_skip h27 (wanted_no h27.fr rfl rfl rfl rfl rfl) rfl rfl fun a28 h28 => wl_skip h28 (wanted_no h28.fr rfl rfl rfl rfl rfl) rfl rfl fun a29 h29 => wl_skip h29 (wanted_no h29.fr rfl rfl rfl rfl rfl) rfl rfl fun a30 h30 => wv h30 (r_pickT rfl rfl rfl rfl) rfl rfl fun a31 h31 => wms 1 h31 rfl fun a32 h32 => ?_; clear h17 h19 h20 h21 h22 h23 h24 h25 h26 h27 h28 h29 h30 h31
  refine wl_skip h32 (wanted_no h32.fr rfl rfl rfl rfl rfl) rfl rfl fun a33 h33 => wl_skip h33 (wanted_no h33.fr rfl rfl rfl rfl rfl) rfl rfl fun a34 h34 => wl_skip h34 (wanted_no h34.fr rfl rfl rfl rfl rfl) rfl rfl fun a35 h35 => wl_skip h35 (wanted_no h35.fr rfl rfl rfl rfl rfl) rfl rfl fun a36 h36 => wl_skip h36 (wanted_no h36.fr rfl rfl rfl rfl rfl) rfl rfl fun a37 h37 => wl_skip h37 (wanted_no h37.fr rfl rfl rfl rfl rfl) rfl rfl fun a38 h38 => wl_skip h38 (wanted_no h38.fr rfl rfl rfl rfl rfl) rfl rfl fun a39 h39 => wv h39 (r_pickT rfl rfl rfl rfl) rfl rfl fun a40 h40 => wpList_nil <| hK14 _ _ ?_; clear h32 h33 h34 h35 h36 h37 h38 h39
  have h41 : St 112 (fun _ => False) W a40 w11 [(2, .pointer (some ⟨b3, 0, none⟩)), (3, .pointer (some ⟨b4, 0, none⟩)), (39, .bool true)] [.blk b4 25 [code2.v, words2.v, .int .i64 locks2, .int .i64 regs2], .blk b3 25 [code.v, words.v, .int .i64 locks, .int .i64 regs], .at_ code, .at_ words, .at_ code2, .at_ words2] := h40.nrm ⟨rfl, rfl, rfl, trivial⟩ [0, 1, 2, 3, 4, 5] (by decide) ⟨rfl, rfl, rfl, rfl, rfl, rfl, trivial⟩
  clear h40
  refine x_condT h41 rfl rfl <| wp_seq_k fun K42 hK42 => wp_region_lit <| wms 1 h41 rfl fun a43 h43 => wpList_nil <| hK42 _ _ <| wp_ret ?_; clear h41
  try simp only [Exit.then, Exit.inBlock]
  refine x_ret1 (fn := Try.f24) (t := 4) rfl h43 rfl <| ⟨?_, (h43.sh.sel [] (by decide) trivial)⟩
  congr 1
  first | (refine (decide_eq_true (pg_eq (by assumption) (by omega) (by omega) (by omega) fun j hj => hall j (by omega))).symm; done) | (refine (decide_eq_false fun e => ?_).symm; have e1 := pg_words e; have e2 := pg_locks e; have e3 := pg_regs e; have e4 := pg_len e; first | exact absurd e1 (by assumption) | omega | (have e5 := pg_code e t (by omega); have e6 := congrArg List.length e5; omega) | (have e7 : nth (nth code.l t).l i = nth (nth code2.l t).l i := (by rw [pg_code e t (by omega)]); have e8 := congrArg Ins.op e7; have e9 := congrArg Ins.a e7; have e10 := congrArg Ins.b e7; have e11 := congrArg Ins.c e7; omega))
 have hp18 : words.l = words2.l := by simpa using hb18
 refine wl_val h17 (r_fieldB (r := 2) fl_25_2 rfl rfl rfl) (wanted_yes h17.fr rfl rfl rfl rfl hb18) rfl rfl fun a44 h44 => wl_val h44 (r_ldb (i := 1) ti_3 rfl rfl rfl rfl) (wanted_yes h44.fr rfl rfl rfl rfl hb18) rfl rfl fun a45 h45 => wl_val h45 (r_fieldB (r := 2) fl_25_2 rfl rfl rfl) (wanted_yes h45.fr rfl rfl rfl rfl hb18) rfl rfl fun a46 h46 => wl_val h46 (r_ldb (i := 0) ti_3 rfl rfl rfl rfl) (wanted_yes h46.fr rfl rfl rfl rfl hb18) rfl rfl fun a47 h47 => wl_val h47 (r_neqI (p := locks) (q := locks2) rfl rfl rfl) (wanted_yes h47.fr rfl rfl rfl rfl hb18) rfl rfl fun a48 h48 => wv h48 (r_pickF rfl rfl hb18 rfl) rfl rfl fun a49 h49 => wms 1 h49 rfl fun a50 h50 => ?_; clear h17 h44 h45 h46 h47 h48 h49
 rcases Bool.eq_false_or_eq_true (decide (locks ≠ locks2)) with hb51 | hb51
 ·have hp51 : locks ≠ locks2 := of_decide_eq_true hb51
  refine wl_skip h50 (wanted_no h50.fr rfl rfl rfl rfl hb51) rfl rfl fun a52 h52 => wl_skip h52 (wanted_no h52.fr rfl rfl rfl rfl hb51) rfl rfl fun a53 h53 => wl_skip h53 (wanted_no h53.fr rfl rfl rfl rfl hb51) rfl rfl fun a54 h54 => wl_skip h54 (wanted_no h54.fr rfl rfl rfl rfl hb51) rfl rfl fun a55 h55 => wl_skip h55 (wanted_no h55.fr rfl rfl rfl rfl hb51) rfl rfl fun a56 h56 => wv h56 (r_pickT rfl rfl hb51 rfl) rfl rfl fun a57 h57 => wms 1 h57 rfl fun a58 h58 => wl_skip h58 (wanted_no h58.fr rfl rfl rfl rfl rfl) rfl rfl fun a59 h59 => wl_skip h59 (wanted_no h59.fr rfl rfl rfl rfl rfl) rfl rfl fun a60 h60 => wl_skip h60 (wanted_no h60.fr rfl rfl rfl rfl rfl) rfl rfl fun a61 h61 => wl_skip h61 (wanted_no h61.fr rfl rfl rfl rfl rfl) rfl rfl fun a62 h62 => wl_skip h62 (wanted_no h62.fr rfl rfl rfl rfl rfl) rfl rfl fun a63 h63 => wl_skip h63 (wanted_no h63.fr rfl rfl rfl rfl rfl) rfl rfl fun a64 h64 => wl_skip h64 (wanted_no h64.fr rfl rfl rfl rfl rfl) rfl rfl fun a65 h65 => ?_; clear h50 h52 h53 h54 h55 h56 h57 h58 h59 h60 h61 h62 h63 h64
  refine wv h65 (r_pickT rfl rfl rfl rfl) rfl rfl fun a66 h66 => wpList_nil <| hK14 _ _ ?_; clear h65
  have h67 : St 112 (fun _ => False) W a66 w11 [(2, .pointer (some ⟨b3, 0, none⟩)), (3, .pointer (some ⟨b4, 0, none⟩)), (39, .bool true)] [.blk b4 25 [code2.v, words2.v, .int .i64 locks2, .int .i64 regs2], .blk b3 25 [code.v, words.v, .int .i64 locks, .int .i64 regs], .at_ code, .at_ words, .at_ code2, .at_ words2] := h66.nrm ⟨rfl, rfl, rfl, trivial⟩ [0, 1, 2, 3, 4, 5] (by decide) ⟨rfl, rfl, rfl, rfl, rfl, rfl, trivial⟩
  clear h66
  refine x_condT h67 rfl rfl <| wp_seq_k fun K68 hK68 => wp_region_lit <| wms 1 h67 rfl fun a69 h69 => wpList_nil <| hK68 _ _ <| wp_ret ?_; clear h67
  try simp only [Exit.then, Exit.inBlock]
  refine x_ret1 (fn := Try.f24) (t := 4) rfl h69 rfl <| ⟨?_, (h69.sh.sel [] (by decide) trivial)⟩
  congr 1
  first | (refine (decide_eq_true (pg_eq (by assumption) (by omega) (by omega) (by omega) fun j hj => hall j (by omega))).symm; done) | (refine (decide_eq_false fun e => ?_).symm; have e1 := pg_words e; have e2 := pg_locks e; have e3 := pg_regs e; have e4 := pg_len e; first | exact absurd e1 (by assumption) | omega | (have e5 := pg_code e t (by omega); have e6 := congrArg List.length e5; omega) | (have e7 : nth (nth code.l t).l i = nth (nth code2.l t).l i := (by rw [pg_code e t (by omega)]); have e8 := congrArg Ins.op e7; have e9 := congrArg Ins.a e7; have e10 := congrArg Ins.b e7; have e11 := congrArg Ins.c e7; omega))
 have hp51 : ¬ (locks ≠ locks2) := of_decide_eq_false hb51
 refine wl_val h50 (r_fieldB (r := 3) fl_25_3 rfl rfl rfl) (wanted_yes h50.fr rfl rfl rfl rfl hb51) rfl rfl fun a70 h70 => wl_val h70 (r_ldb (i := 1) ti_3 rfl rfl rfl rfl) (wanted_yes h70.fr rfl rfl rfl rfl hb51) rfl rfl fun a71 h71 => wl_val h71 (r_fieldB (r := 3) fl_25_3 rfl rfl rfl) (wanted_yes h71.fr rfl rfl rfl rfl hb51) rfl rfl fun a72 h72 => wl_val h72 (r_ldb (i := 0) ti_3 rfl rfl rfl rfl) (wanted_yes h72.fr rfl rfl rfl rfl hb51) rfl rfl fun a73 h73 => wl_val h73 (r_neqI (p := regs) (q := regs2) rfl rfl rfl) (wanted_yes h73.fr rfl rfl rfl rfl hb51) rfl rfl fun a74 h74 => wv h74 (r_pickF rfl rfl hb51 rfl) rfl rfl fun a75 h75 => wms 1 h75 rfl fun a76 h76 => ?_; clear h50 h70 h71 h72 h73 h74 h75
 rcases Bool.eq_false_or_eq_true (decide (regs ≠ regs2)) with hb77 | hb77
 ·have hp77 : regs ≠ regs2 := of_decide_eq_true hb77
  refine wl_skip h76 (wanted_no h76.fr rfl rfl rfl rfl hb77) rfl rfl fun a78 h78 => wl_skip h78 (wanted_no h78.fr rfl rfl rfl rfl hb77) rfl rfl fun a79 h79 => wl_skip h79 (wanted_no h79.fr rfl rfl rfl rfl hb77) rfl rfl fun a80 h80 => wl_skip h80 (wanted_no h80.fr rfl rfl rfl rfl hb77) rfl rfl fun a81 h81 => wl_skip h81 (wanted_no h81.fr rfl rfl rfl rfl hb77) rfl rfl fun a82 h82 => wl_skip h82 (wanted_no h82.fr rfl rfl rfl rfl hb77) rfl rfl fun a83 h83 => wl_skip h83 (wanted_no h83.fr rfl rfl rfl rfl hb77) rfl rfl fun a84 h84 => wv h84 (r_pickT rfl rfl hb77 rfl) rfl rfl fun a85 h85 => wpList_nil <| hK14 _ _ ?_; clear h76 h78 h79 h80 h81 h82 h83 h84
  have h86 : St 112 (fun _ => False) W a85 w11 [(2, .pointer (some ⟨b3, 0, none⟩)), (3, .pointer (some ⟨b4, 0, none⟩)), (39, .bool true)] [.blk b4 25 [code2.v, words2.v, .int .i64 locks2, .int .i64 regs2], .blk b3 25 [code.v, words.v, .int .i64 locks, .int .i64 regs], .at_ code, .at_ words, .at_ code2, .at_ words2] := h85.nrm ⟨rfl, rfl, rfl, trivial⟩ [0, 1, 2, 3, 4, 5] (by decide) ⟨rfl, rfl, rfl, rfl, rfl, rfl, trivial⟩
  clear h85
  refine x_condT h86 rfl rfl <| wp_seq_k fun K87 hK87 => wp_region_lit <| wms 1 h86 rfl fun a88 h88 => wpList_nil <| hK87 _ _ <| wp_ret ?_; clear h86
  try simp only [Exit.then, Exit.inBlock]
  refine x_ret1 (fn := Try.f24) (t := 4) rfl h88 rfl <| ⟨?_, (h88.sh.sel [] (by decide) trivial)⟩
  congr 1
  first | (refine (decide_eq_true (pg_eq (by assumption) (by omega) (by omega) (by omega) fun j hj => hall j (by omega))).symm; done) | (refine (decide_eq_false fun e => ?_).symm; have e1 := pg_words e; have e2 := pg_locks e; have e3 := pg_regs e; have e4 := pg_len e; first | exact absurd e1 (by assumption) | omega | (have e5 := pg_code e t (by omega); have e6 := congrArg List.length e5; omega) | (have e7 : nth (nth code.l t).l i = nth (nth code2.l t).l i := (by rw [pg_code e t (by omega)]); have e8 := congrArg Ins.op e7; have e9 := congrArg Ins.a e7; have e10 := congrArg Ins.b e7; have e11 := congrArg Ins.c e7; omega))
 have hp77 : ¬ (regs ≠ regs2) := of_decide_eq_false hb77
 refine wl_val h76 (r_fieldB (r := 0) fl_25_0 rfl rfl rfl) (wanted_yes h76.fr rfl rfl rfl rfl hb77) rfl rfl fun a89 h89 => wl_val h89 (r_ldb (i := 1) ti_22 rfl rfl rfl rfl) (wanted_yes h89.fr rfl rfl rfl rfl hb77) rfl rfl fun a90 h90 => ?_; clear h76 h89
 have hl91 : code.l.length ≤ 140737488355328 := (h90.sh.at 2 rfl).len
 refine wl_val h90 (r_len (s := code) (n := code.l.length) sl_22 rfl rfl (fun w h => (h.at 2 rfl)) rfl) (wanted_yes h90.fr rfl rfl rfl rfl hb77) rfl rfl fun a92 h92 => wl_val h92 (r_fieldB (r := 0) fl_25_0 rfl rfl rfl) (wanted_yes h92.fr rfl rfl rfl rfl hb77) rfl rfl fun a93 h93 => wl_val h93 (r_ldb (i := 0) ti_22 rfl rfl rfl rfl) (wanted_yes h93.fr rfl rfl rfl rfl hb77) rfl rfl fun a94 h94 => ?_; clear h90 h92 h93
 have hl95 : code2.l.length ≤ 140737488355328 := (h94.sh.at 4 rfl).len
 refine wl_val h94 (r_len (s := code2) (n := code2.l.length) sl_22 rfl rfl (fun w h => (h.at 4 rfl)) rfl) (wanted_yes h94.fr rfl rfl rfl rfl hb77) rfl rfl fun a96 h96 => wl_val h96 (r_neqN (p := code.l.length) (q := code2.l.length) rfl rfl rfl) (wanted_yes h96.fr rfl rfl rfl rfl hb77) rfl rfl fun a97 h97 => wv h97 (r_pickF rfl rfl hb77 rfl) rfl rfl fun a98 h98 => wpList_nil <| hK14 _ _ ?_; clear h94 h96 h97
 have h99 : St 112 (fun _ => False) W a98 w11 [(2, .pointer (some ⟨b3, 0, none⟩)), (3, .pointer (some ⟨b4, 0, none⟩)), (39, .bool (decide (code.l.length ≠ code2.l.length)))] [.blk b4 25 [code2.v, words2.v, .int .i64 locks2, .int .i64 regs2], .blk b3 25 [code.v, words.v, .int .i64 locks, .int .i64 regs], .at_ code, .at_ words, .at_ code2, .at_ words2] := h98.nrm ⟨rfl, rfl, rfl, trivial⟩ [0, 1, 2, 3, 4, 5] (by decide) ⟨rfl, rfl, rfl, rfl, rfl, rfl, trivial⟩
 clear h98
 refine x_cond h99 rfl (fun hb100 => ?_) (fun hb100 => ?_)
 ·have hp100 : code.l.length ≠ code2.l.length := of_decide_eq_true hb100
  refine wp_seq_k fun K101 hK101 => wp_region_lit <| wms 1 h99 rfl fun a102 h102 => wpList_nil <| hK101 _ _ <| wp_ret ?_; clear h99
  try simp only [Exit.then, Exit.inBlock]
  refine x_ret1 (fn := Try.f24) (t := 4) rfl h102 rfl <| ⟨?_, (h102.sh.sel [] (by decide) trivial)⟩
  congr 1
  first | (refine (decide_eq_true (pg_eq (by assumption) (by omega) (by omega) (by omega) fun j hj => hall j (by omega))).symm; done) | (refine (decide_eq_false fun e => ?_).symm; have e1 := pg_words e; have e2 := pg_locks e; have e3 := pg_regs e; have e4 := pg_len e; first | exact absurd e1 (by assumption) | omega | (have e5 := pg_code e t (by omega); have e6 := congrArg List.length e5; omega) | (have e7 : nth (nth code.l t).l i = nth (nth code2.l t).l i := (by rw [pg_code e t (by omega)]); have e8 := congrArg Ins.op e7; have e9 := congrArg Ins.a e7; have e10 := congrArg Ins.b e7; have e11 := congrArg Ins.c e7; omega))
 have hp100 : ¬ (code.l.length ≠ code2.l.length) := of_decide_eq_false hb100
 refine wp_skip <| hK13 _ _ <| wp_seq_k fun K103 hK103 => wp_seq_k fun K104 hK104 => wp_region_lit <| wms 1 h99 rfl fun a105 h105 => wpList_nil <| hK104 _ _ <| wp_block <| x_loop (fun m a w => ∃ (t : Nat), (t ≤ code.l.length) ∧ (∀ j, j < t → (nth code.l j).l = (nth code2.l j).l) ∧ St 112 (fun _ => False) W a w [(2, .pointer (some ⟨b3, 0, none⟩)), (3, .pointer (some ⟨b4, 0, none⟩)), (6, .int .i64 ((t : Nat) : Int))] [.blk b4 25 [code2.v, words2.v, .int .i64 locks2, .int .i64 regs2], .blk b3 25 [code.v, words.v, .int .i64 locks, .int .i64 regs], .at_ code, .at_ words, .at_ code2, .at_ words2] ∧ m = code.l.length - t) ⟨_, 0, (by omega), (fun j hj => absurd hj (by omega)), h105.nrm ⟨rfl, rfl, rfl, trivial⟩ [0, 1, 2, 3, 4, 5] (by decide) ⟨rfl, rfl, rfl, rfl, rfl, rfl, trivial⟩, rfl⟩ ?_; clear h99
 clear h105
 rintro m106 a106 w106 ⟨t, ht, hall, h106, hm106⟩
 refine wp_seq_k fun K107 hK107 => wp_seq_k fun K108 hK108 => wp_region_lit <| wms 1 h106 rfl fun a109 h109 => wv h109 (r_fieldB (r := 0) fl_25_0 rfl rfl rfl) rfl rfl fun a110 h110 => wv h110 (r_ldb (i := 1) ti_22 rfl rfl rfl rfl) rfl rfl fun a111 h111 => wv h111 (r_len (s := code) (n := code.l.length) sl_22 rfl rfl (fun w h => (h.at 2 rfl)) rfl) rfl rfl fun a112 h112 => wv h112 (r_lssN (p := t) (q := code.l.length) rfl rfl rfl) rfl rfl fun a113 h113 => wpList_nil <| hK108 _ _ <| x_cond h113 rfl (fun hb114 => ?_) (fun hb114 => ?_); clear h106 h109 h110 h111 h112
 ·have hp114 : t < code.l.length := of_decide_eq_true hb114
  refine wp_skip <| hK107 _ _ <| wp_seq_k fun K115 hK115 => wp_block <| wp_seq_k fun K116 hK116 => wp_seq_k fun K117 hK117 => x_quiet (by kernel_rfl) (by kernel_rfl) h113 fun Z118 hZ118 => ?_
  have hq118 := h113.fr
  refine wq_val hq118 (r_fieldB (r := 0) fl_25_0 rfl rfl rfl) (wanted_none rfl _) rfl rfl fun a119 hq119 => wq_val hq119 (r_ldb (i := 1) ti_22 rfl rfl rfl rfl) (wanted_none rfl _) rfl rfl fun a120 hq120 => wq_val hq120 (r_move rfl rfl) (wanted_none rfl _) rfl rfl fun a121 hq121 => wq_val hq121 (r_ixN (s := code) (q := t) sl_22 ti_33 rfl rfl rfl (fun w h => (h.at 2 rfl)) (show t < code.l.length from (by omega))) (wanted_none rfl _) rfl rfl fun a122 hq122 => wq_val hq122 (r_lde (s := code) (i := t) (v := (nth code.l t).v) ti_33 rfl rfl rfl (fun w h => (h.at 2 rfl)) (show t < code.l.length from (by omega)) (Nat.le_of_ble_eq_true rfl) rfl) (wanted_none rfl _) rfl rfl fun a123 hq123 => ?_; clear hq118 hq119 hq120 hq121 hq122
  have hl124 : ((nth code.l t).l).length ≤ 140737488355328 := ((h113.sh.at 2 rfl).nth t (show t < code.l.length from (by omega))).len
  refine wq_val hq123 (r_len (s := nth code.l t) (n := ((nth code.l t).l).length) sl_33 rfl rfl (fun w h => ((h.at 2 rfl).nth t (show t < code.l.length from (by omega)))) rfl) (wanted_none rfl _) rfl rfl fun a125 hq125 => wq_val hq125 (r_fieldB (r := 0) fl_25_0 rfl rfl rfl) (wanted_none rfl _) rfl rfl fun a126 hq126 => wq_val hq126 (r_ldb (i := 0) ti_22 rfl rfl rfl rfl) (wanted_none rfl _) rfl rfl fun a127 hq127 => wq_val hq127 (r_move rfl rfl) (wanted_none rfl _) rfl rfl fun a128 hq128 => wq_val hq128 (r_ixN (s := code2) (q := t) sl_22 ti_33 rfl rfl rfl (fun w h => (h.at 4 rfl)) (show t < code2.l.length from (by omega))) (wanted_none rfl _) rfl rfl fun a129 hq129 => wq_val hq129 (r_lde (s := code2) (i := t) (v := (nth code2.l t).v) ti_33 rfl rfl rfl (fun w h => (h.at 4 rfl)) (show t < code2.l.length from (by omega)) (Nat.le_of_ble_eq_true rfl) rfl) (wanted_none rfl _) rfl rfl fun a130 hq130 => ?_; clear hq123 hq125 hq126 hq127 hq128 hq129
  have hl131 : ((nth code2.l t).l).length ≤ 140737488355328 := ((h113.sh.at 4 rfl).nth t (show t < code2.l.length from (by omega))).len
  refine wq_val hq130 (r_len (s := nth code2.l t) (n := ((nth code2.l t).l).length) sl_33 rfl rfl (fun w h => ((h.at 4 rfl).nth t (show t < code2.l.length from (by omega)))) rfl) (wanted_none rfl _) rfl rfl fun a132 hq132 => wq_val hq132 (r_neqN (p := ((nth code.l t).l).length) (q := ((nth code2.l t).l).length) rfl rfl rfl) (wanted_none rfl _) rfl rfl fun a133 hq133 => wpQuiet_nil (hZ118 _ fun w134 hw134 => ?_); clear hq130 hq132
  have h134 : St 112 (fun _ => False) W a133 w134 _ _ := ⟨hq133, hw134⟩
  clear hq133 hw134 h113
  refine hK117 _ _ <| x_cond h134 rfl (fun hb135 => ?_) (fun hb135 => ?_)
  ·have hp135 : ((nth code.l t).l).length ≠ ((nth code2.l t).l).length := of_decide_eq_true hb135
   refine wp_seq_k fun K136 hK136 => wp_region_lit <| wms 1 h134 rfl fun a137 h137 => wpList_nil <| hK136 _ _ <| wp_ret ?_; clear h134
   try simp only [Exit.then, Exit.inBlock]
   refine x_ret1 (fn := Try.f24) (t := 4) rfl h137 rfl <| ⟨?_, (h137.sh.sel [] (by decide) trivial)⟩
   congr 1
   first | (refine (decide_eq_true (pg_eq (by assumption) (by omega) (by omega) (by omega) fun j hj => hall j (by omega))).symm; done) | (refine (decide_eq_false fun e => ?_).symm; have e1 := pg_words e; have e2 := pg_locks e; have e3 := pg_regs e; have e4 := pg_len e; first | exact absurd e1 (by assumption) | omega | (have e5 := pg_code e t (by omega); have e6 := congrArg List.length e5; omega) | (have e7 : nth (nth code.l t).l i = nth (nth code2.l t).l i := (by rw [pg_code e t (by omega)]); have e8 := congrArg Ins.op e7; have e9 := congrArg Ins.a e7; have e10 := congrArg Ins.b e7; have e11 := congrArg Ins.c e7; omega))
  have hp135 : ¬ (((nth code.l t).l).length ≠ ((nth code2.l t).l).length) := of_decide_eq_false hb135
  refine wp_skip <| hK116 _ _ <| wp_seq_k fun K138 hK138 => wp_region_lit <| wms 1 h134 rfl fun a139 h139 => wpList_nil <| hK138 _ _ <| wp_block <| x_loop (fun m a w => ∃ (i : Nat), (i ≤ (nth code.l t).l.length) ∧ (∀ j, j < i → nth (nth code.l t).l j = nth (nth code2.l t).l j) ∧ St 112 (fun _ => False) W a w [(2, .pointer (some ⟨b3, 0, none⟩)), (3, .pointer (some ⟨b4, 0, none⟩)), (6, .int .i64 ((t : Nat) : Int)), (7, .int .i64 ((i : Nat) : Int))] [.blk b4 25 [code2.v, words2.v, .int .i64 locks2, .int .i64 regs2], .blk b3 25 [code.v, words.v, .int .i64 locks, .int .i64 regs], .at_ code, .at_ words, .at_ code2, .at_ words2] ∧ m = (nth code.l t).l.length - i) ⟨_, 0, (by omega), (fun j hj => absurd hj (by omega)), h139.nrm ⟨rfl, rfl, rfl, rfl, trivial⟩ [0, 1, 2, 3, 4, 5] (by decide) ⟨rfl, rfl, rfl, rfl, rfl, rfl, trivial⟩, rfl⟩ ?_; clear h134
  clear h139
  rintro m140 a140 w140 ⟨i, hi, hin, h140, hm140⟩
  refine wp_seq_k fun K141 hK141 => wp_seq_k fun K142 hK142 => wp_region_lit <| wms 1 h140 rfl fun a143 h143 => wv h143 (r_fieldB (r := 0) fl_25_0 rfl rfl rfl) rfl rfl fun a144 h144 => wv h144 (r_ldb (i := 1) ti_22 rfl rfl rfl rfl) rfl rfl fun a145 h145 => wms 1 h145 rfl fun a146 h146 => wv h146 (r_ixN (s := code) (q := t) sl_22 ti_33 rfl rfl rfl (fun w h => (h.at 2 rfl)) (show t < code.l.length from (by omega))) rfl rfl fun a147 h147 => wv h147 (r_lde (s := code) (i := t) (v := (nth code.l t).v) ti_33 rfl rfl rfl (fun w h => (h.at 2 rfl)) (show t < code.l.length from (by omega)) (Nat.le_of_ble_eq_true rfl) rfl) rfl rfl fun a148 h148 => wv h148 (r_len (s := nth code.l t) (n := ((nth code.l t).l).length) sl_33 rfl rfl (fun w h => ((h.at 2 rfl).nth t (show t < code.l.length from (by omega)))) rfl) rfl rfl fun a149 h149 => wv h149 (r_lssN (p := i) (q := ((nth code.l t).l).length) rfl rfl rfl) rfl rfl fun a150 h150 => wpList_nil <| hK142 _ _ <| x_cond h150 rfl (fun hb151 => ?_) (fun hb151 => ?_); clear h140 h143 h144 h145 h146 h147 h148 h149
  ·have hp151 : i < ((nth code.l t).l).length := of_decide_eq_true hb151
   refine wp_skip <| hK141 _ _ <| wp_seq_k fun K152 hK152 => wp_block <| wp_seq_k fun K153 hK153 => wp_region_lit <| wv h150 (r_fieldB (r := 0) fl_25_0 rfl rfl rfl) rfl rfl fun a154 h154 => wv h154 (r_ldb (i := 1) ti_22 rfl rfl rfl rfl) rfl rfl fun a155 h155 => wms 1 h155 rfl fun a156 h156 => wv h156 (r_ixN (s := code) (q := t) sl_22 ti_33 rfl rfl rfl (fun w h => (h.at 2 rfl)) (show t < code.l.length from (by omega))) rfl rfl fun a157 h157 => wv h157 (r_lde (s := code) (i := t) (v := (nth code.l t).v) ti_33 rfl rfl rfl (fun w h => (h.at 2 rfl)) (show t < code.l.length from (by omega)) (Nat.le_of_ble_eq_true rfl) rfl) rfl rfl fun a158 h158 => wms 1 h158 rfl fun a159 h159 => wv h159 (r_ixN (s := nth code.l t) (q := i) sl_33 ti_32 rfl rfl rfl (fun w h => ((h.at 2 rfl).nth t (show t < code.l.length from (by omega)))) (show i < ((nth code.l t).l).length from (by omega))) rfl rfl fun a160 h160 => wv h160 (r_ldew (s := nth code.l t) (i := i) (vs := [.int .i64 ((nth ((nth code.l t).l) i).op), .int .i64 ((nth ((nth code.l t).l) i).a), .int .i64 ((nth ((nth code.l t).l) i).b), .int .i64 ((nth ((nth code.l t).l) i).c)]) ti_32 rfl rfl rfl (fun w h => ((h.at 2 rfl).nth t (show t < code.l.length from (by omega)))) (show i < ((nth code.l t).l).length from (by omega)) (Nat.le_of_ble_eq_true rfl) rfl) rfl rfl fun a161 h161 => ?_; clear h150 h154 h155 h156 h157 h158 h159 h160
   refine wl_ex (x_alloc h161 ti_32 rfl rfl rfl) (wanted_none rfl _) ?_
   rintro a162 w162 ⟨b162, h162⟩; clear h161
   refine wl_ex (x_stb (i := 0) (vs := [.int .i64 ((nth ((nth code.l t).l) i).op), .int .i64 ((nth ((nth code.l t).l) i).a), .int .i64 ((nth ((nth code.l t).l) i).b), .int .i64 ((nth ((nth code.l t).l) i).c)]) (cs' := [.int .i64 ((nth ((nth code.l t).l) i).op), .int .i64 ((nth ((nth code.l t).l) i).a), .int .i64 ((nth ((nth code.l t).l) i).b), .int .i64 ((nth ((nth code.l t).l) i).c)]) h162 ti_32 rfl rfl rfl rfl rfl rfl rfl (allOne_cons rfl (allOne_cons rfl (allOne_cons rfl (allOne_cons rfl allOne_nil)))) (Nat.le_of_ble_eq_true rfl) rfl) (wanted_none rfl _) ?_
   rintro a163 w163 h163
   clear h162
   refine wpList_nil <| hK153 _ _ <| wp_seq_k fun K164 hK164 => wp_region_lit <| wv h163 (r_fieldB (r := 0) fl_25_0 rfl rfl rfl) rfl rfl fun a165 h165 => wv h165 (r_ldb (i := 1) ti_22 rfl rfl rfl rfl) rfl rfl fun a166 h166 => wms 1 h166 rfl fun a167 h167 => wv h167 (r_ixN (s := code2) (q := t) sl_22 ti_33 rfl rfl rfl (fun w h => (h.at 5 rfl)) (show t < code2.l.length from (by omega))) rfl rfl fun a168 h168 => wv h168 (r_lde (s := code2) (i := t) (v := (nth code2.l t).v) ti_33 rfl rfl rfl (fun w h => (h.at 5 rfl)) (show t < code2.l.length from (by omega)) (Nat.le_of_ble_eq_true rfl) rfl) rfl rfl fun a169 h169 => wms 1 h169 rfl fun a170 h170 => wv h170 (r_ixN (s := nth code2.l t) (q := i) sl_33 ti_32 rfl rfl rfl (fun w h => ((h.at 5 rfl).nth t (show t < code2.l.length from (by omega)))) (show i < ((nth code2.l t).l).length from (by omega))) rfl rfl fun a171 h171 => wv h171 (r_ldew (s := nth code2.l t) (i := i) (vs := [.int .i64 ((nth ((nth code2.l t).l) i).op), .int .i64 ((nth ((nth code2.l t).l) i).a), .int .i64 ((nth ((nth code2.l t).l) i).b), .int .i64 ((nth ((nth code2.l t).l) i).c)]) ti_32 rfl rfl rfl (fun w h => ((h.at 5 rfl).nth t (show t < code2.l.length from (by omega)))) (show i < ((nth code2.l t).l).length from (by omega)) (Nat.le_of_ble_eq_true rfl) rfl) rfl rfl fun a172 h172 => wl_ex (x_alloc h172 ti_32 rfl rfl rfl) (wanted_none rfl _) ?_; clear h163 h165 h166 h167 h168 h169 h170 h171
   rintro a173 w173 ⟨b173, h173⟩; clear h172
   refine wl_ex (x_stb (i := 0) (vs := [.int .i64 ((nth ((nth code2.l t).l) i).op), .int .i64 ((nth ((nth code2.l t).l) i).a), .int .i64 ((nth ((nth code2.l t).l) i).b), .int .i64 ((nth ((nth code2.l t).l) i).c)]) (cs' := [.int .i64 ((nth ((nth code2.l t).l) i).op), .int .i64 ((nth ((nth code2.l t).l) i).a), .int .i64 ((nth ((nth code2.l t).l) i).b), .int .i64 ((nth ((nth code2.l t).l) i).c)]) h173 ti_32 rfl rfl rfl rfl rfl rfl rfl (allOne_cons rfl (allOne_cons rfl (allOne_cons rfl (allOne_cons rfl allOne_nil)))) (Nat.le_of_ble_eq_true rfl) rfl) (wanted_none rfl _) ?_
   rintro a174 w174 h174
   clear h173
   refine wpList_nil <| hK164 _ _ ?_
   have h175 : St 112 (fun _ => False) W a174 w174 [(2, .pointer (some ⟨b3, 0, none⟩)), (3, .pointer (some ⟨b4, 0, none⟩)), (6, .int .i64 ((t : Nat) : Int)), (7, .int .i64 ((i : Nat) : Int)), (8, .pointer (some ⟨b162, 0, none⟩)), (9, .pointer (some ⟨b173, 0, none⟩))] [.blk b173 32 [.int .i64 ((nth ((nth code2.l t).l) i).op), .int .i64 ((nth ((nth code2.l t).l) i).a), .int .i64 ((nth ((nth code2.l t).l) i).b), .int .i64 ((nth ((nth code2.l t).l) i).c)], .blk b162 32 [.int .i64 ((nth ((nth code.l t).l) i).op), .int .i64 ((nth ((nth code.l t).l) i).a), .int .i64 ((nth ((nth code.l t).l) i).b), .int .i64 ((nth ((nth code.l t).l) i).c)], .blk b4 25 [code2.v, words2.v, .int .i64 locks2, .int .i64 regs2], .blk b3 25 [code.v, words.v, .int .i64 locks, .int .i64 regs], .at_ code, .at_ words, .at_ code2, .at_ words2] := h174.nrm ⟨rfl, rfl, rfl, rfl, rfl, rfl, trivial⟩ [0, 1, 2, 3, 4, 5, 6, 7] (by decide) ⟨rfl, rfl, rfl, rfl, rfl, rfl, rfl, rfl, trivial⟩
   clear h174
   refine wp_seq_k fun K176 hK176 => wp_region_lit <| wv h175 (r_fieldB (r := 0) fl_32_0 rfl rfl rfl) rfl rfl fun a177 h177 => wv h177 (r_ldb (i := 1) ti_3 rfl rfl rfl rfl) rfl rfl fun a178 h178 => wv h178 (r_fieldB (r := 0) fl_32_0 rfl rfl rfl) rfl rfl fun a179 h179 => wv h179 (r_ldb (i := 0) ti_3 rfl rfl rfl rfl) rfl rfl fun a180 h180 => wv h180 (r_neqI (p := (nth ((nth code.l t).l) i).op) (q := (nth ((nth code2.l t).l) i).op) rfl rfl rfl) rfl rfl fun a181 h181 => wms 1 h181 rfl fun a182 h182 => ?_; clear h175 h177 h178 h179 h180 h181
   rcases Bool.eq_false_or_eq_true (decide ((nth ((nth code.l t).l) i).op ≠ (nth ((nth code2.l t).l) i).op)) with hb183 | hb183
   ·have hp183 : (nth ((nth code.l t).l) i).op ≠ (nth ((nth code2.l t).l) i).op := of_decide_eq_true hb183
    refine wl_skip h182 (wanted_no h182.fr rfl rfl rfl rfl hb183) rfl rfl fun a184 h184 => wl_skip h184 (wanted_no h184.fr rfl rfl rfl rfl hb183) rfl rfl fun a185 h185 => wl_skip h185 (wanted_no h185.fr rfl rfl rfl rfl hb183) rfl rfl fun a186 h186 => wl_skip h186 (wanted_no h186.fr rfl rfl rfl rfl hb183) rfl rfl fun a187 h187 => wl_skip h187 (wanted_no h187.fr rfl rfl rfl rfl hb183) rfl rfl fun a188 h188 => wv h188 (r_pickT rfl rfl hb183 rfl) rfl rfl fun a189 h189 => wms 1 h189 rfl fun a190 h190 => wl_skip h190 (wanted_no h190.fr rfl rfl rfl rfl rfl) rfl rfl fun a191 h191 => wl_skip h191 (wanted_no h191.fr rfl rfl rfl rfl rfl) rfl rfl fun a192 h192 => wl_skip h192 (wanted_no h192.fr rfl rfl rfl rfl rfl) rfl rfl fun a193 h193 => wl_skip h193 (wanted_no h193.fr rfl rfl rfl rfl rfl) rfl rfl fun a194 h194 => wl_skip h194 (wanted_no h194.fr rfl rfl rfl rfl rfl) rfl rfl fun a195 h195 => wv h195 (r_pickT rfl rfl rfl rfl) rfl rfl fun a196 h196 => wms 1 h196 rfl fun a197 h197 => ?_; clear h182 h184 h185 h186 h187 h188 h189 h190 h191 h192 h193 h194 h195 h196
    refine wl_skip h197 (wanted_no h197.fr rfl rfl rfl rfl rfl) rfl rfl fun a198 h198 => wl_skip h198 (wanted_no h198.fr rfl rfl rfl rfl rfl) rfl rfl fun a199 h199 => wl_skip h199 (wanted_no h199.fr rfl rfl rfl rfl rfl) rfl rfl fun a200 h200 => wl_skip h200 (wanted_no h200.fr rfl rfl rfl rfl rfl) rfl rfl fun a201 h201 => wl_skip h201 (wanted_no h201.fr rfl rfl rfl rfl rfl) rfl rfl fun a202 h202 => wv h202 (r_pickT rfl rfl rfl rfl) rfl rfl fun a203 h203 => wpList_nil <| hK176 _ _ ?_; clear h197 h198 h199 h200 h201 h202
    have h204 : St 112 (fun _ => False) W a203 w174 [(2, .pointer (some ⟨b3, 0, none⟩)), (3, .pointer (some ⟨b4, 0, none⟩)), (6, .int .i64 ((t : Nat) : Int)), (7, .int .i64 ((i : Nat) : Int)), (111, .bool true)] [.blk b173 32 [.int .i64 ((nth ((nth code2.l t).l) i).op), .int .i64 ((nth ((nth code2.l t).l) i).a), .int .i64 ((nth ((nth code2.l t).l) i).b), .int .i64 ((nth ((nth code2.l t).l) i).c)], .blk b162 32 [.int .i64 ((nth ((nth code.l t).l) i).op), .int .i64 ((nth ((nth code.l t).l) i).a), .int .i64 ((nth ((nth code.l t).l) i).b), .int .i64 ((nth ((nth code.l t).l) i).c)], .blk b4 25 [code2.v, words2.v, .int .i64 locks2, .int .i64 regs2], .blk b3 25 [code.v, words.v, .int .i64 locks, .int .i64 regs], .at_ code, .at_ words, .at_ code2, .at_ words2] := h203.nrm ⟨rfl, rfl, rfl, rfl, rfl, trivial⟩ [0, 1, 2, 3, 4, 5, 6, 7] (by decide) ⟨rfl, rfl, rfl, rfl, rfl, rfl, rfl, rfl, trivial⟩
    clear h203
    refine x_condT h204 rfl rfl <| wp_seq_k fun K205 hK205 => wp_region_lit <| wms 1 h204 rfl fun a206 h206 => wpList_nil <| hK205 _ _ <| wp_ret ?_; clear h204
    try simp only [Exit.then, Exit.inBlock]
    refine x_ret1 (fn := Try.f24) (t := 4) rfl h206 rfl <| ⟨?_, (h206.sh.sel [] (by decide) trivial)⟩
    congr 1
    first | (refine (decide_eq_true (pg_eq (by assumption) (by omega) (by omega) (by omega) fun j hj => hall j (by omega))).symm; done) | (refine (decide_eq_false fun e => ?_).symm; have e1 := pg_words e; have e2 := pg_locks e; have e3 := pg_regs e; have e4 := pg_len e; first | exact absurd e1 (by assumption) | omega | (have e5 := pg_code e t (by omega); have e6 := congrArg List.length e5; omega) | (have e7 : nth (nth code.l t).l i = nth (nth code2.l t).l i := (by rw [pg_code e t (by omega)]); have e8 := congrArg Ins.op e7; have e9 := congrArg Ins.a e7; have e10 := congrArg Ins.b e7; have e11 := congrArg Ins.c e7; omega))
   have hp183 : ¬ ((nth ((nth code.l t).l) i).op ≠ (nth ((nth code2.l t).l) i).op) := of_decide_eq_false hb183
   refine wl_val h182 (r_fieldB (r := 1) fl_32_1 rfl rfl rfl) (wanted_yes h182.fr rfl rfl rfl rfl hb183) rfl rfl fun a207 h207 => wl_val h207 (r_ldb (i := 1) ti_3 rfl rfl rfl rfl) (wanted_yes h207.fr rfl rfl rfl rfl hb183) rfl rfl fun a208 h208 => wl_val h208 (r_fieldB (r := 1) fl_32_1 rfl rfl rfl) (wanted_yes h208.fr rfl rfl rfl rfl hb183) rfl rfl fun a209 h209 => wl_val h209 (r_ldb (i := 0) ti_3 rfl rfl rfl rfl) (wanted_yes h209.fr rfl rfl rfl rfl hb183) rfl rfl fun a210 h210 => wl_val h210 (r_neqI (p := (nth ((nth code.l t).l) i).a) (q := (nth ((nth code2.l t).l) i).a) rfl rfl rfl) (wanted_yes h210.fr rfl rfl rfl rfl hb183) rfl rfl fun a211 h211 => wv h211 (r_pickF rfl rfl hb183 rfl) rfl rfl fun a212 h212 => wms 1 h212 rfl fun a213 h213 => ?_; clear h182 h207 h208 h209 h210 h211 h212
   rcases Bool.eq_false_or_eq_true (decide ((nth ((nth code.l t).l) i).a ≠ (nth ((nth code2.l t).l) i).a)) with hb214 | hb214
   ·have hp214 : (nth ((nth code.l t).l) i).a ≠ (nth ((nth code2.l t).l) i).a := of_decide_eq_true hb214
    refine wl_skip h213 (wanted_no h213.fr rfl rfl rfl rfl hb214) rfl rfl fun a215 h215 => wl_skip h215 (wanted_no h215.fr rfl rfl rfl rfl hb214) rfl rfl fun a216 h216 => wl_skip h216 (wanted_no h216.fr rfl rfl rfl rfl hb214) rfl rfl fun a217 h217 => wl_skip h217 (wanted_no h217.fr rfl rfl rfl rfl hb214) rfl rfl fun a218 h218 => wl_skip h218 (wanted_no h218.fr rfl rfl rfl rfl hb214) rfl rfl fun a219 h219 => wv h219 (r_pickT rfl rfl hb214 rfl) rfl rfl fun a220 h220 => wms 1 h220 rfl fun a221 h221 => wl_skip h221 (wanted_no h221.fr rfl rfl rfl rfl rfl) rfl rfl fun a222 h222 => wl_skip h222 (wanted_no h222.fr rfl rfl rfl rfl rfl) rfl rfl fun a223 h223 => wl_skip h223 (wanted_no h223.fr rfl rfl rfl rfl rfl) rfl rfl fun a224 h224 => wl_skip h224 (wanted_no h224.fr rfl rfl rfl rfl rfl) rfl rfl fun a225 h225 => wl_skip h225 (wanted_no h225.fr rfl rfl rfl rfl rfl) rfl rfl fun a226 h226 => wv h226 (r_pickT rfl rfl rfl rfl) rfl rfl fun a227 h227 => wpList_nil ?_; clear h213 h215 h216 h217 h218 h219 h220 h221 h222 h223 h224 h225 h226
    refine hK176 _ _ ?_
    have h228 : St 112 (fun _ => False) W a227 w174 [(2, .pointer (some ⟨b3, 0, none⟩)), (3, .pointer (some ⟨b4, 0, none⟩)), (6, .int .i64 ((t : Nat) : Int)), (7, .int .i64 ((i : Nat) : Int)), (111, .bool true)] [.blk b173 32 [.int .i64 ((nth ((nth code2.l t).l) i).op), .int .i64 ((nth ((nth code2.l t).l) i).a), .int .i64 ((nth ((nth code2.l t).l) i).b), .int .i64 ((nth ((nth code2.l t).l) i).c)], .blk b162 32 [.int .i64 ((nth ((nth code.l t).l) i).op), .int .i64 ((nth ((nth code.l t).l) i).a), .int .i64 ((nth ((nth code.l t).l) i).b), .int .i64 ((nth ((nth code.l t).l) i).c)], .blk b4 25 [code2.v, words2.v, .int .i64 locks2, .int .i64 regs2], .blk b3 25 [code.v, words.v, .int .i64 locks, .int .i64 regs], .at_ code, .at_ words, .at_ code2, .at_ words2] := h227.nrm ⟨rfl, rfl, rfl, rfl, rfl, trivial⟩ [0, 1, 2, 3, 4, 5, 6, 7] (by decide) ⟨rfl, rfl, rfl, rfl, rfl, rfl, rfl, rfl, trivial⟩
    clear h227
    refine x_condT h228 rfl rfl <| wp_seq_k fun K229 hK229 => wp_region_lit <| wms 1 h228 rfl fun a230 h230 => wpList_nil <| hK229 _ _ <| wp_ret ?_; clear h228
    try simp only [Exit.then, Exit.inBlock]
    refine x_ret1 (fn := Try.f24) (t := 4) rfl h230 rfl <| ⟨?_, (h230.sh.sel [] (by decide) trivial)⟩
    congr 1
    first | (refine (decide_eq_true (pg_eq (by assumption) (by omega) (by omega) (by omega) fun j hj => hall j (by omega))).symm; done) | (refine (decide_eq_false fun e => ?_).symm; have e1 := pg_words e; have e2 := pg_locks e; have e3 := pg_regs e; have e4 := pg_len e; first | exact absurd e1 (by assumption) | omega | (have e5 := pg_code e t (by omega); have e6 := congrArg List.length e5; omega) | (have e7 : nth (nth code.l t).l i = nth (nth code2.l t).l i := (by rw [pg_code e t (by omega)]); have e8 := congrArg Ins.op e7; have e9 := congrArg Ins.a e7; have e10 := congrArg Ins.b e7; have e11 := congrArg Ins.c e7; omega))
   have hp214 : ¬ ((nth ((nth code.l t).l) i).a ≠ (nth ((nth code2.l t).l) i).a) := of_decide_eq_false hb214
   refine wl_val h213 (r_fieldB (r := 2) fl_32_2 rfl rfl rfl) (wanted_yes h213.fr rfl rfl rfl rfl hb214) rfl rfl fun a231 h231 => wl_val h231 (r_ldb (i := 1) ti_3 rfl rfl rfl rfl) (wanted_yes h231.fr rfl rfl rfl rfl hb214) rfl rfl fun a232 h232 => wl_val h232 (r_fieldB (r := 2) fl_32_2 rfl rfl rfl) (wanted_yes h232.fr rfl rfl rfl rfl hb214) rfl rfl fun a233 h233 => wl_val h233 (r_ldb (i := 0) ti_3 rfl rfl rfl rfl) (wanted_yes h233.fr rfl rfl rfl rfl hb214) rfl rfl fun a234 h234 => wl_val h234 (r_neqI (p := (nth ((nth code.l t).l) i).b) (q := (nth ((nth code2.l t).l) i).b) rfl rfl rfl) (wanted_yes h234.fr rfl rfl rfl rfl hb214) rfl rfl fun a235 h235 => wv h235 (r_pickF rfl rfl hb214 rfl) rfl rfl fun a236 h236 => wms 1 h236 rfl fun a237 h237 => ?_; clear h213 h231 h232 h233 h234 h235 h236
   rcases Bool.eq_false_or_eq_true (decide ((nth ((nth code.l t).l) i).b ≠ (nth ((nth code2.l t).l) i).b)) with hb238 | hb238
   ·have hp238 : (nth ((nth code.l t).l) i).b ≠ (nth ((nth code2.l t).l) i).b := of_decide_eq_true hb238
    refine wl_skip h237 (wanted_no h237.fr rfl rfl rfl rfl hb238) rfl rfl fun a239 h239 => wl_skip h239 (wanted_no h239.fr rfl rfl rfl rfl hb238) rfl rfl fun a240 h240 => wl_skip h240 (wanted_no h240.fr rfl rfl rfl rfl hb238) rfl rfl fun a241 h241 => wl_skip h241 (wanted_no h241.fr rfl rfl rfl rfl hb238) rfl rfl fun a242 h242 => wl_skip h242 (wanted_no h242.fr rfl rfl rfl rfl hb238) rfl rfl fun a243 h243 => wv h243 (r_pickT rfl rfl hb238 rfl) rfl rfl fun a244 h244 => wpList_nil <| hK176 _ _ ?_; clear h237 h239 h240 h241 h242 h243
    have h245 : St 112 (fun _ => False) W a244 w174 [(2, .pointer (some ⟨b3, 0, none⟩)), (3, .pointer (some ⟨b4, 0, none⟩)), (6, .int .i64 ((t : Nat) : Int)), (7, .int .i64 ((i : Nat) : Int)), (111, .bool true)] [.blk b173 32 [.int .i64 ((nth ((nth code2.l t).l) i).op), .int .i64 ((nth ((nth code2.l t).l) i).a), .int .i64 ((nth ((nth code2.l t).l) i).b), .int .i64 ((nth ((nth code2.l t).l) i).c)], .blk b162 32 [.int .i64 ((nth ((nth code.l t).l) i).op), .int .i64 ((nth ((nth code.l t).l) i).a), .int .i64 ((nth ((nth code.l t).l) i).b), .int .i64 ((nth ((nth code.l t).l) i).c)], .blk b4 25 [code2.v, words2.v, .int .i64 locks2, .int .i64 regs2], .blk b3 25 [code.v, words.v, .int .i64 locks, .int .i64 regs], .at_ code, .at_ words, .at_ code2, .at_ words2] := h244.nrm ⟨rfl, rfl, rfl, rfl, rfl, trivial⟩ [0, 1, 2, 3, 4, 5, 6, 7] (by decide) ⟨rfl, rfl, rfl, rfl, rfl, rfl, rfl, rfl, trivial⟩
    clear h244
    refine x_condT h245 rfl rfl <| wp_seq_k fun K246 hK246 => wp_region_lit <| wms 1 h245 rfl fun a247 h247 => wpList_nil <| hK246 _ _ <| wp_ret ?_; clear h245
    try simp only [Exit.then, Exit.inBlock]
    refine x_ret1 (fn := Try.f24) (t := 4) rfl h247 rfl <| ⟨?_, (h247.sh.sel [] (by decide) trivial)⟩
    congr 1
    first | (refine (decide_eq_true (pg_eq (by assumption) (by omega) (by omega) (by omega) fun j hj => hall j (by omega))).symm; done) | (refine (decide_eq_false fun e => ?_).symm; have e1 := pg_words e; have e2 := pg_locks e; have e3 := pg_regs e; have e4 := pg_len e; first | exact absurd e1 (by assumption) | omega | (have e5 := pg_code e t (by omega); have e6 := congrArg List.length e5; omega) | (have e7 : nth (nth code.l t).l i = nth (nth code2.l t).l i := (by rw [pg_code e t (by omega)]); have e8 := congrArg Ins.op e7; have e9 := congrArg Ins.a e7; have e10 := congrArg Ins.b e7; have e11 := congrArg Ins.c e7; omega))
   have hp238 : ¬ ((nth ((nth code.l t).l) i).b ≠ (nth ((nth code2.l t).l) i).b) := of_decide_eq_false hb238
   refine wl_val h237 (r_fieldB (r := 3) fl_32_3 rfl rfl rfl) (wanted_yes h237.fr rfl rfl rfl rfl hb238) rfl rfl fun a248 h248 => wl_val h248 (r_ldb (i := 1) ti_3 rfl rfl rfl rfl) (wanted_yes h248.fr rfl rfl rfl rfl hb238) rfl rfl fun a249 h249 => wl_val h249 (r_fieldB (r := 3) fl_32_3 rfl rfl rfl) (wanted_yes h249.fr rfl rfl rfl rfl hb238) rfl rfl fun a250 h250 => wl_val h250 (r_ldb (i := 0) ti_3 rfl rfl rfl rfl) (wanted_yes h250.fr rfl rfl rfl rfl hb238) rfl rfl fun a251 h251 => wl_val h251 (r_neqI (p := (nth ((nth code.l t).l) i).c) (q := (nth ((nth code2.l t).l) i).c) rfl rfl rfl) (wanted_yes h251.fr rfl rfl rfl rfl hb238) rfl rfl fun a252 h252 => wv h252 (r_pickF rfl rfl hb238 rfl) rfl rfl fun a253 h253 => wpList_nil <| hK176 _ _ ?_; clear h237 h248 h249 h250 h251 h252
   have h254 : St 112 (fun _ => False) W a253 w174 [(2, .pointer (some ⟨b3, 0, none⟩)), (3, .pointer (some ⟨b4, 0, none⟩)), (6, .int .i64 ((t : Nat) : Int)), (7, .int .i64 ((i : Nat) : Int)), (111, .bool (decide ((nth ((nth code.l t).l) i).c ≠ (nth ((nth code2.l t).l) i).c)))] [.blk b173 32 [.int .i64 ((nth ((nth code2.l t).l) i).op), .int .i64 ((nth ((nth code2.l t).l) i).a), .int .i64 ((nth ((nth code2.l t).l) i).b), .int .i64 ((nth ((nth code2.l t).l) i).c)], .blk b162 32 [.int .i64 ((nth ((nth code.l t).l) i).op), .int .i64 ((nth ((nth code.l t).l) i).a), .int .i64 ((nth ((nth code.l t).l) i).b), .int .i64 ((nth ((nth code.l t).l) i).c)], .blk b4 25 [code2.v, words2.v, .int .i64 locks2, .int .i64 regs2], .blk b3 25 [code.v, words.v, .int .i64 locks, .int .i64 regs], .at_ code, .at_ words, .at_ code2, .at_ words2] := h253.nrm ⟨rfl, rfl, rfl, rfl, rfl, trivial⟩ [0, 1, 2, 3, 4, 5, 6, 7] (by decide) ⟨rfl, rfl, rfl, rfl, rfl, rfl, rfl, rfl, trivial⟩
   clear h253
   refine x_cond h254 rfl (fun hb255 => ?_) (fun hb255 => ?_)
   ·have hp255 : (nth ((nth code.l t).l) i).c ≠ (nth ((nth code2.l t).l) i).c := of_decide_eq_true hb255
    refine wp_seq_k fun K256 hK256 => wp_region_lit <| wms 1 h254 rfl fun a257 h257 => wpList_nil <| hK256 _ _ <| wp_ret ?_; clear h254
    try simp only [Exit.then, Exit.inBlock]
    refine x_ret1 (fn := Try.f24) (t := 4) rfl h257 rfl <| ⟨?_, (h257.sh.sel [] (by decide) trivial)⟩
    congr 1
    first | (refine (decide_eq_true (pg_eq (by assumption) (by omega) (by omega) (by omega) fun j hj => hall j (by omega))).symm; done) | (refine (decide_eq_false fun e => ?_).symm; have e1 := pg_words e; have e2 := pg_locks e; have e3 := pg_regs e; have e4 := pg_len e; first | exact absurd e1 (by assumption) | omega | (have e5 := pg_code e t (by omega); have e6 := congrArg List.length e5; omega) | (have e7 : nth (nth code.l t).l i = nth (nth code2.l t).l i := (by rw [pg_code e t (by omega)]); have e8 := congrArg Ins.op e7; have e9 := congrArg Ins.a e7; have e10 := congrArg Ins.b e7; have e11 := congrArg Ins.c e7; omega))
   have hp255 : ¬ ((nth ((nth code.l t).l) i).c ≠ (nth ((nth code2.l t).l) i).c) := of_decide_eq_false hb255
   refine wp_skip <| hK152 _ _ <| wp_region_lit <| wms 1 h254 rfl fun a258 h258 => wv h258 (r_addN (p := i) (q := 1) rfl rfl rfl (show i + 1 < 9223372036854775808 from (by omega))) rfl rfl fun a259 h259 => wms 1 h259 rfl fun a260 h260 => wpList_nil <| x_again ⟨_, ?_, i + 1, ?_, ?_, h260.nrm ⟨rfl, rfl, rfl, rfl, trivial⟩ [2, 3, 4, 5, 6, 7] (by decide) ⟨rfl, rfl, rfl, rfl, rfl, rfl, trivial⟩, rfl⟩; clear h254 h258 h259
   · rw [hm140]; first | omega | (simp only [lens9]; omega)
   · omega
   · intro j hj; rcases Nat.lt_or_ge j i with h | h; exact hin j h; obtain rfl : j = i := (by omega); exact ins_ext (by omega) (by omega) (by omega) (by omega)
  have hp151 : ¬ (i < ((nth code.l t).l).length) := of_decide_eq_false hb151
  refine wp_exit <| hK115 _ _ <| wp_region_lit <| wms 1 h150 rfl fun a261 h261 => wv h261 (r_addN (p := t) (q := 1) rfl rfl rfl (show t + 1 < 9223372036854775808 from (by omega))) rfl rfl fun a262 h262 => wms 1 h262 rfl fun a263 h263 => wpList_nil <| x_again ⟨_, ?_, t + 1, ?_, ?_, h263.nrm ⟨rfl, rfl, rfl, trivial⟩ [0, 1, 2, 3, 4, 5] (by decide) ⟨rfl, rfl, rfl, rfl, rfl, rfl, trivial⟩, rfl⟩; clear h150 h261 h262
  · rw [hm106]; first | omega | (simp only [lens9]; omega)
  · omega
  · intro j hj; rcases Nat.lt_or_ge j t with h | h; exact hall j h; obtain rfl : j = t := (by omega); exact ext_nth _ _ (by omega) fun i hi => hin i (by omega)
 have hp114 : ¬ (t < code.l.length) := of_decide_eq_false hb114
 refine wp_exit <| hK103 _ _ <| wp_seq_k fun K264 hK264 => wp_region_lit <| wms 1 h113 rfl fun a265 h265 => wpList_nil <| hK264 _ _ <| wp_ret ?_; clear h113
 try simp only [Exit.then, Exit.inBlock]
 refine x_ret1 (fn := Try.f24) (t := 4) rfl h265 rfl <| ⟨?_, (h265.sh.sel [] (by decide) trivial)⟩
 congr 1
 first | (refine (decide_eq_true (pg_eq (by assumption) (by omega) (by omega) (by omega) fun j hj => hall j (by omega))).symm; done) | (refine (decide_eq_false fun e => ?_).symm; have e1 := pg_words e; have e2 := pg_locks e; have e3 := pg_regs e; have e4 := pg_len e; first | exact absurd e1 (by assumption) | omega | (have e5 := pg_code e t (by omega); have e6 := congrArg List.length e5; omega) | (have e7 : nth (nth code.l t).l i = nth (nth code2.l t).l i := (by rw [pg_code e t (by omega)]); have e8 := congrArg Ins.op e7; have e9 := congrArg Ins.a e7; have e10 := congrArg Ins.b e7; have e11 := congrArg Ins.c e7; omega))

set_option maxRecDepth 100000 in
set_option maxHeartbeats 1000000 in
theorem none_c (code : Ls (Ls Ins)) (words : Ls Int) (locks regs : Int) (W : World) (hcode : code.At W) (hwords : words.At W) :
    Rets Try.prog 21 [.agg #[code.v, words.v, .int .i64 locks, .int .i64 regs]] W (fun v w' => v = .bool (noneP (pgOf code words locks regs)) ∧ Sh0 W w' []) := by
 refine x_enter (N := 21) Try.func21 rfl Try.ntmps21 (Nat.le_of_ble_eq_true rfl) fun a1 hf1 => ?_
 have h1 : St 21 (fun _ => False) W a1 W [(0, .agg #[code.v, words.v, .int .i64 locks, .int .i64 regs])] [.at_ code, .at_ words] := ⟨hf1.sub ⟨rfl, trivial⟩, Sh0.ext2 hcode hwords⟩
 clear hf1
 refine wp_seq_k fun K2 hK2 => wp_region_lit <| wl_ex (x_box (cs := [code.v, words.v, .int .i64 locks, .int .i64 regs]) h1 rfl rfl rfl rfl rfl) (wanted_none rfl _) ?_
 rintro a3 w3 ⟨b3, h3⟩; clear h1
 refine wms 1 h3 rfl fun a4 h4 => wpList_nil <| hK2 _ _ <| wp_seq_k fun K5 hK5 => wp_region_lit <| wv h4 (r_fieldB (r := 0) fl_25_0 rfl rfl rfl) rfl rfl fun a6 h6 => wv h6 (r_ldb (i := 0) ti_22 rfl rfl rfl rfl) rfl rfl fun a7 h7 => ?_; clear h3 h4 h6
 have hl8 : code.l.length ≤ 140737488355328 := (h7.sh.at 1 rfl).len
 refine wv h7 (r_len (s := code) (n := code.l.length) sl_22 rfl rfl (fun w h => (h.at 1 rfl)) rfl) rfl rfl fun a9 h9 => wv h9 (r_fieldB (r := 1) fl_25_1 rfl rfl rfl) rfl rfl fun a10 h10 => wv h10 (r_ldb (i := 0) ti_23 rfl rfl rfl rfl) rfl rfl fun a11 h11 => ?_; clear h7 h9 h10
 have hl12 : words.l.length ≤ 140737488355328 := (h11.sh.at 2 rfl).len
 refine wv h11 (r_len (s := words) (n := words.l.length) sl_23 rfl rfl (fun w h => (h.at 2 rfl)) rfl) rfl rfl fun a13 h13 => wv h13 (r_addN (p := code.l.length) (q := words.l.length) rfl rfl rfl (show code.l.length + words.l.length < 9223372036854775808 from (by omega))) rfl rfl fun a14 h14 => wv h14 (r_eqlN (p := code.l.length + words.l.length) (q := 0) rfl rfl rfl) rfl rfl fun a15 h15 => wms 1 h15 rfl fun a16 h16 => ?_; clear h11 h13 h14 h15
 rcases Bool.eq_false_or_eq_true (decide (code.l.length + words.l.length = 0)) with hb17 | hb17
 ·have hp17 : code.l.length + words.l.length = 0 := of_decide_eq_true hb17
  refine wl_val h16 (r_fieldB (r := 2) fl_25_2 rfl rfl rfl) (wanted_yes h16.fr rfl rfl rfl rfl hb17) rfl rfl fun a18 h18 => wl_val h18 (r_ldb (i := 0) ti_3 rfl rfl rfl rfl) (wanted_yes h18.fr rfl rfl rfl rfl hb17) rfl rfl fun a19 h19 => wl_val h19 (r_eqlI (p := locks) (q := 0) rfl rfl rfl) (wanted_yes h19.fr rfl rfl rfl rfl hb17) rfl rfl fun a20 h20 => wv h20 (r_pickT rfl rfl hb17 rfl) rfl rfl fun a21 h21 => wms 1 h21 rfl fun a22 h22 => ?_; clear h16 h18 h19 h20 h21
  rcases Bool.eq_false_or_eq_true (decide (locks = 0)) with hb23 | hb23
  ·have hp23 : locks = 0 := of_decide_eq_true hb23
   refine wl_val h22 (r_fieldB (r := 3) fl_25_3 rfl rfl rfl) (wanted_yes h22.fr rfl rfl rfl rfl hb23) rfl rfl fun a24 h24 => wl_val h24 (r_ldb (i := 0) ti_3 rfl rfl rfl rfl) (wanted_yes h24.fr rfl rfl rfl rfl hb23) rfl rfl fun a25 h25 => wl_val h25 (r_eqlI (p := regs) (q := 0) rfl rfl rfl) (wanted_yes h25.fr rfl rfl rfl rfl hb23) rfl rfl fun a26 h26 => wv h26 (r_pickT rfl rfl hb23 rfl) rfl rfl fun a27 h27 => wms 1 h27 rfl fun a28 h28 => wpList_nil <| hK5 _ _ <| wp_ret ?_; clear h22 h24 h25 h26 h27
   try simp only [Exit.then, Exit.inBlock]
   refine x_ret1 (fn := Try.f21) (t := 2) rfl h28 rfl <| ⟨?_, (h28.sh.sel [] (by decide) trivial)⟩
   congr 1
   simp [noneP, pgOf]
   first | omega | (simp_all; done) | (intros; omega)
  have hp23 : ¬ (locks = 0) := of_decide_eq_false hb23
  refine wl_skip h22 (wanted_no h22.fr rfl rfl rfl rfl hb23) rfl rfl fun a29 h29 => wl_skip h29 (wanted_no h29.fr rfl rfl rfl rfl hb23) rfl rfl fun a30 h30 => wl_skip h30 (wanted_no h30.fr rfl rfl rfl rfl hb23) rfl rfl fun a31 h31 => wv h31 (r_pickF rfl rfl hb23 rfl) rfl rfl fun a32 h32 => wms 1 h32 rfl fun a33 h33 => wpList_nil <| hK5 _ _ <| wp_ret ?_; clear h22 h29 h30 h31 h32
  try simp only [Exit.then, Exit.inBlock]
  refine x_ret1 (fn := Try.f21) (t := 2) rfl h33 rfl <| ⟨?_, (h33.sh.sel [] (by decide) trivial)⟩
  congr 1
  simp [noneP, pgOf]
  first | omega | (simp_all; done) | (intros; omega)
 have hp17 : ¬ (code.l.length + words.l.length = 0) := of_decide_eq_false hb17
 refine wl_skip h16 (wanted_no h16.fr rfl rfl rfl rfl hb17) rfl rfl fun a34 h34 => wl_skip h34 (wanted_no h34.fr rfl rfl rfl rfl hb17) rfl rfl fun a35 h35 => wl_skip h35 (wanted_no h35.fr rfl rfl rfl rfl hb17) rfl rfl fun a36 h36 => wv h36 (r_pickF rfl rfl hb17 rfl) rfl rfl fun a37 h37 => wms 1 h37 rfl fun a38 h38 => wl_skip h38 (wanted_no h38.fr rfl rfl rfl rfl rfl) rfl rfl fun a39 h39 => wl_skip h39 (wanted_no h39.fr rfl rfl rfl rfl rfl) rfl rfl fun a40 h40 => wl_skip h40 (wanted_no h40.fr rfl rfl rfl rfl rfl) rfl rfl fun a41 h41 => wv h41 (r_pickF rfl rfl rfl rfl) rfl rfl fun a42 h42 => wms 1 h42 rfl fun a43 h43 => wpList_nil <| hK5 _ _ <| wp_ret ?_; clear h16 h34 h35 h36 h37 h38 h39 h40 h41 h42
 try simp only [Exit.then, Exit.inBlock]
 refine x_ret1 (fn := Try.f21) (t := 2) rfl h43 rfl <| ⟨?_, (h43.sh.sel [] (by decide) trivial)⟩
 congr 1
 simp [noneP, pgOf]
 first | omega | (simp_all; done) | (intros; omega)

end Go.Proofs.Ytfpaahkleienoaa
