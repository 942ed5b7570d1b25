/-
  Contracts of functions of this program and of the references, each walked once.
-/
import Derived.Test.YtanhbpofhebbaaaX0
import Derived.Test.YtanhbpofhebbaaaC1
namespace Go.Proofs.Ytanhbpofhebbaaa
open Go.RowKit
set_option linter.unusedSimpArgs false
set_option linter.unusedVariables false


theorem take_succ_nth {α : Type} [Inhabited α] (l : List α) (k : Nat) (h : k < l.length) : l.take (k + 1) = l.take k ++ [nth l k] := by
  rw [List.take_succ_eq_append_getElem h, nth_lt l k h]
theorem ext_nth {α : Type} [Inhabited α] (l m : List α) (hl : l.length = m.length) (h : ∀ i, i < l.length → nth l i = nth m i) : l = m := by
  apply List.ext_getElem hl
  intro i h1 h2
  have := h i h1
  rwa [nth_lt l i h1, nth_lt m i h2] at this

/-- Every jump of a thread leads to a place of it. -/
def JumpsOK (code : List Ins) : Prop := ∀ i, i < code.length → ((nth code i).op = 14 → 0 ≤ (nth code i).a ∧ (nth code i).a ≤ code.length) ∧ ((nth code i).op = 15 → 0 ≤ (nth code i).b ∧ (nth code i).b ≤ code.length)

theorem ins_ext {x y : Ins} (h1 : x.op = y.op) (h2 : x.a = y.a) (h3 : x.b = y.b) (h4 : x.c = y.c) : x = y := by
  cases x; cases y; simp_all
instance : DecidableEq Pg := fun p q => by
  rcases p with ⟨a, b, c, d⟩; rcases q with ⟨a', b', c', d'⟩
  exact decidable_of_iff (a = a' ∧ b = b' ∧ c = c' ∧ d = d') (by simp)
section
variable {code code2 : Ls (Ls Ins)} {words words2 : Ls Int} {locks regs locks2 regs2 : Int}
theorem pg_words (e : pgOf code words locks regs = pgOf code2 words2 locks2 regs2) : words.l = words2.l := congrArg Pg.words e
theorem pg_locks (e : pgOf code words locks regs = pgOf code2 words2 locks2 regs2) : locks = locks2 := congrArg Pg.locks e
theorem pg_regs (e : pgOf code words locks regs = pgOf code2 words2 locks2 regs2) : regs = regs2 := congrArg Pg.regs e
theorem pg_len (e : pgOf code words locks regs = pgOf code2 words2 locks2 regs2) : code.l.length = code2.l.length := by simpa [pgOf] using congrArg (fun p : Pg => p.code.length) e
theorem pg_code (e : pgOf code words locks regs = pgOf code2 words2 locks2 regs2) (t : Nat) (h : t < code.l.length) : (nth code.l t).l = (nth code2.l t).l := by
  have h1 := congrArg (fun p : Pg => nth p.code t) e
  have h2 := pg_len e
  simp only [pgOf] at h1
  rwa [nth_map' _ _ _ h, nth_map' _ _ _ (by omega)] at h1
theorem pg_eq (h1 : words.l = words2.l) (h2 : locks = locks2) (h3 : regs = regs2) (h4 : code.l.length = code2.l.length) (h5 : ∀ j, j < code.l.length → (nth code.l j).l = (nth code2.l j).l) : pgOf code words locks regs = pgOf code2 words2 locks2 regs2 := by
  unfold pgOf
  rw [h1, h2, h3]
  congr 1
  refine ext_nth _ _ (by simpa using h4) fun i hi => ?_
  have hi' : i < code.l.length := by simpa using hi
  rw [nth_map' _ _ _ hi', nth_map' _ _ _ (by omega)]
  exact h5 i hi'
end
def noneP (p : Pg) : Bool := decide (p.code.length + p.words.length = 0 ∧ p.locks = 0 ∧ p.regs = 0)
set_option maxRecDepth 100000 in
set_option maxHeartbeats 1000000 in
theorem ints_c (x y : Ls Int) (W : World) (hx : x.At W) (hy : y.At W) :
    Rets Try.prog 41 [x.v, y.v] W (fun v w' => v = .bool (decide (x.l = y.l)) ∧ Sh0 W w' []) := by
 refine x_enter (N := 26) Try.func41 rfl Try.ntmps41 (Nat.le_of_ble_eq_true rfl) fun a1 hf1 => ?_
 have h1 : St 26 (fun _ => False) W a1 W [(0, x.v), (1, y.v)] [.at_ x, .at_ y] := ⟨hf1.sub ⟨rfl, rfl, trivial⟩, Sh0.ext2 hx hy⟩
 clear hf1
 refine wp_seq_k fun K2 hK2 => wp_region_lit ?_
 refine wms 1 h1 rfl fun a3 h3 => ?_; clear h1
 refine wpList_nil (hK2 _ _ ?_)
 refine wp_seq_k fun K4 hK4 => ?_
 refine wp_seq_k fun K5 hK5 => wp_region_lit ?_
 refine wms 1 h3 rfl fun a6 h6 => ?_; clear h3
 have hl7 : x.l.length ≤ 140737488355328 := (h6.sh.at 0 rfl).len
 refine wv h6 (r_len (s := x) (n := x.l.length) sl_24 rfl rfl (fun w h => (h.at 0 rfl)) rfl) rfl rfl fun a8 h8 => ?_; clear h6
 refine wms 1 h8 rfl fun a9 h9 => ?_; clear h8
 have hl10 : y.l.length ≤ 140737488355328 := (h9.sh.at 1 rfl).len
 refine wv h9 (r_len (s := y) (n := y.l.length) sl_24 rfl rfl (fun w h => (h.at 1 rfl)) rfl) rfl rfl fun a11 h11 => ?_; clear h9
 refine wv h11 (r_neqN (p := x.l.length) (q := y.l.length) rfl rfl rfl) rfl rfl fun a12 h12 => ?_; clear h11
 refine wpList_nil (hK5 _ _ ?_)
 refine x_cond h12 rfl (fun hb13 => ?_) (fun hb13 => ?_)
 ·
  have hp13 : x.l.length ≠ y.l.length := of_decide_eq_true hb13
  refine wp_seq_k fun K14 hK14 => wp_region_lit ?_
  refine wms 1 h12 rfl fun a15 h15 => ?_; clear h12
  refine wpList_nil (hK14 _ _ ?_)
  refine wp_ret ?_
  try simp only [Exit.then, Exit.inBlock]
  refine x_ret1 (fn := Try.f41) (t := 4) rfl h15 rfl ?_
  refine ⟨?_, (h15.sh.sel [] (by decide) trivial)⟩
  congr 1
  first | (exact (decide_eq_true (ext_nth _ _ (by omega) fun i hi => hall i (by omega))).symm) | (refine (decide_eq_false fun e => ?_).symm; simp_all)
 have hp13 : ¬ (x.l.length ≠ y.l.length) := of_decide_eq_false hb13
 refine wp_skip ?_
 refine hK4 _ _ ?_
 refine wp_seq_k fun K16 hK16 => ?_
 refine wp_seq_k fun K17 hK17 => wp_region_lit ?_
 refine wms 1 h12 rfl fun a18 h18 => ?_; clear h12
 refine wpList_nil (hK17 _ _ ?_)
 refine wp_block ?_
 refine x_loop (fun m a w => ∃ (k : Nat), (k ≤ x.l.length) ∧ (∀ j, j < k → nth x.l j = nth y.l j) ∧ St 26 (fun _ => False) W a w [(0, x.v), (1, y.v), (5, .int .i64 ((k : Nat) : Int))] [.at_ x, .at_ y] ∧ m = x.l.length - k) ⟨_, 0, (by omega), (fun j hj => absurd hj (by omega)), h18.nrm ⟨rfl, rfl, rfl, trivial⟩ [0, 1] (by decide) ⟨rfl, rfl, trivial⟩, rfl⟩ ?_
 clear h18
 rintro m19 a19 w19 ⟨k, hk, hall, h19, hm19⟩
 refine wp_seq_k fun K20 hK20 => ?_
 refine wp_seq_k fun K21 hK21 => wp_region_lit ?_
 refine wms 2 h19 rfl fun a22 h22 => ?_; clear h19
 refine wv h22 (r_len (s := x) (n := x.l.length) sl_24 rfl rfl (fun w h => (h.at 0 rfl)) rfl) rfl rfl fun a23 h23 => ?_; clear h22
 refine wv h23 (r_lssN (p := k) (q := x.l.length) rfl rfl rfl) rfl rfl fun a24 h24 => ?_; clear h23
 refine wpList_nil (hK21 _ _ ?_)
 refine x_cond h24 rfl (fun hb25 => ?_) (fun hb25 => ?_)
 ·
  have hp25 : k < x.l.length := of_decide_eq_true hb25
  refine wp_skip ?_
  refine hK20 _ _ ?_
  refine wp_seq_k fun K26 hK26 => ?_
  refine wp_block ?_
  refine wp_seq_k fun K27 hK27 => ?_
  refine x_quiet (by kernel_rfl) (by kernel_rfl) h24 fun Z28 hZ28 => ?_
  have hq28 := h24.fr
  refine wq_val hq28 (r_move rfl rfl) (wanted_none rfl _) rfl rfl fun a29 hq29 => ?_; clear hq28
  refine wq_val hq29 (r_move rfl rfl) (wanted_none rfl _) rfl rfl fun a30 hq30 => ?_; clear hq29
  refine wq_val hq30 (r_ixN (s := x) (q := k) sl_24 ti_3 rfl rfl rfl (fun w h => (h.at 0 rfl)) (show k < x.l.length from (by omega))) (wanted_none rfl _) rfl rfl fun a31 hq31 => ?_; clear hq30
  refine wq_val hq31 (r_lde (s := x) (i := k) (v := .int .i64 (nth x.l k)) ti_3 rfl rfl rfl (fun w h => (h.at 0 rfl)) (show k < x.l.length from (by omega)) (Nat.le_of_ble_eq_true rfl) rfl) (wanted_none rfl _) rfl rfl fun a32 hq32 => ?_; clear hq31
  refine wq_val hq32 (r_move rfl rfl) (wanted_none rfl _) rfl rfl fun a33 hq33 => ?_; clear hq32
  refine wq_val hq33 (r_move rfl rfl) (wanted_none rfl _) rfl rfl fun a34 hq34 => ?_; clear hq33
  refine wq_val hq34 (r_ixN (s := y) (q := k) sl_24 ti_3 rfl rfl rfl (fun w h => (h.at 1 rfl)) (show k < y.l.length from (by omega))) (wanted_none rfl _) rfl rfl fun a35 hq35 => ?_; clear hq34
  refine wq_val hq35 (r_lde (s := y) (i := k) (v := .int .i64 (nth y.l k)) ti_3 rfl rfl rfl (fun w h => (h.at 1 rfl)) (show k < y.l.length from (by omega)) (Nat.le_of_ble_eq_true rfl) rfl) (wanted_none rfl _) rfl rfl fun a36 hq36 => ?_; clear hq35
  refine wq_val hq36 (r_neqI (p := nth x.l k) (q := nth y.l k) rfl rfl rfl) (wanted_none rfl _) rfl rfl fun a37 hq37 => ?_; clear hq36
  refine wpQuiet_nil (hZ28 _ fun w38 hw38 => ?_)
  have h38 : St 26 (fun _ => False) W a37 w38 _ _ := ⟨hq37, hw38⟩
  clear hq37 hw38 h24
  refine hK27 _ _ ?_
  refine x_cond h38 rfl (fun hb39 => ?_) (fun hb39 => ?_)
  ·
   have hp39 : nth x.l k ≠ nth y.l k := of_decide_eq_true hb39
   refine wp_seq_k fun K40 hK40 => wp_region_lit ?_
   refine wms 1 h38 rfl fun a41 h41 => ?_; clear h38
   refine wpList_nil (hK40 _ _ ?_)
   refine wp_ret ?_
   try simp only [Exit.then, Exit.inBlock]
   refine x_ret1 (fn := Try.f41) (t := 4) rfl h41 rfl ?_
   refine ⟨?_, (h41.sh.sel [] (by decide) trivial)⟩
   congr 1
   first | (exact (decide_eq_true (ext_nth _ _ (by omega) fun i hi => hall i (by omega))).symm) | (refine (decide_eq_false fun e => ?_).symm; simp_all)
  have hp39 : ¬ (nth x.l k ≠ nth y.l k) := of_decide_eq_false hb39
  refine wp_skip ?_
  refine hK26 _ _ ?_
  refine wp_region_lit ?_
  refine wms 1 h38 rfl fun a42 h42 => ?_; clear h38
  refine wv h42 (r_addN (p := k) (q := 1) rfl rfl rfl (show k + 1 < 9223372036854775808 from (by omega))) rfl rfl fun a43 h43 => ?_; clear h42
  refine wms 1 h43 rfl fun a44 h44 => ?_; clear h43
  refine wpList_nil ?_
  refine x_again ⟨_, ?_, k + 1, ?_, ?_, h44.nrm ⟨rfl, rfl, rfl, trivial⟩ [0, 1] (by decide) ⟨rfl, rfl, trivial⟩, rfl⟩
  · rw [hm19]; first | omega | (simp only [lens9]; omega)
  · omega
  · intro j hj; rcases Nat.lt_or_ge j k with h | h; exact hall j h; obtain rfl : j = k := (by omega); simp_all
 have hp25 : ¬ (k < x.l.length) := of_decide_eq_false hb25
 refine wp_exit ?_
 refine hK16 _ _ ?_
 refine wp_seq_k fun K45 hK45 => wp_region_lit ?_
 refine wms 1 h24 rfl fun a46 h46 => ?_; clear h24
 refine wpList_nil (hK45 _ _ ?_)
 refine wp_ret ?_
 try simp only [Exit.then, Exit.inBlock]
 refine x_ret1 (fn := Try.f41) (t := 4) rfl h46 rfl ?_
 refine ⟨?_, (h46.sh.sel [] (by decide) trivial)⟩
 congr 1
 first | (exact (decide_eq_true (ext_nth _ _ (by omega) fun i hi => hall i (by omega))).symm) | (refine (decide_eq_false fun e => ?_).symm; simp_all)

set_option maxRecDepth 100000 in
set_option maxHeartbeats 2000000 in
theorem same_c (code : Ls (Ls Ins)) (words : Ls Int) (locks regs : Int) (code2 : Ls (Ls Ins)) (words2 : Ls Int) (locks2 regs2 : Int) (W : World) (hc : code.At W) (hw : words.At W) (hc2 : code2.At W) (hw2 : words2.At W) :
    Rets Try.prog 29 [.agg #[code.v, words.v, .int .i64 locks, .int .i64 regs], .agg #[code2.v, words2.v, .int .i64 locks2, .int .i64 regs2]] W (fun v w' => v = .bool (decide (pgOf code words locks regs = pgOf code2 words2 locks2 regs2)) ∧ Sh0 W w' []) := by
 refine x_enter (N := 112) Try.func29 rfl Try.ntmps29 (Nat.le_of_ble_eq_true rfl) fun a1 hf1 => ?_
 have h1 : St 112 (fun _ => False) W a1 W [(0, .agg #[code.v, words.v, .int .i64 locks, .int .i64 regs]), (1, .agg #[code2.v, words2.v, .int .i64 locks2, .int .i64 regs2])] [.at_ code, .at_ words, .at_ code2, .at_ words2] := ⟨hf1.sub ⟨rfl, rfl, trivial⟩, Sh0.ext4 hc hw hc2 hw2⟩
 clear hf1
 refine wp_seq_k fun K2 hK2 => wp_region_lit ?_
 refine wl_ex (x_box (cs := [code.v, words.v, .int .i64 locks, .int .i64 regs]) h1 rfl rfl rfl rfl rfl) (wanted_none rfl _) ?_
 rintro a3 w3 ⟨b3, h3⟩; clear h1
 refine wl_ex (x_box (cs := [code2.v, words2.v, .int .i64 locks2, .int .i64 regs2]) h3 rfl rfl rfl rfl rfl) (wanted_none rfl _) ?_
 rintro a4 w4 ⟨b4, h4⟩; clear h3
 refine wms 1 h4 rfl fun a5 h5 => ?_; clear h4
 refine wpList_nil (hK2 _ _ ?_)
 refine wp_seq_k fun K6 hK6 => wp_region_lit ?_
 refine wv h5 (r_fieldB (r := 1) fl_28_1 rfl rfl rfl) rfl rfl fun a7 h7 => ?_; clear h5
 refine wv h7 (r_ldb (i := 1) ti_24 rfl rfl rfl rfl) rfl rfl fun a8 h8 => ?_; clear h7
 refine wv h8 (r_fieldB (r := 1) fl_28_1 rfl rfl rfl) rfl rfl fun a9 h9 => ?_; clear h8
 refine wv h9 (r_ldb (i := 0) ti_24 rfl rfl rfl rfl) rfl rfl fun a10 h10 => ?_; clear h9
 refine wl_ex (x_call h10 bd_41 rfl rfl rfl rfl rfl (ints_c words words2 _ (h10.sh.at 3 rfl) (h10.sh.at 5 rfl))) (wanted_none rfl _) ?_
 rintro a11 w11 ⟨_, ⟨rfl, hs11⟩, hf11⟩
 have h11 : St 112 (fun _ => False) W a11 w11 _ _ := ⟨hf11, h10.sh.call0 hs11⟩
 clear hf11 hs11
 clear h10
 refine wms 1 h11 rfl fun a12 h12 => ?_; clear h11
 refine wpList_nil (hK6 _ _ ?_)
 refine wp_seq_k fun K13 hK13 => ?_
 refine wp_seq_k fun K14 hK14 => wp_region_lit ?_
 refine wms 1 h12 rfl fun a15 h15 => ?_; clear h12
 refine wv h15 (r_not rfl rfl) rfl rfl fun a16 h16 => ?_; clear h15
 refine wms 1 h16 rfl fun a17 h17 => ?_; clear h16
 rcases Bool.eq_false_or_eq_true (!(decide (words.l = words2.l))) with hb18 | hb18
 ·
  have hp18 : ¬ (words.l = words2.l) := by simpa using hb18
  refine wl_skip h17 (wanted_no h17.fr rfl rfl rfl rfl hb18) rfl rfl fun a19 h19 => ?_; clear h17
  refine wl_skip h19 (wanted_no h19.fr rfl rfl rfl rfl hb18) rfl rfl fun a20 h20 => ?_; clear h19
  refine wl_skip h20 (wanted_no h20.fr rfl rfl rfl rfl hb18) rfl rfl fun a21 h21 => ?_; clear h20
  refine wl_skip h21 (wanted_no h21.fr rfl rfl rfl rfl hb18) rfl rfl fun a22 h22 => ?_; clear h21
  refine wl_skip h22 (wanted_no h22.fr rfl rfl rfl rfl hb18) rfl rfl fun a23 h23 => ?_; clear h22
  refine wv h23 (r_pickT rfl rfl hb18 rfl) rfl rfl fun a24 h24 => ?_; clear h23
  refine wms 1 h24 rfl fun a25 h25 => ?_; clear h24
  refine wl_skip h25 (wanted_no h25.fr rfl rfl rfl rfl rfl) rfl rfl fun a26 h26 => ?_; clear h25
  refine wl_skip h26 (wanted_no h26.fr rfl rfl rfl rfl rfl) rfl rfl fun a27 h27 => ?_; clear h26
  refine wl_skip h27 (wanted_no h27.fr rfl rfl rfl rfl rfl) rfl rfl fun a28 h28 => ?_; clear h27
  refine wl_skip h28 (wanted_no h28.fr rfl rfl rfl rfl rfl) rfl rfl fun a29 h29 => ?_; clear h28
  refine wl_skip h29 (wanted_no h29.fr rfl rfl rfl rfl rfl) rfl rfl fun a30 h30 => ?_; clear h29
  refine wv h30 (r_pickT rfl rfl rfl rfl) rfl rfl fun a31 h31 => ?_; clear h30
  refine wms 1 h31 rfl fun a32 h32 => ?_; clear h31
  refine wl_skip h32 (wanted_no h32.fr rfl rfl rfl rfl rfl) rfl rfl fun a33 h33 => ?_; clear h32
  refine wl_skip h33 (wanted_no h33.fr rfl rfl rfl rfl rfl) rfl rfl fun a34 h34 => ?_; clear h33
  refine wl_skip h34 (wanted_no h34.fr rfl rfl rfl rfl rfl) rfl rfl fun a35 h35 => ?_; clear h34
  refine wl_skip h35 (wanted_no h35.fr rfl rfl rfl rfl rfl) rfl rfl fun a36 h36 => ?_; clear h35
  refine wl_skip h36 (wanted_no h36.fr rfl rfl rfl rfl rfl) rfl rfl fun a37 h37 => ?_; clear h36
  refine wl_skip h37 (wanted_no h37.fr rfl rfl rfl rfl rfl) rfl rfl fun a38 h38 => ?_; clear h37
  refine wl_skip h38 (wanted_no h38.fr rfl rfl rfl rfl rfl) rfl rfl fun a39 h39 => ?_; clear h38
  refine wv h39 (r_pickT rfl rfl rfl rfl) rfl rfl fun a40 h40 => ?_; clear h39
  refine wpList_nil (hK14 _ _ ?_)
  have h41 : St 112 (fun _ => False) W a40 w11 [(2, .pointer (some ⟨b3, 0, none⟩)), (3, .pointer (some ⟨b4, 0, none⟩)), (39, .bool true)] [.blk b4 28 [code2.v, words2.v, .int .i64 locks2, .int .i64 regs2], .blk b3 28 [code.v, words.v, .int .i64 locks, .int .i64 regs], .at_ code, .at_ words, .at_ code2, .at_ words2] := h40.nrm ⟨rfl, rfl, rfl, trivial⟩ [0, 1, 2, 3, 4, 5] (by decide) ⟨rfl, rfl, rfl, rfl, rfl, rfl, trivial⟩
  clear h40
  refine x_condT h41 rfl rfl ?_
  refine wp_seq_k fun K42 hK42 => wp_region_lit ?_
  refine wms 1 h41 rfl fun a43 h43 => ?_; clear h41
  refine wpList_nil (hK42 _ _ ?_)
  refine wp_ret ?_
  try simp only [Exit.then, Exit.inBlock]
  refine x_ret1 (fn := Try.f29) (t := 4) rfl h43 rfl ?_
  refine ⟨?_, (h43.sh.sel [] (by decide) trivial)⟩
  congr 1
  first | (refine (decide_eq_true (pg_eq (by assumption) (by omega) (by omega) (by omega) fun j hj => hall j (by omega))).symm; done) | (refine (decide_eq_false fun e => ?_).symm; have e1 := pg_words e; have e2 := pg_locks e; have e3 := pg_regs e; have e4 := pg_len e; first | exact absurd e1 (by assumption) | omega | (have e5 := pg_code e t (by omega); have e6 := congrArg List.length e5; omega) | (have e7 : nth (nth code.l t).l i = nth (nth code2.l t).l i := (by rw [pg_code e t (by omega)]); have e8 := congrArg Ins.op e7; have e9 := congrArg Ins.a e7; have e10 := congrArg Ins.b e7; have e11 := congrArg Ins.c e7; omega))
 have hp18 : words.l = words2.l := by simpa using hb18
 refine wl_val h17 (r_fieldB (r := 2) fl_28_2 rfl rfl rfl) (wanted_yes h17.fr rfl rfl rfl rfl hb18) rfl rfl fun a44 h44 => ?_; clear h17
 refine wl_val h44 (r_ldb (i := 1) ti_3 rfl rfl rfl rfl) (wanted_yes h44.fr rfl rfl rfl rfl hb18) rfl rfl fun a45 h45 => ?_; clear h44
 refine wl_val h45 (r_fieldB (r := 2) fl_28_2 rfl rfl rfl) (wanted_yes h45.fr rfl rfl rfl rfl hb18) rfl rfl fun a46 h46 => ?_; clear h45
 refine wl_val h46 (r_ldb (i := 0) ti_3 rfl rfl rfl rfl) (wanted_yes h46.fr rfl rfl rfl rfl hb18) rfl rfl fun a47 h47 => ?_; clear h46
 refine wl_val h47 (r_neqI (p := locks) (q := locks2) rfl rfl rfl) (wanted_yes h47.fr rfl rfl rfl rfl hb18) rfl rfl fun a48 h48 => ?_; clear h47
 refine wv h48 (r_pickF rfl rfl hb18 rfl) rfl rfl fun a49 h49 => ?_; clear h48
 refine wms 1 h49 rfl fun a50 h50 => ?_; clear h49
 rcases Bool.eq_false_or_eq_true (decide (locks ≠ locks2)) with hb51 | hb51
 ·
  have hp51 : locks ≠ locks2 := of_decide_eq_true hb51
  refine wl_skip h50 (wanted_no h50.fr rfl rfl rfl rfl hb51) rfl rfl fun a52 h52 => ?_; clear h50
  refine wl_skip h52 (wanted_no h52.fr rfl rfl rfl rfl hb51) rfl rfl fun a53 h53 => ?_; clear h52
  refine wl_skip h53 (wanted_no h53.fr rfl rfl rfl rfl hb51) rfl rfl fun a54 h54 => ?_; clear h53
  refine wl_skip h54 (wanted_no h54.fr rfl rfl rfl rfl hb51) rfl rfl fun a55 h55 => ?_; clear h54
  refine wl_skip h55 (wanted_no h55.fr rfl rfl rfl rfl hb51) rfl rfl fun a56 h56 => ?_; clear h55
  refine wv h56 (r_pickT rfl rfl hb51 rfl) rfl rfl fun a57 h57 => ?_; clear h56
  refine wms 1 h57 rfl fun a58 h58 => ?_; clear h57
  refine wl_skip h58 (wanted_no h58.fr rfl rfl rfl rfl rfl) rfl rfl fun a59 h59 => ?_; clear h58
  refine wl_skip h59 (wanted_no h59.fr rfl rfl rfl rfl rfl) rfl rfl fun a60 h60 => ?_; clear h59
  refine wl_skip h60 (wanted_no h60.fr rfl rfl rfl rfl rfl) rfl rfl fun a61 h61 => ?_; clear h60
  refine wl_skip h61 (wanted_no h61.fr rfl rfl rfl rfl rfl) rfl rfl fun a62 h62 => ?_; clear h61
  refine wl_skip h62 (wanted_no h62.fr rfl rfl rfl rfl rfl) rfl rfl fun a63 h63 => ?_; clear h62
  refine wl_skip h63 (wanted_no h63.fr rfl rfl rfl rfl rfl) rfl rfl fun a64 h64 => ?_; clear h63
  refine wl_skip h64 (wanted_no h64.fr rfl rfl rfl rfl rfl) rfl rfl fun a65 h65 => ?_; clear h64
  refine wv h65 (r_pickT rfl rfl rfl rfl) rfl rfl fun a66 h66 => ?_; clear h65
  refine wpList_nil (hK14 _ _ ?_)
  have h67 : St 112 (fun _ => False) W a66 w11 [(2, .pointer (some ⟨b3, 0, none⟩)), (3, .pointer (some ⟨b4, 0, none⟩)), (39, .bool true)] [.blk b4 28 [code2.v, words2.v, .int .i64 locks2, .int .i64 regs2], .blk b3 28 [code.v, words.v, .int .i64 locks, .int .i64 regs], .at_ code, .at_ words, .at_ code2, .at_ words2] := h66.nrm ⟨rfl, rfl, rfl, trivial⟩ [0, 1, 2, 3, 4, 5] (by decide) ⟨rfl, rfl, rfl, rfl, rfl, rfl, trivial⟩
  clear h66
  refine x_condT h67 rfl rfl ?_
  refine wp_seq_k fun K68 hK68 => wp_region_lit ?_
  refine wms 1 h67 rfl fun a69 h69 => ?_; clear h67
  refine wpList_nil (hK68 _ _ ?_)
  refine wp_ret ?_
  try simp only [Exit.then, Exit.inBlock]
  refine x_ret1 (fn := Try.f29) (t := 4) rfl h69 rfl ?_
  refine ⟨?_, (h69.sh.sel [] (by decide) trivial)⟩
  congr 1
  first | (refine (decide_eq_true (pg_eq (by assumption) (by omega) (by omega) (by omega) fun j hj => hall j (by omega))).symm; done) | (refine (decide_eq_false fun e => ?_).symm; have e1 := pg_words e; have e2 := pg_locks e; have e3 := pg_regs e; have e4 := pg_len e; first | exact absurd e1 (by assumption) | omega | (have e5 := pg_code e t (by omega); have e6 := congrArg List.length e5; omega) | (have e7 : nth (nth code.l t).l i = nth (nth code2.l t).l i := (by rw [pg_code e t (by omega)]); have e8 := congrArg Ins.op e7; have e9 := congrArg Ins.a e7; have e10 := congrArg Ins.b e7; have e11 := congrArg Ins.c e7; omega))
 have hp51 : ¬ (locks ≠ locks2) := of_decide_eq_false hb51
 refine wl_val h50 (r_fieldB (r := 3) fl_28_3 rfl rfl rfl) (wanted_yes h50.fr rfl rfl rfl rfl hb51) rfl rfl fun a70 h70 => ?_; clear h50
 refine wl_val h70 (r_ldb (i := 1) ti_3 rfl rfl rfl rfl) (wanted_yes h70.fr rfl rfl rfl rfl hb51) rfl rfl fun a71 h71 => ?_; clear h70
 refine wl_val h71 (r_fieldB (r := 3) fl_28_3 rfl rfl rfl) (wanted_yes h71.fr rfl rfl rfl rfl hb51) rfl rfl fun a72 h72 => ?_; clear h71
 refine wl_val h72 (r_ldb (i := 0) ti_3 rfl rfl rfl rfl) (wanted_yes h72.fr rfl rfl rfl rfl hb51) rfl rfl fun a73 h73 => ?_; clear h72
 refine wl_val h73 (r_neqI (p := regs) (q := regs2) rfl rfl rfl) (wanted_yes h73.fr rfl rfl rfl rfl hb51) rfl rfl fun a74 h74 => ?_; clear h73
 refine wv h74 (r_pickF rfl rfl hb51 rfl) rfl rfl fun a75 h75 => ?_; clear h74
 refine wms 1 h75 rfl fun a76 h76 => ?_; clear h75
 rcases Bool.eq_false_or_eq_true (decide (regs ≠ regs2)) with hb77 | hb77
 ·
  have hp77 : regs ≠ regs2 := of_decide_eq_true hb77
  refine wl_skip h76 (wanted_no h76.fr rfl rfl rfl rfl hb77) rfl rfl fun a78 h78 => ?_; clear h76
  refine wl_skip h78 (wanted_no h78.fr rfl rfl rfl rfl hb77) rfl rfl fun a79 h79 => ?_; clear h78
  refine wl_skip h79 (wanted_no h79.fr rfl rfl rfl rfl hb77) rfl rfl fun a80 h80 => ?_; clear h79
  refine wl_skip h80 (wanted_no h80.fr rfl rfl rfl rfl hb77) rfl rfl fun a81 h81 => ?_; clear h80
  refine wl_skip h81 (wanted_no h81.fr rfl rfl rfl rfl hb77) rfl rfl fun a82 h82 => ?_; clear h81
  refine wl_skip h82 (wanted_no h82.fr rfl rfl rfl rfl hb77) rfl rfl fun a83 h83 => ?_; clear h82
  refine wl_skip h83 (wanted_no h83.fr rfl rfl rfl rfl hb77) rfl rfl fun a84 h84 => ?_; clear h83
  refine wv h84 (r_pickT rfl rfl hb77 rfl) rfl rfl fun a85 h85 => ?_; clear h84
  refine wpList_nil (hK14 _ _ ?_)
  have h86 : St 112 (fun _ => False) W a85 w11 [(2, .pointer (some ⟨b3, 0, none⟩)), (3, .pointer (some ⟨b4, 0, none⟩)), (39, .bool true)] [.blk b4 28 [code2.v, words2.v, .int .i64 locks2, .int .i64 regs2], .blk b3 28 [code.v, words.v, .int .i64 locks, .int .i64 regs], .at_ code, .at_ words, .at_ code2, .at_ words2] := h85.nrm ⟨rfl, rfl, rfl, trivial⟩ [0, 1, 2, 3, 4, 5] (by decide) ⟨rfl, rfl, rfl, rfl, rfl, rfl, trivial⟩
  clear h85
  refine x_condT h86 rfl rfl ?_
  refine wp_seq_k fun K87 hK87 => wp_region_lit ?_
  refine wms 1 h86 rfl fun a88 h88 => ?_; clear h86
  refine wpList_nil (hK87 _ _ ?_)
  refine wp_ret ?_
  try simp only [Exit.then, Exit.inBlock]
  refine x_ret1 (fn := Try.f29) (t := 4) rfl h88 rfl ?_
  refine ⟨?_, (h88.sh.sel [] (by decide) trivial)⟩
  congr 1
  first | (refine (decide_eq_true (pg_eq (by assumption) (by omega) (by omega) (by omega) fun j hj => hall j (by omega))).symm; done) | (refine (decide_eq_false fun e => ?_).symm; have e1 := pg_words e; have e2 := pg_locks e; have e3 := pg_regs e; have e4 := pg_len e; first | exact absurd e1 (by assumption) | omega | (have e5 := pg_code e t (by omega); have e6 := congrArg List.length e5; omega) | (have e7 : nth (nth code.l t).l i = nth (nth code2.l t).l i := (by rw [pg_code e t (by omega)]); have e8 := congrArg Ins.op e7; have e9 := congrArg Ins.a e7; have e10 := congrArg Ins.b e7; have e11 := congrArg Ins.c e7; omega))
 have hp77 : ¬ (regs ≠ regs2) := of_decide_eq_false hb77
 refine wl_val h76 (r_fieldB (r := 0) fl_28_0 rfl rfl rfl) (wanted_yes h76.fr rfl rfl rfl rfl hb77) rfl rfl fun a89 h89 => ?_; clear h76
 refine wl_val h89 (r_ldb (i := 1) ti_26 rfl rfl rfl rfl) (wanted_yes h89.fr rfl rfl rfl rfl hb77) rfl rfl fun a90 h90 => ?_; clear h89
 have hl91 : code.l.length ≤ 140737488355328 := (h90.sh.at 2 rfl).len
 refine wl_val h90 (r_len (s := code) (n := code.l.length) sl_26 rfl rfl (fun w h => (h.at 2 rfl)) rfl) (wanted_yes h90.fr rfl rfl rfl rfl hb77) rfl rfl fun a92 h92 => ?_; clear h90
 refine wl_val h92 (r_fieldB (r := 0) fl_28_0 rfl rfl rfl) (wanted_yes h92.fr rfl rfl rfl rfl hb77) rfl rfl fun a93 h93 => ?_; clear h92
 refine wl_val h93 (r_ldb (i := 0) ti_26 rfl rfl rfl rfl) (wanted_yes h93.fr rfl rfl rfl rfl hb77) rfl rfl fun a94 h94 => ?_; clear h93
 have hl95 : code2.l.length ≤ 140737488355328 := (h94.sh.at 4 rfl).len
 refine wl_val h94 (r_len (s := code2) (n := code2.l.length) sl_26 rfl rfl (fun w h => (h.at 4 rfl)) rfl) (wanted_yes h94.fr rfl rfl rfl rfl hb77) rfl rfl fun a96 h96 => ?_; clear h94
 refine wl_val h96 (r_neqN (p := code.l.length) (q := code2.l.length) rfl rfl rfl) (wanted_yes h96.fr rfl rfl rfl rfl hb77) rfl rfl fun a97 h97 => ?_; clear h96
 refine wv h97 (r_pickF rfl rfl hb77 rfl) rfl rfl fun a98 h98 => ?_; clear h97
 refine wpList_nil (hK14 _ _ ?_)
 have h99 : St 112 (fun _ => False) W a98 w11 [(2, .pointer (some ⟨b3, 0, none⟩)), (3, .pointer (some ⟨b4, 0, none⟩)), (39, .bool (decide (code.l.length ≠ code2.l.length)))] [.blk b4 28 [code2.v, words2.v, .int .i64 locks2, .int .i64 regs2], .blk b3 28 [code.v, words.v, .int .i64 locks, .int .i64 regs], .at_ code, .at_ words, .at_ code2, .at_ words2] := h98.nrm ⟨rfl, rfl, rfl, trivial⟩ [0, 1, 2, 3, 4, 5] (by decide) ⟨rfl, rfl, rfl, rfl, rfl, rfl, trivial⟩
 clear h98
 refine x_cond h99 rfl (fun hb100 => ?_) (fun hb100 => ?_)
 ·
  have hp100 : code.l.length ≠ code2.l.length := of_decide_eq_true hb100
  refine wp_seq_k fun K101 hK101 => wp_region_lit ?_
  refine wms 1 h99 rfl fun a102 h102 => ?_; clear h99
  refine wpList_nil (hK101 _ _ ?_)
  refine wp_ret ?_
  try simp only [Exit.then, Exit.inBlock]
  refine x_ret1 (fn := Try.f29) (t := 4) rfl h102 rfl ?_
  refine ⟨?_, (h102.sh.sel [] (by decide) trivial)⟩
  congr 1
  first | (refine (decide_eq_true (pg_eq (by assumption) (by omega) (by omega) (by omega) fun j hj => hall j (by omega))).symm; done) | (refine (decide_eq_false fun e => ?_).symm; have e1 := pg_words e; have e2 := pg_locks e; have e3 := pg_regs e; have e4 := pg_len e; first | exact absurd e1 (by assumption) | omega | (have e5 := pg_code e t (by omega); have e6 := congrArg List.length e5; omega) | (have e7 : nth (nth code.l t).l i = nth (nth code2.l t).l i := (by rw [pg_code e t (by omega)]); have e8 := congrArg Ins.op e7; have e9 := congrArg Ins.a e7; have e10 := congrArg Ins.b e7; have e11 := congrArg Ins.c e7; omega))
 have hp100 : ¬ (code.l.length ≠ code2.l.length) := of_decide_eq_false hb100
 refine wp_skip ?_
 refine hK13 _ _ ?_
 refine wp_seq_k fun K103 hK103 => ?_
 refine wp_seq_k fun K104 hK104 => wp_region_lit ?_
 refine wms 1 h99 rfl fun a105 h105 => ?_; clear h99
 refine wpList_nil (hK104 _ _ ?_)
 refine wp_block ?_
 refine x_loop (fun m a w => ∃ (t : Nat), (t ≤ code.l.length) ∧ (∀ j, j < t → (nth code.l j).l = (nth code2.l j).l) ∧ St 112 (fun _ => False) W a w [(2, .pointer (some ⟨b3, 0, none⟩)), (3, .pointer (some ⟨b4, 0, none⟩)), (6, .int .i64 ((t : Nat) : Int))] [.blk b4 28 [code2.v, words2.v, .int .i64 locks2, .int .i64 regs2], .blk b3 28 [code.v, words.v, .int .i64 locks, .int .i64 regs], .at_ code, .at_ words, .at_ code2, .at_ words2] ∧ m = code.l.length - t) ⟨_, 0, (by omega), (fun j hj => absurd hj (by omega)), h105.nrm ⟨rfl, rfl, rfl, trivial⟩ [0, 1, 2, 3, 4, 5] (by decide) ⟨rfl, rfl, rfl, rfl, rfl, rfl, trivial⟩, rfl⟩ ?_
 clear h105
 rintro m106 a106 w106 ⟨t, ht, hall, h106, hm106⟩
 refine wp_seq_k fun K107 hK107 => ?_
 refine wp_seq_k fun K108 hK108 => wp_region_lit ?_
 refine wms 1 h106 rfl fun a109 h109 => ?_; clear h106
 refine wv h109 (r_fieldB (r := 0) fl_28_0 rfl rfl rfl) rfl rfl fun a110 h110 => ?_; clear h109
 refine wv h110 (r_ldb (i := 1) ti_26 rfl rfl rfl rfl) rfl rfl fun a111 h111 => ?_; clear h110
 refine wv h111 (r_len (s := code) (n := code.l.length) sl_26 rfl rfl (fun w h => (h.at 2 rfl)) rfl) rfl rfl fun a112 h112 => ?_; clear h111
 refine wv h112 (r_lssN (p := t) (q := code.l.length) rfl rfl rfl) rfl rfl fun a113 h113 => ?_; clear h112
 refine wpList_nil (hK108 _ _ ?_)
 refine x_cond h113 rfl (fun hb114 => ?_) (fun hb114 => ?_)
 ·
  have hp114 : t < code.l.length := of_decide_eq_true hb114
  refine wp_skip ?_
  refine hK107 _ _ ?_
  refine wp_seq_k fun K115 hK115 => ?_
  refine wp_block ?_
  refine wp_seq_k fun K116 hK116 => ?_
  refine wp_seq_k fun K117 hK117 => ?_
  refine x_quiet (by kernel_rfl) (by kernel_rfl) h113 fun Z118 hZ118 => ?_
  have hq118 := h113.fr
  refine wq_val hq118 (r_fieldB (r := 0) fl_28_0 rfl rfl rfl) (wanted_none rfl _) rfl rfl fun a119 hq119 => ?_; clear hq118
  refine wq_val hq119 (r_ldb (i := 1) ti_26 rfl rfl rfl rfl) (wanted_none rfl _) rfl rfl fun a120 hq120 => ?_; clear hq119
  refine wq_val hq120 (r_move rfl rfl) (wanted_none rfl _) rfl rfl fun a121 hq121 => ?_; clear hq120
  refine wq_val hq121 (r_ixN (s := code) (q := t) sl_26 ti_64 rfl rfl rfl (fun w h => (h.at 2 rfl)) (show t < code.l.length from (by omega))) (wanted_none rfl _) rfl rfl fun a122 hq122 => ?_; clear hq121
  refine wq_val hq122 (r_lde (s := code) (i := t) (v := (nth code.l t).v) ti_64 rfl rfl rfl (fun w h => (h.at 2 rfl)) (show t < code.l.length from (by omega)) (Nat.le_of_ble_eq_true rfl) rfl) (wanted_none rfl _) rfl rfl fun a123 hq123 => ?_; clear hq122
  have hl124 : ((nth code.l t).l).length ≤ 140737488355328 := ((h113.sh.at 2 rfl).nth t (show t < code.l.length from (by omega))).len
  refine wq_val hq123 (r_len (s := nth code.l t) (n := ((nth code.l t).l).length) sl_64 rfl rfl (fun w h => ((h.at 2 rfl).nth t (show t < code.l.length from (by omega)))) rfl) (wanted_none rfl _) rfl rfl fun a125 hq125 => ?_; clear hq123
  refine wq_val hq125 (r_fieldB (r := 0) fl_28_0 rfl rfl rfl) (wanted_none rfl _) rfl rfl fun a126 hq126 => ?_; clear hq125
  refine wq_val hq126 (r_ldb (i := 0) ti_26 rfl rfl rfl rfl) (wanted_none rfl _) rfl rfl fun a127 hq127 => ?_; clear hq126
  refine wq_val hq127 (r_move rfl rfl) (wanted_none rfl _) rfl rfl fun a128 hq128 => ?_; clear hq127
  refine wq_val hq128 (r_ixN (s := code2) (q := t) sl_26 ti_64 rfl rfl rfl (fun w h => (h.at 4 rfl)) (show t < code2.l.length from (by omega))) (wanted_none rfl _) rfl rfl fun a129 hq129 => ?_; clear hq128
  refine wq_val hq129 (r_lde (s := code2) (i := t) (v := (nth code2.l t).v) ti_64 rfl rfl rfl (fun w h => (h.at 4 rfl)) (show t < code2.l.length from (by omega)) (Nat.le_of_ble_eq_true rfl) rfl) (wanted_none rfl _) rfl rfl fun a130 hq130 => ?_; clear hq129
  have hl131 : ((nth code2.l t).l).length ≤ 140737488355328 := ((h113.sh.at 4 rfl).nth t (show t < code2.l.length from (by omega))).len
  refine wq_val hq130 (r_len (s := nth code2.l t) (n := ((nth code2.l t).l).length) sl_64 rfl rfl (fun w h => ((h.at 4 rfl).nth t (show t < code2.l.length from (by omega)))) rfl) (wanted_none rfl _) rfl rfl fun a132 hq132 => ?_; clear hq130
  refine wq_val hq132 (r_neqN (p := ((nth code.l t).l).length) (q := ((nth code2.l t).l).length) rfl rfl rfl) (wanted_none rfl _) rfl rfl fun a133 hq133 => ?_; clear hq132
  refine wpQuiet_nil (hZ118 _ fun w134 hw134 => ?_)
  have h134 : St 112 (fun _ => False) W a133 w134 _ _ := ⟨hq133, hw134⟩
  clear hq133 hw134 h113
  refine hK117 _ _ ?_
  refine x_cond h134 rfl (fun hb135 => ?_) (fun hb135 => ?_)
  ·
   have hp135 : ((nth code.l t).l).length ≠ ((nth code2.l t).l).length := of_decide_eq_true hb135
   refine wp_seq_k fun K136 hK136 => wp_region_lit ?_
   refine wms 1 h134 rfl fun a137 h137 => ?_; clear h134
   refine wpList_nil (hK136 _ _ ?_)
   refine wp_ret ?_
   try simp only [Exit.then, Exit.inBlock]
   refine x_ret1 (fn := Try.f29) (t := 4) rfl h137 rfl ?_
   refine ⟨?_, (h137.sh.sel [] (by decide) trivial)⟩
   congr 1
   first | (refine (decide_eq_true (pg_eq (by assumption) (by omega) (by omega) (by omega) fun j hj => hall j (by omega))).symm; done) | (refine (decide_eq_false fun e => ?_).symm; have e1 := pg_words e; have e2 := pg_locks e; have e3 := pg_regs e; have e4 := pg_len e; first | exact absurd e1 (by assumption) | omega | (have e5 := pg_code e t (by omega); have e6 := congrArg List.length e5; omega) | (have e7 : nth (nth code.l t).l i = nth (nth code2.l t).l i := (by rw [pg_code e t (by omega)]); have e8 := congrArg Ins.op e7; have e9 := congrArg Ins.a e7; have e10 := congrArg Ins.b e7; have e11 := congrArg Ins.c e7; omega))
  have hp135 : ¬ (((nth code.l t).l).length ≠ ((nth code2.l t).l).length) := of_decide_eq_false hb135
  refine wp_skip ?_
  refine hK116 _ _ ?_
  refine wp_seq_k fun K138 hK138 => wp_region_lit ?_
  refine wms 1 h134 rfl fun a139 h139 => ?_; clear h134
  refine wpList_nil (hK138 _ _ ?_)
  refine wp_block ?_
  refine x_loop (fun m a w => ∃ (i : Nat), (i ≤ (nth code.l t).l.length) ∧ (∀ j, j < i → nth (nth code.l t).l j = nth (nth code2.l t).l j) ∧ St 112 (fun _ => False) W a w [(2, .pointer (some ⟨b3, 0, none⟩)), (3, .pointer (some ⟨b4, 0, none⟩)), (6, .int .i64 ((t : Nat) : Int)), (7, .int .i64 ((i : Nat) : Int))] [.blk b4 28 [code2.v, words2.v, .int .i64 locks2, .int .i64 regs2], .blk b3 28 [code.v, words.v, .int .i64 locks, .int .i64 regs], .at_ code, .at_ words, .at_ code2, .at_ words2] ∧ m = (nth code.l t).l.length - i) ⟨_, 0, (by omega), (fun j hj => absurd hj (by omega)), h139.nrm ⟨rfl, rfl, rfl, rfl, trivial⟩ [0, 1, 2, 3, 4, 5] (by decide) ⟨rfl, rfl, rfl, rfl, rfl, rfl, trivial⟩, rfl⟩ ?_
  clear h139
  rintro m140 a140 w140 ⟨i, hi, hin, h140, hm140⟩
  refine wp_seq_k fun K141 hK141 => ?_
  refine wp_seq_k fun K142 hK142 => wp_region_lit ?_
  refine wms 1 h140 rfl fun a143 h143 => ?_; clear h140
  refine wv h143 (r_fieldB (r := 0) fl_28_0 rfl rfl rfl) rfl rfl fun a144 h144 => ?_; clear h143
  refine wv h144 (r_ldb (i := 1) ti_26 rfl rfl rfl rfl) rfl rfl fun a145 h145 => ?_; clear h144
  refine wms 1 h145 rfl fun a146 h146 => ?_; clear h145
  refine wv h146 (r_ixN (s := code) (q := t) sl_26 ti_64 rfl rfl rfl (fun w h => (h.at 2 rfl)) (show t < code.l.length from (by omega))) rfl rfl fun a147 h147 => ?_; clear h146
  refine wv h147 (r_lde (s := code) (i := t) (v := (nth code.l t).v) ti_64 rfl rfl rfl (fun w h => (h.at 2 rfl)) (show t < code.l.length from (by omega)) (Nat.le_of_ble_eq_true rfl) rfl) rfl rfl fun a148 h148 => ?_; clear h147
  refine wv h148 (r_len (s := nth code.l t) (n := ((nth code.l t).l).length) sl_64 rfl rfl (fun w h => ((h.at 2 rfl).nth t (show t < code.l.length from (by omega)))) rfl) rfl rfl fun a149 h149 => ?_; clear h148
  refine wv h149 (r_lssN (p := i) (q := ((nth code.l t).l).length) rfl rfl rfl) rfl rfl fun a150 h150 => ?_; clear h149
  refine wpList_nil (hK142 _ _ ?_)
  refine x_cond h150 rfl (fun hb151 => ?_) (fun hb151 => ?_)
  ·
   have hp151 : i < ((nth code.l t).l).length := of_decide_eq_true hb151
   refine wp_skip ?_
   refine hK141 _ _ ?_
   refine wp_seq_k fun K152 hK152 => ?_
   refine wp_block ?_
   refine wp_seq_k fun K153 hK153 => wp_region_lit ?_
   refine wv h150 (r_fieldB (r := 0) fl_28_0 rfl rfl rfl) rfl rfl fun a154 h154 => ?_; clear h150
   refine wv h154 (r_ldb (i := 1) ti_26 rfl rfl rfl rfl) rfl rfl fun a155 h155 => ?_; clear h154
   refine wms 1 h155 rfl fun a156 h156 => ?_; clear h155
   refine wv h156 (r_ixN (s := code) (q := t) sl_26 ti_64 rfl rfl rfl (fun w h => (h.at 2 rfl)) (show t < code.l.length from (by omega))) rfl rfl fun a157 h157 => ?_; clear h156
   refine wv h157 (r_lde (s := code) (i := t) (v := (nth code.l t).v) ti_64 rfl rfl rfl (fun w h => (h.at 2 rfl)) (show t < code.l.length from (by omega)) (Nat.le_of_ble_eq_true rfl) rfl) rfl rfl fun a158 h158 => ?_; clear h157
   refine wms 1 h158 rfl fun a159 h159 => ?_; clear h158
   refine wv h159 (r_ixN (s := nth code.l t) (q := i) sl_64 ti_73 rfl rfl rfl (fun w h => ((h.at 2 rfl).nth t (show t < code.l.length from (by omega)))) (show i < ((nth code.l t).l).length from (by omega))) rfl rfl fun a160 h160 => ?_; clear h159
   refine wv h160 (r_ldew (s := nth code.l t) (i := i) (vs := [.int .i64 ((nth ((nth code.l t).l) i).op), .int .i64 ((nth ((nth code.l t).l) i).a), .int .i64 ((nth ((nth code.l t).l) i).b), .int .i64 ((nth ((nth code.l t).l) i).c)]) ti_73 rfl rfl rfl (fun w h => ((h.at 2 rfl).nth t (show t < code.l.length from (by omega)))) (show i < ((nth code.l t).l).length from (by omega)) (Nat.le_of_ble_eq_true rfl) rfl) rfl rfl fun a161 h161 => ?_; clear h160
   refine wl_ex (x_alloc h161 ti_73 rfl rfl rfl) (wanted_none rfl _) ?_
   rintro a162 w162 ⟨b162, h162⟩; clear h161
   refine wl_ex (x_stb (i := 0) (vs := [.int .i64 ((nth ((nth code.l t).l) i).op), .int .i64 ((nth ((nth code.l t).l) i).a), .int .i64 ((nth ((nth code.l t).l) i).b), .int .i64 ((nth ((nth code.l t).l) i).c)]) (cs' := [.int .i64 ((nth ((nth code.l t).l) i).op), .int .i64 ((nth ((nth code.l t).l) i).a), .int .i64 ((nth ((nth code.l t).l) i).b), .int .i64 ((nth ((nth code.l t).l) i).c)]) h162 ti_73 rfl rfl rfl rfl rfl rfl rfl (allOne_cons rfl (allOne_cons rfl (allOne_cons rfl (allOne_cons rfl allOne_nil)))) (Nat.le_of_ble_eq_true rfl) rfl) (wanted_none rfl _) ?_
   rintro a163 w163 h163
   clear h162
   refine wpList_nil (hK153 _ _ ?_)
   refine wp_seq_k fun K164 hK164 => wp_region_lit ?_
   refine wv h163 (r_fieldB (r := 0) fl_28_0 rfl rfl rfl) rfl rfl fun a165 h165 => ?_; clear h163
   refine wv h165 (r_ldb (i := 1) ti_26 rfl rfl rfl rfl) rfl rfl fun a166 h166 => ?_; clear h165
   refine wms 1 h166 rfl fun a167 h167 => ?_; clear h166
   refine wv h167 (r_ixN (s := code2) (q := t) sl_26 ti_64 rfl rfl rfl (fun w h => (h.at 5 rfl)) (show t < code2.l.length from (by omega))) rfl rfl fun a168 h168 => ?_; clear h167
   refine wv h168 (r_lde (s := code2) (i := t) (v := (nth code2.l t).v) ti_64 rfl rfl rfl (fun w h => (h.at 5 rfl)) (show t < code2.l.length from (by omega)) (Nat.le_of_ble_eq_true rfl) rfl) rfl rfl fun a169 h169 => ?_; clear h168
   refine wms 1 h169 rfl fun a170 h170 => ?_; clear h169
   refine wv h170 (r_ixN (s := nth code2.l t) (q := i) sl_64 ti_73 rfl rfl rfl (fun w h => ((h.at 5 rfl).nth t (show t < code2.l.length from (by omega)))) (show i < ((nth code2.l t).l).length from (by omega))) rfl rfl fun a171 h171 => ?_; clear h170
   refine wv h171 (r_ldew (s := nth code2.l t) (i := i) (vs := [.int .i64 ((nth ((nth code2.l t).l) i).op), .int .i64 ((nth ((nth code2.l t).l) i).a), .int .i64 ((nth ((nth code2.l t).l) i).b), .int .i64 ((nth ((nth code2.l t).l) i).c)]) ti_73 rfl rfl rfl (fun w h => ((h.at 5 rfl).nth t (show t < code2.l.length from (by omega)))) (show i < ((nth code2.l t).l).length from (by omega)) (Nat.le_of_ble_eq_true rfl) rfl) rfl rfl fun a172 h172 => ?_; clear h171
   refine wl_ex (x_alloc h172 ti_73 rfl rfl rfl) (wanted_none rfl _) ?_
   rintro a173 w173 ⟨b173, h173⟩; clear h172
   refine wl_ex (x_stb (i := 0) (vs := [.int .i64 ((nth ((nth code2.l t).l) i).op), .int .i64 ((nth ((nth code2.l t).l) i).a), .int .i64 ((nth ((nth code2.l t).l) i).b), .int .i64 ((nth ((nth code2.l t).l) i).c)]) (cs' := [.int .i64 ((nth ((nth code2.l t).l) i).op), .int .i64 ((nth ((nth code2.l t).l) i).a), .int .i64 ((nth ((nth code2.l t).l) i).b), .int .i64 ((nth ((nth code2.l t).l) i).c)]) h173 ti_73 rfl rfl rfl rfl rfl rfl rfl (allOne_cons rfl (allOne_cons rfl (allOne_cons rfl (allOne_cons rfl allOne_nil)))) (Nat.le_of_ble_eq_true rfl) rfl) (wanted_none rfl _) ?_
   rintro a174 w174 h174
   clear h173
   refine wpList_nil (hK164 _ _ ?_)
   have h175 : St 112 (fun _ => False) W a174 w174 [(2, .pointer (some ⟨b3, 0, none⟩)), (3, .pointer (some ⟨b4, 0, none⟩)), (6, .int .i64 ((t : Nat) : Int)), (7, .int .i64 ((i : Nat) : Int)), (8, .pointer (some ⟨b162, 0, none⟩)), (9, .pointer (some ⟨b173, 0, none⟩))] [.blk b173 73 [.int .i64 ((nth ((nth code2.l t).l) i).op), .int .i64 ((nth ((nth code2.l t).l) i).a), .int .i64 ((nth ((nth code2.l t).l) i).b), .int .i64 ((nth ((nth code2.l t).l) i).c)], .blk b162 73 [.int .i64 ((nth ((nth code.l t).l) i).op), .int .i64 ((nth ((nth code.l t).l) i).a), .int .i64 ((nth ((nth code.l t).l) i).b), .int .i64 ((nth ((nth code.l t).l) i).c)], .blk b4 28 [code2.v, words2.v, .int .i64 locks2, .int .i64 regs2], .blk b3 28 [code.v, words.v, .int .i64 locks, .int .i64 regs], .at_ code, .at_ words, .at_ code2, .at_ words2] := h174.nrm ⟨rfl, rfl, rfl, rfl, rfl, rfl, trivial⟩ [0, 1, 2, 3, 4, 5, 6, 7] (by decide) ⟨rfl, rfl, rfl, rfl, rfl, rfl, rfl, rfl, trivial⟩
   clear h174
   refine wp_seq_k fun K176 hK176 => wp_region_lit ?_
   refine wv h175 (r_fieldB (r := 0) fl_73_0 rfl rfl rfl) rfl rfl fun a177 h177 => ?_; clear h175
   refine wv h177 (r_ldb (i := 1) ti_3 rfl rfl rfl rfl) rfl rfl fun a178 h178 => ?_; clear h177
   refine wv h178 (r_fieldB (r := 0) fl_73_0 rfl rfl rfl) rfl rfl fun a179 h179 => ?_; clear h178
   refine wv h179 (r_ldb (i := 0) ti_3 rfl rfl rfl rfl) rfl rfl fun a180 h180 => ?_; clear h179
   refine wv h180 (r_neqI (p := (nth ((nth code.l t).l) i).op) (q := (nth ((nth code2.l t).l) i).op) rfl rfl rfl) rfl rfl fun a181 h181 => ?_; clear h180
   refine wms 1 h181 rfl fun a182 h182 => ?_; clear h181
   rcases Bool.eq_false_or_eq_true (decide ((nth ((nth code.l t).l) i).op ≠ (nth ((nth code2.l t).l) i).op)) with hb183 | hb183
   ·
    have hp183 : (nth ((nth code.l t).l) i).op ≠ (nth ((nth code2.l t).l) i).op := of_decide_eq_true hb183
    refine wl_skip h182 (wanted_no h182.fr rfl rfl rfl rfl hb183) rfl rfl fun a184 h184 => ?_; clear h182
    refine wl_skip h184 (wanted_no h184.fr rfl rfl rfl rfl hb183) rfl rfl fun a185 h185 => ?_; clear h184
    refine wl_skip h185 (wanted_no h185.fr rfl rfl rfl rfl hb183) rfl rfl fun a186 h186 => ?_; clear h185
    refine wl_skip h186 (wanted_no h186.fr rfl rfl rfl rfl hb183) rfl rfl fun a187 h187 => ?_; clear h186
    refine wl_skip h187 (wanted_no h187.fr rfl rfl rfl rfl hb183) rfl rfl fun a188 h188 => ?_; clear h187
    refine wv h188 (r_pickT rfl rfl hb183 rfl) rfl rfl fun a189 h189 => ?_; clear h188
    refine wms 1 h189 rfl fun a190 h190 => ?_; clear h189
    refine wl_skip h190 (wanted_no h190.fr rfl rfl rfl rfl rfl) rfl rfl fun a191 h191 => ?_; clear h190
    refine wl_skip h191 (wanted_no h191.fr rfl rfl rfl rfl rfl) rfl rfl fun a192 h192 => ?_; clear h191
    refine wl_skip h192 (wanted_no h192.fr rfl rfl rfl rfl rfl) rfl rfl fun a193 h193 => ?_; clear h192
    refine wl_skip h193 (wanted_no h193.fr rfl rfl rfl rfl rfl) rfl rfl fun a194 h194 => ?_; clear h193
    refine wl_skip h194 (wanted_no h194.fr rfl rfl rfl rfl rfl) rfl rfl fun a195 h195 => ?_; clear h194
    refine wv h195 (r_pickT rfl rfl rfl rfl) rfl rfl fun a196 h196 => ?_; clear h195
    refine wms 1 h196 rfl fun a197 h197 => ?_; clear h196
    refine wl_skip h197 (wanted_no h197.fr rfl rfl rfl rfl rfl) rfl rfl fun a198 h198 => ?_; clear h197
    refine wl_skip h198 (wanted_no h198.fr rfl rfl rfl rfl rfl) rfl rfl fun a199 h199 => ?_; clear h198
    refine wl_skip h199 (wanted_no h199.fr rfl rfl rfl rfl rfl) rfl rfl fun a200 h200 => ?_; clear h199
    refine wl_skip h200 (wanted_no h200.fr rfl rfl rfl rfl rfl) rfl rfl fun a201 h201 => ?_; clear h200
    refine wl_skip h201 (wanted_no h201.fr rfl rfl rfl rfl rfl) rfl rfl fun a202 h202 => ?_; clear h201
    refine wv h202 (r_pickT rfl rfl rfl rfl) rfl rfl fun a203 h203 => ?_; clear h202
    refine wpList_nil (hK176 _ _ ?_)
    have h204 : St 112 (fun _ => False) W a203 w174 [(2, .pointer (some ⟨b3, 0, none⟩)), (3, .pointer (some ⟨b4, 0, none⟩)), (6, .int .i64 ((t : Nat) : Int)), (7, .int .i64 ((i : Nat) : Int)), (111, .bool true)] [.blk b173 73 [.int .i64 ((nth ((nth code2.l t).l) i).op), .int .i64 ((nth ((nth code2.l t).l) i).a), .int .i64 ((nth ((nth code2.l t).l) i).b), .int .i64 ((nth ((nth code2.l t).l) i).c)], .blk b162 73 [.int .i64 ((nth ((nth code.l t).l) i).op), .int .i64 ((nth ((nth code.l t).l) i).a), .int .i64 ((nth ((nth code.l t).l) i).b), .int .i64 ((nth ((nth code.l t).l) i).c)], .blk b4 28 [code2.v, words2.v, .int .i64 locks2, .int .i64 regs2], .blk b3 28 [code.v, words.v, .int .i64 locks, .int .i64 regs], .at_ code, .at_ words, .at_ code2, .at_ words2] := h203.nrm ⟨rfl, rfl, rfl, rfl, rfl, trivial⟩ [0, 1, 2, 3, 4, 5, 6, 7] (by decide) ⟨rfl, rfl, rfl, rfl, rfl, rfl, rfl, rfl, trivial⟩
    clear h203
    refine x_condT h204 rfl rfl ?_
    refine wp_seq_k fun K205 hK205 => wp_region_lit ?_
    refine wms 1 h204 rfl fun a206 h206 => ?_; clear h204
    refine wpList_nil (hK205 _ _ ?_)
    refine wp_ret ?_
    try simp only [Exit.then, Exit.inBlock]
    refine x_ret1 (fn := Try.f29) (t := 4) rfl h206 rfl ?_
    refine ⟨?_, (h206.sh.sel [] (by decide) trivial)⟩
    congr 1
    first | (refine (decide_eq_true (pg_eq (by assumption) (by omega) (by omega) (by omega) fun j hj => hall j (by omega))).symm; done) | (refine (decide_eq_false fun e => ?_).symm; have e1 := pg_words e; have e2 := pg_locks e; have e3 := pg_regs e; have e4 := pg_len e; first | exact absurd e1 (by assumption) | omega | (have e5 := pg_code e t (by omega); have e6 := congrArg List.length e5; omega) | (have e7 : nth (nth code.l t).l i = nth (nth code2.l t).l i := (by rw [pg_code e t (by omega)]); have e8 := congrArg Ins.op e7; have e9 := congrArg Ins.a e7; have e10 := congrArg Ins.b e7; have e11 := congrArg Ins.c e7; omega))
   have hp183 : ¬ ((nth ((nth code.l t).l) i).op ≠ (nth ((nth code2.l t).l) i).op) := of_decide_eq_false hb183
   refine wl_val h182 (r_fieldB (r := 1) fl_73_1 rfl rfl rfl) (wanted_yes h182.fr rfl rfl rfl rfl hb183) rfl rfl fun a207 h207 => ?_; clear h182
   refine wl_val h207 (r_ldb (i := 1) ti_3 rfl rfl rfl rfl) (wanted_yes h207.fr rfl rfl rfl rfl hb183) rfl rfl fun a208 h208 => ?_; clear h207
   refine wl_val h208 (r_fieldB (r := 1) fl_73_1 rfl rfl rfl) (wanted_yes h208.fr rfl rfl rfl rfl hb183) rfl rfl fun a209 h209 => ?_; clear h208
   refine wl_val h209 (r_ldb (i := 0) ti_3 rfl rfl rfl rfl) (wanted_yes h209.fr rfl rfl rfl rfl hb183) rfl rfl fun a210 h210 => ?_; clear h209
   refine wl_val h210 (r_neqI (p := (nth ((nth code.l t).l) i).a) (q := (nth ((nth code2.l t).l) i).a) rfl rfl rfl) (wanted_yes h210.fr rfl rfl rfl rfl hb183) rfl rfl fun a211 h211 => ?_; clear h210
   refine wv h211 (r_pickF rfl rfl hb183 rfl) rfl rfl fun a212 h212 => ?_; clear h211
   refine wms 1 h212 rfl fun a213 h213 => ?_; clear h212
   rcases Bool.eq_false_or_eq_true (decide ((nth ((nth code.l t).l) i).a ≠ (nth ((nth code2.l t).l) i).a)) with hb214 | hb214
   ·
    have hp214 : (nth ((nth code.l t).l) i).a ≠ (nth ((nth code2.l t).l) i).a := of_decide_eq_true hb214
    refine wl_skip h213 (wanted_no h213.fr rfl rfl rfl rfl hb214) rfl rfl fun a215 h215 => ?_; clear h213
    refine wl_skip h215 (wanted_no h215.fr rfl rfl rfl rfl hb214) rfl rfl fun a216 h216 => ?_; clear h215
    refine wl_skip h216 (wanted_no h216.fr rfl rfl rfl rfl hb214) rfl rfl fun a217 h217 => ?_; clear h216
    refine wl_skip h217 (wanted_no h217.fr rfl rfl rfl rfl hb214) rfl rfl fun a218 h218 => ?_; clear h217
    refine wl_skip h218 (wanted_no h218.fr rfl rfl rfl rfl hb214) rfl rfl fun a219 h219 => ?_; clear h218
    refine wv h219 (r_pickT rfl rfl hb214 rfl) rfl rfl fun a220 h220 => ?_; clear h219
    refine wms 1 h220 rfl fun a221 h221 => ?_; clear h220
    refine wl_skip h221 (wanted_no h221.fr rfl rfl rfl rfl rfl) rfl rfl fun a222 h222 => ?_; clear h221
    refine wl_skip h222 (wanted_no h222.fr rfl rfl rfl rfl rfl) rfl rfl fun a223 h223 => ?_; clear h222
    refine wl_skip h223 (wanted_no h223.fr rfl rfl rfl rfl rfl) rfl rfl fun a224 h224 => ?_; clear h223
    refine wl_skip h224 (wanted_no h224.fr rfl rfl rfl rfl rfl) rfl rfl fun a225 h225 => ?_; clear h224
    refine wl_skip h225 (wanted_no h225.fr rfl rfl rfl rfl rfl) rfl rfl fun a226 h226 => ?_; clear h225
    refine wv h226 (r_pickT rfl rfl rfl rfl) rfl rfl fun a227 h227 => ?_; clear h226
    refine wpList_nil (hK176 _ _ ?_)
    have h228 : St 112 (fun _ => False) W a227 w174 [(2, .pointer (some ⟨b3, 0, none⟩)), (3, .pointer (some ⟨b4, 0, none⟩)), (6, .int .i64 ((t : Nat) : Int)), (7, .int .i64 ((i : Nat) : Int)), (111, .bool true)] [.blk b173 73 [.int .i64 ((nth ((nth code2.l t).l) i).op), .int .i64 ((nth ((nth code2.l t).l) i).a), .int .i64 ((nth ((nth code2.l t).l) i).b), .int .i64 ((nth ((nth code2.l t).l) i).c)], .blk b162 73 [.int .i64 ((nth ((nth code.l t).l) i).op), .int .i64 ((nth ((nth code.l t).l) i).a), .int .i64 ((nth ((nth code.l t).l) i).b), .int .i64 ((nth ((nth code.l t).l) i).c)], .blk b4 28 [code2.v, words2.v, .int .i64 locks2, .int .i64 regs2], .blk b3 28 [code.v, words.v, .int .i64 locks, .int .i64 regs], .at_ code, .at_ words, .at_ code2, .at_ words2] := h227.nrm ⟨rfl, rfl, rfl, rfl, rfl, trivial⟩ [0, 1, 2, 3, 4, 5, 6, 7] (by decide) ⟨rfl, rfl, rfl, rfl, rfl, rfl, rfl, rfl, trivial⟩
    clear h227
    refine x_condT h228 rfl rfl ?_
    refine wp_seq_k fun K229 hK229 => wp_region_lit ?_
    refine wms 1 h228 rfl fun a230 h230 => ?_; clear h228
    refine wpList_nil (hK229 _ _ ?_)
    refine wp_ret ?_
    try simp only [Exit.then, Exit.inBlock]
    refine x_ret1 (fn := Try.f29) (t := 4) rfl h230 rfl ?_
    refine ⟨?_, (h230.sh.sel [] (by decide) trivial)⟩
    congr 1
    first | (refine (decide_eq_true (pg_eq (by assumption) (by omega) (by omega) (by omega) fun j hj => hall j (by omega))).symm; done) | (refine (decide_eq_false fun e => ?_).symm; have e1 := pg_words e; have e2 := pg_locks e; have e3 := pg_regs e; have e4 := pg_len e; first | exact absurd e1 (by assumption) | omega | (have e5 := pg_code e t (by omega); have e6 := congrArg List.length e5; omega) | (have e7 : nth (nth code.l t).l i = nth (nth code2.l t).l i := (by rw [pg_code e t (by omega)]); have e8 := congrArg Ins.op e7; have e9 := congrArg Ins.a e7; have e10 := congrArg Ins.b e7; have e11 := congrArg Ins.c e7; omega))
   have hp214 : ¬ ((nth ((nth code.l t).l) i).a ≠ (nth ((nth code2.l t).l) i).a) := of_decide_eq_false hb214
   refine wl_val h213 (r_fieldB (r := 2) fl_73_2 rfl rfl rfl) (wanted_yes h213.fr rfl rfl rfl rfl hb214) rfl rfl fun a231 h231 => ?_; clear h213
   refine wl_val h231 (r_ldb (i := 1) ti_3 rfl rfl rfl rfl) (wanted_yes h231.fr rfl rfl rfl rfl hb214) rfl rfl fun a232 h232 => ?_; clear h231
   refine wl_val h232 (r_fieldB (r := 2) fl_73_2 rfl rfl rfl) (wanted_yes h232.fr rfl rfl rfl rfl hb214) rfl rfl fun a233 h233 => ?_; clear h232
   refine wl_val h233 (r_ldb (i := 0) ti_3 rfl rfl rfl rfl) (wanted_yes h233.fr rfl rfl rfl rfl hb214) rfl rfl fun a234 h234 => ?_; clear h233
   refine wl_val h234 (r_neqI (p := (nth ((nth code.l t).l) i).b) (q := (nth ((nth code2.l t).l) i).b) rfl rfl rfl) (wanted_yes h234.fr rfl rfl rfl rfl hb214) rfl rfl fun a235 h235 => ?_; clear h234
   refine wv h235 (r_pickF rfl rfl hb214 rfl) rfl rfl fun a236 h236 => ?_; clear h235
   refine wms 1 h236 rfl fun a237 h237 => ?_; clear h236
   rcases Bool.eq_false_or_eq_true (decide ((nth ((nth code.l t).l) i).b ≠ (nth ((nth code2.l t).l) i).b)) with hb238 | hb238
   ·
    have hp238 : (nth ((nth code.l t).l) i).b ≠ (nth ((nth code2.l t).l) i).b := of_decide_eq_true hb238
    refine wl_skip h237 (wanted_no h237.fr rfl rfl rfl rfl hb238) rfl rfl fun a239 h239 => ?_; clear h237
    refine wl_skip h239 (wanted_no h239.fr rfl rfl rfl rfl hb238) rfl rfl fun a240 h240 => ?_; clear h239
    refine wl_skip h240 (wanted_no h240.fr rfl rfl rfl rfl hb238) rfl rfl fun a241 h241 => ?_; clear h240
    refine wl_skip h241 (wanted_no h241.fr rfl rfl rfl rfl hb238) rfl rfl fun a242 h242 => ?_; clear h241
    refine wl_skip h242 (wanted_no h242.fr rfl rfl rfl rfl hb238) rfl rfl fun a243 h243 => ?_; clear h242
    refine wv h243 (r_pickT rfl rfl hb238 rfl) rfl rfl fun a244 h244 => ?_; clear h243
    refine wpList_nil (hK176 _ _ ?_)
    have h245 : St 112 (fun _ => False) W a244 w174 [(2, .pointer (some ⟨b3, 0, none⟩)), (3, .pointer (some ⟨b4, 0, none⟩)), (6, .int .i64 ((t : Nat) : Int)), (7, .int .i64 ((i : Nat) : Int)), (111, .bool true)] [.blk b173 73 [.int .i64 ((nth ((nth code2.l t).l) i).op), .int .i64 ((nth ((nth code2.l t).l) i).a), .int .i64 ((nth ((nth code2.l t).l) i).b), .int .i64 ((nth ((nth code2.l t).l) i).c)], .blk b162 73 [.int .i64 ((nth ((nth code.l t).l) i).op), .int .i64 ((nth ((nth code.l t).l) i).a), .int .i64 ((nth ((nth code.l t).l) i).b), .int .i64 ((nth ((nth code.l t).l) i).c)], .blk b4 28 [code2.v, words2.v, .int .i64 locks2, .int .i64 regs2], .blk b3 28 [code.v, words.v, .int .i64 locks, .int .i64 regs], .at_ code, .at_ words, .at_ code2, .at_ words2] := h244.nrm ⟨rfl, rfl, rfl, rfl, rfl, trivial⟩ [0, 1, 2, 3, 4, 5, 6, 7] (by decide) ⟨rfl, rfl, rfl, rfl, rfl, rfl, rfl, rfl, trivial⟩
    clear h244
    refine x_condT h245 rfl rfl ?_
    refine wp_seq_k fun K246 hK246 => wp_region_lit ?_
    refine wms 1 h245 rfl fun a247 h247 => ?_; clear h245
    refine wpList_nil (hK246 _ _ ?_)
    refine wp_ret ?_
    try simp only [Exit.then, Exit.inBlock]
    refine x_ret1 (fn := Try.f29) (t := 4) rfl h247 rfl ?_
    refine ⟨?_, (h247.sh.sel [] (by decide) trivial)⟩
    congr 1
    first | (refine (decide_eq_true (pg_eq (by assumption) (by omega) (by omega) (by omega) fun j hj => hall j (by omega))).symm; done) | (refine (decide_eq_false fun e => ?_).symm; have e1 := pg_words e; have e2 := pg_locks e; have e3 := pg_regs e; have e4 := pg_len e; first | exact absurd e1 (by assumption) | omega | (have e5 := pg_code e t (by omega); have e6 := congrArg List.length e5; omega) | (have e7 : nth (nth code.l t).l i = nth (nth code2.l t).l i := (by rw [pg_code e t (by omega)]); have e8 := congrArg Ins.op e7; have e9 := congrArg Ins.a e7; have e10 := congrArg Ins.b e7; have e11 := congrArg Ins.c e7; omega))
   have hp238 : ¬ ((nth ((nth code.l t).l) i).b ≠ (nth ((nth code2.l t).l) i).b) := of_decide_eq_false hb238
   refine wl_val h237 (r_fieldB (r := 3) fl_73_3 rfl rfl rfl) (wanted_yes h237.fr rfl rfl rfl rfl hb238) rfl rfl fun a248 h248 => ?_; clear h237
   refine wl_val h248 (r_ldb (i := 1) ti_3 rfl rfl rfl rfl) (wanted_yes h248.fr rfl rfl rfl rfl hb238) rfl rfl fun a249 h249 => ?_; clear h248
   refine wl_val h249 (r_fieldB (r := 3) fl_73_3 rfl rfl rfl) (wanted_yes h249.fr rfl rfl rfl rfl hb238) rfl rfl fun a250 h250 => ?_; clear h249
   refine wl_val h250 (r_ldb (i := 0) ti_3 rfl rfl rfl rfl) (wanted_yes h250.fr rfl rfl rfl rfl hb238) rfl rfl fun a251 h251 => ?_; clear h250
   refine wl_val h251 (r_neqI (p := (nth ((nth code.l t).l) i).c) (q := (nth ((nth code2.l t).l) i).c) rfl rfl rfl) (wanted_yes h251.fr rfl rfl rfl rfl hb238) rfl rfl fun a252 h252 => ?_; clear h251
   refine wv h252 (r_pickF rfl rfl hb238 rfl) rfl rfl fun a253 h253 => ?_; clear h252
   refine wpList_nil (hK176 _ _ ?_)
   have h254 : St 112 (fun _ => False) W a253 w174 [(2, .pointer (some ⟨b3, 0, none⟩)), (3, .pointer (some ⟨b4, 0, none⟩)), (6, .int .i64 ((t : Nat) : Int)), (7, .int .i64 ((i : Nat) : Int)), (111, .bool (decide ((nth ((nth code.l t).l) i).c ≠ (nth ((nth code2.l t).l) i).c)))] [.blk b173 73 [.int .i64 ((nth ((nth code2.l t).l) i).op), .int .i64 ((nth ((nth code2.l t).l) i).a), .int .i64 ((nth ((nth code2.l t).l) i).b), .int .i64 ((nth ((nth code2.l t).l) i).c)], .blk b162 73 [.int .i64 ((nth ((nth code.l t).l) i).op), .int .i64 ((nth ((nth code.l t).l) i).a), .int .i64 ((nth ((nth code.l t).l) i).b), .int .i64 ((nth ((nth code.l t).l) i).c)], .blk b4 28 [code2.v, words2.v, .int .i64 locks2, .int .i64 regs2], .blk b3 28 [code.v, words.v, .int .i64 locks, .int .i64 regs], .at_ code, .at_ words, .at_ code2, .at_ words2] := h253.nrm ⟨rfl, rfl, rfl, rfl, rfl, trivial⟩ [0, 1, 2, 3, 4, 5, 6, 7] (by decide) ⟨rfl, rfl, rfl, rfl, rfl, rfl, rfl, rfl, trivial⟩
   clear h253
   refine x_cond h254 rfl (fun hb255 => ?_) (fun hb255 => ?_)
   ·
    have hp255 : (nth ((nth code.l t).l) i).c ≠ (nth ((nth code2.l t).l) i).c := of_decide_eq_true hb255
    refine wp_seq_k fun K256 hK256 => wp_region_lit ?_
    refine wms 1 h254 rfl fun a257 h257 => ?_; clear h254
    refine wpList_nil (hK256 _ _ ?_)
    refine wp_ret ?_
    try simp only [Exit.then, Exit.inBlock]
    refine x_ret1 (fn := Try.f29) (t := 4) rfl h257 rfl ?_
    refine ⟨?_, (h257.sh.sel [] (by decide) trivial)⟩
    congr 1
    first | (refine (decide_eq_true (pg_eq (by assumption) (by omega) (by omega) (by omega) fun j hj => hall j (by omega))).symm; done) | (refine (decide_eq_false fun e => ?_).symm; have e1 := pg_words e; have e2 := pg_locks e; have e3 := pg_regs e; have e4 := pg_len e; first | exact absurd e1 (by assumption) | omega | (have e5 := pg_code e t (by omega); have e6 := congrArg List.length e5; omega) | (have e7 : nth (nth code.l t).l i = nth (nth code2.l t).l i := (by rw [pg_code e t (by omega)]); have e8 := congrArg Ins.op e7; have e9 := congrArg Ins.a e7; have e10 := congrArg Ins.b e7; have e11 := congrArg Ins.c e7; omega))
   have hp255 : ¬ ((nth ((nth code.l t).l) i).c ≠ (nth ((nth code2.l t).l) i).c) := of_decide_eq_false hb255
   refine wp_skip ?_
   refine hK152 _ _ ?_
   refine wp_region_lit ?_
   refine wms 1 h254 rfl fun a258 h258 => ?_; clear h254
   refine wv h258 (r_addN (p := i) (q := 1) rfl rfl rfl (show i + 1 < 9223372036854775808 from (by omega))) rfl rfl fun a259 h259 => ?_; clear h258
   refine wms 1 h259 rfl fun a260 h260 => ?_; clear h259
   refine wpList_nil ?_
   refine x_again ⟨_, ?_, i + 1, ?_, ?_, h260.nrm ⟨rfl, rfl, rfl, rfl, trivial⟩ [2, 3, 4, 5, 6, 7] (by decide) ⟨rfl, rfl, rfl, rfl, rfl, rfl, trivial⟩, rfl⟩
   · rw [hm140]; first | omega | (simp only [lens9]; omega)
   · omega
   · intro j hj; rcases Nat.lt_or_ge j i with h | h; exact hin j h; obtain rfl : j = i := (by omega); exact ins_ext (by omega) (by omega) (by omega) (by omega)
  have hp151 : ¬ (i < ((nth code.l t).l).length) := of_decide_eq_false hb151
  refine wp_exit ?_
  refine hK115 _ _ ?_
  refine wp_region_lit ?_
  refine wms 1 h150 rfl fun a261 h261 => ?_; clear h150
  refine wv h261 (r_addN (p := t) (q := 1) rfl rfl rfl (show t + 1 < 9223372036854775808 from (by omega))) rfl rfl fun a262 h262 => ?_; clear h261
  refine wms 1 h262 rfl fun a263 h263 => ?_; clear h262
  refine wpList_nil ?_
  refine x_again ⟨_, ?_, t + 1, ?_, ?_, h263.nrm ⟨rfl, rfl, rfl, trivial⟩ [0, 1, 2, 3, 4, 5] (by decide) ⟨rfl, rfl, rfl, rfl, rfl, rfl, trivial⟩, rfl⟩
  · rw [hm106]; first | omega | (simp only [lens9]; omega)
  · omega
  · intro j hj; rcases Nat.lt_or_ge j t with h | h; exact hall j h; obtain rfl : j = t := (by omega); exact ext_nth _ _ (by omega) fun i hi => hin i (by omega)
 have hp114 : ¬ (t < code.l.length) := of_decide_eq_false hb114
 refine wp_exit ?_
 refine hK103 _ _ ?_
 refine wp_seq_k fun K264 hK264 => wp_region_lit ?_
 refine wms 1 h113 rfl fun a265 h265 => ?_; clear h113
 refine wpList_nil (hK264 _ _ ?_)
 refine wp_ret ?_
 try simp only [Exit.then, Exit.inBlock]
 refine x_ret1 (fn := Try.f29) (t := 4) rfl h265 rfl ?_
 refine ⟨?_, (h265.sh.sel [] (by decide) trivial)⟩
 congr 1
 first | (refine (decide_eq_true (pg_eq (by assumption) (by omega) (by omega) (by omega) fun j hj => hall j (by omega))).symm; done) | (refine (decide_eq_false fun e => ?_).symm; have e1 := pg_words e; have e2 := pg_locks e; have e3 := pg_regs e; have e4 := pg_len e; first | exact absurd e1 (by assumption) | omega | (have e5 := pg_code e t (by omega); have e6 := congrArg List.length e5; omega) | (have e7 : nth (nth code.l t).l i = nth (nth code2.l t).l i := (by rw [pg_code e t (by omega)]); have e8 := congrArg Ins.op e7; have e9 := congrArg Ins.a e7; have e10 := congrArg Ins.b e7; have e11 := congrArg Ins.c e7; omega))

set_option maxRecDepth 100000 in
set_option maxHeartbeats 1000000 in
theorem none_c (code : Ls (Ls Ins)) (words : Ls Int) (locks regs : Int) (W : World) (hcode : code.At W) (hwords : words.At W) :
    Rets Try.prog 27 [.agg #[code.v, words.v, .int .i64 locks, .int .i64 regs]] W (fun v w' => v = .bool (noneP (pgOf code words locks regs)) ∧ Sh0 W w' []) := by
 refine x_enter (N := 21) Try.func27 rfl Try.ntmps27 (Nat.le_of_ble_eq_true rfl) fun a1 hf1 => ?_
 have h1 : St 21 (fun _ => False) W a1 W [(0, .agg #[code.v, words.v, .int .i64 locks, .int .i64 regs])] [.at_ code, .at_ words] := ⟨hf1.sub ⟨rfl, trivial⟩, Sh0.ext2 hcode hwords⟩
 clear hf1
 refine wp_seq_k fun K2 hK2 => wp_region_lit ?_
 refine wl_ex (x_box (cs := [code.v, words.v, .int .i64 locks, .int .i64 regs]) h1 rfl rfl rfl rfl rfl) (wanted_none rfl _) ?_
 rintro a3 w3 ⟨b3, h3⟩; clear h1
 refine wms 1 h3 rfl fun a4 h4 => ?_; clear h3
 refine wpList_nil (hK2 _ _ ?_)
 refine wp_seq_k fun K5 hK5 => wp_region_lit ?_
 refine wv h4 (r_fieldB (r := 0) fl_28_0 rfl rfl rfl) rfl rfl fun a6 h6 => ?_; clear h4
 refine wv h6 (r_ldb (i := 0) ti_26 rfl rfl rfl rfl) rfl rfl fun a7 h7 => ?_; clear h6
 have hl8 : code.l.length ≤ 140737488355328 := (h7.sh.at 1 rfl).len
 refine wv h7 (r_len (s := code) (n := code.l.length) sl_26 rfl rfl (fun w h => (h.at 1 rfl)) rfl) rfl rfl fun a9 h9 => ?_; clear h7
 refine wv h9 (r_fieldB (r := 1) fl_28_1 rfl rfl rfl) rfl rfl fun a10 h10 => ?_; clear h9
 refine wv h10 (r_ldb (i := 0) ti_24 rfl rfl rfl rfl) rfl rfl fun a11 h11 => ?_; clear h10
 have hl12 : words.l.length ≤ 140737488355328 := (h11.sh.at 2 rfl).len
 refine wv h11 (r_len (s := words) (n := words.l.length) sl_24 rfl rfl (fun w h => (h.at 2 rfl)) rfl) rfl rfl fun a13 h13 => ?_; clear h11
 refine wv h13 (r_addN (p := code.l.length) (q := words.l.length) rfl rfl rfl (show code.l.length + words.l.length < 9223372036854775808 from (by omega))) rfl rfl fun a14 h14 => ?_; clear h13
 refine wv h14 (r_eqlN (p := code.l.length + words.l.length) (q := 0) rfl rfl rfl) rfl rfl fun a15 h15 => ?_; clear h14
 refine wms 1 h15 rfl fun a16 h16 => ?_; clear h15
 rcases Bool.eq_false_or_eq_true (decide (code.l.length + words.l.length = 0)) with hb17 | hb17
 ·
  have hp17 : code.l.length + words.l.length = 0 := of_decide_eq_true hb17
  refine wl_val h16 (r_fieldB (r := 2) fl_28_2 rfl rfl rfl) (wanted_yes h16.fr rfl rfl rfl rfl hb17) rfl rfl fun a18 h18 => ?_; clear h16
  refine wl_val h18 (r_ldb (i := 0) ti_3 rfl rfl rfl rfl) (wanted_yes h18.fr rfl rfl rfl rfl hb17) rfl rfl fun a19 h19 => ?_; clear h18
  refine wl_val h19 (r_eqlI (p := locks) (q := 0) rfl rfl rfl) (wanted_yes h19.fr rfl rfl rfl rfl hb17) rfl rfl fun a20 h20 => ?_; clear h19
  refine wv h20 (r_pickT rfl rfl hb17 rfl) rfl rfl fun a21 h21 => ?_; clear h20
  refine wms 1 h21 rfl fun a22 h22 => ?_; clear h21
  rcases Bool.eq_false_or_eq_true (decide (locks = 0)) with hb23 | hb23
  ·
   have hp23 : locks = 0 := of_decide_eq_true hb23
   refine wl_val h22 (r_fieldB (r := 3) fl_28_3 rfl rfl rfl) (wanted_yes h22.fr rfl rfl rfl rfl hb23) rfl rfl fun a24 h24 => ?_; clear h22
   refine wl_val h24 (r_ldb (i := 0) ti_3 rfl rfl rfl rfl) (wanted_yes h24.fr rfl rfl rfl rfl hb23) rfl rfl fun a25 h25 => ?_; clear h24
   refine wl_val h25 (r_eqlI (p := regs) (q := 0) rfl rfl rfl) (wanted_yes h25.fr rfl rfl rfl rfl hb23) rfl rfl fun a26 h26 => ?_; clear h25
   refine wv h26 (r_pickT rfl rfl hb23 rfl) rfl rfl fun a27 h27 => ?_; clear h26
   refine wms 1 h27 rfl fun a28 h28 => ?_; clear h27
   refine wpList_nil (hK5 _ _ ?_)
   refine wp_ret ?_
   try simp only [Exit.then, Exit.inBlock]
   refine x_ret1 (fn := Try.f27) (t := 2) rfl h28 rfl ?_
   refine ⟨?_, (h28.sh.sel [] (by decide) trivial)⟩
   congr 1
   simp [noneP, pgOf]
   first | omega | (simp_all; done) | (intros; omega)
  have hp23 : ¬ (locks = 0) := of_decide_eq_false hb23
  refine wl_skip h22 (wanted_no h22.fr rfl rfl rfl rfl hb23) rfl rfl fun a29 h29 => ?_; clear h22
  refine wl_skip h29 (wanted_no h29.fr rfl rfl rfl rfl hb23) rfl rfl fun a30 h30 => ?_; clear h29
  refine wl_skip h30 (wanted_no h30.fr rfl rfl rfl rfl hb23) rfl rfl fun a31 h31 => ?_; clear h30
  refine wv h31 (r_pickF rfl rfl hb23 rfl) rfl rfl fun a32 h32 => ?_; clear h31
  refine wms 1 h32 rfl fun a33 h33 => ?_; clear h32
  refine wpList_nil (hK5 _ _ ?_)
  refine wp_ret ?_
  try simp only [Exit.then, Exit.inBlock]
  refine x_ret1 (fn := Try.f27) (t := 2) rfl h33 rfl ?_
  refine ⟨?_, (h33.sh.sel [] (by decide) trivial)⟩
  congr 1
  simp [noneP, pgOf]
  first | omega | (simp_all; done) | (intros; omega)
 have hp17 : ¬ (code.l.length + words.l.length = 0) := of_decide_eq_false hb17
 refine wl_skip h16 (wanted_no h16.fr rfl rfl rfl rfl hb17) rfl rfl fun a34 h34 => ?_; clear h16
 refine wl_skip h34 (wanted_no h34.fr rfl rfl rfl rfl hb17) rfl rfl fun a35 h35 => ?_; clear h34
 refine wl_skip h35 (wanted_no h35.fr rfl rfl rfl rfl hb17) rfl rfl fun a36 h36 => ?_; clear h35
 refine wv h36 (r_pickF rfl rfl hb17 rfl) rfl rfl fun a37 h37 => ?_; clear h36
 refine wms 1 h37 rfl fun a38 h38 => ?_; clear h37
 refine wl_skip h38 (wanted_no h38.fr rfl rfl rfl rfl rfl) rfl rfl fun a39 h39 => ?_; clear h38
 refine wl_skip h39 (wanted_no h39.fr rfl rfl rfl rfl rfl) rfl rfl fun a40 h40 => ?_; clear h39
 refine wl_skip h40 (wanted_no h40.fr rfl rfl rfl rfl rfl) rfl rfl fun a41 h41 => ?_; clear h40
 refine wv h41 (r_pickF rfl rfl rfl rfl) rfl rfl fun a42 h42 => ?_; clear h41
 refine wms 1 h42 rfl fun a43 h43 => ?_; clear h42
 refine wpList_nil (hK5 _ _ ?_)
 refine wp_ret ?_
 try simp only [Exit.then, Exit.inBlock]
 refine x_ret1 (fn := Try.f27) (t := 2) rfl h43 rfl ?_
 refine ⟨?_, (h43.sh.sel [] (by decide) trivial)⟩
 congr 1
 simp [noneP, pgOf]
 first | omega | (simp_all; done) | (intros; omega)

end Go.Proofs.Ytanhbpofhebbaaa
