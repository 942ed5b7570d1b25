/-
  Contracts of functions of this program and of the references, each walked once.
-/
import Derived.Test.YtanhbpofhebbaaaX18
import Derived.Test.YtanhbpofhebbaaaS9
namespace Go.Proofs.Ytanhbpofhebbaaa
open Go.RowKit
set_option linter.unusedSimpArgs false
set_option linter.unusedVariables false


def wtN (x : Wt) : List Int := [if x.lock = true then 1 else 0, x.wh, x.what]
theorem wtN_t {x : Wt} (h : x.lock = true) : wtN x = [1, x.wh, x.what] := by simp [wtN, h]
theorem wtN_f {x : Wt} (h : x.lock = false) : wtN x = [0, x.wh, x.what] := by simp [wtN, h]
def thN (x : Th) : List Int := [x.pc, (x.wait.length : Int)] ++ x.regs ++ x.wait.flatMap wtN
/-- All that a state is. -/
def numbersL (ths : List Th) (words owner prints : List Int) : List Int := ths.flatMap thN ++ words ++ owner ++ prints
theorem flatMap_succ {α β : Type} [Inhabited α] (f : α → List β) (l : List α) (i : Nat) (h : i < l.length) : (l.take (i + 1)).flatMap f = (l.take i).flatMap f ++ f (nth l i) := by
  rw [take_succ_nth _ _ h]; simp
set_option maxRecDepth 100000 in
set_option maxHeartbeats 4000000 in
theorem numbers_c (g : Nat) (thr : Ls ThL) (words owner prints : Ls Int) (cv pw : Value) (locks nregs mode : Int) (fell : Bool) (W : World) (hB : Blk W g 104 #[cv, pw, .int .i64 locks, .int .i64 nregs, .int .i64 mode, thr.v, words.v, owner.v, prints.v, .bool fell]) (h_thr : thr.At W) (h_words : words.At W) (h_owner : owner.At W) (h_prints : prints.At W) (hcl : thr.l.length ≤ 4) (hrg : ∀ i, i < thr.l.length → (nth thr.l i).regs.l.length ≤ 100000) (hwl : ∀ i, i < thr.l.length → (nth thr.l i).wait.l.length ≤ 3) (hwn : words.l.length ≤ 100000 ∧ owner.l.length ≤ 100000 ∧ prints.l.length ≤ 100000000) :
    Rets Try.prog 117 [.pointer (some ⟨g, 0, none⟩)] W (fun v w' => ∃ s : Ls Int, v = s.v ∧ s.l = numbersL (thr.l.map ThL.th) words.l owner.l prints.l ∧ Sh0 W w' [.own 3 s]) := by
 refine x_enter (N := 83) Try.func117 rfl Try.ntmps117 (Nat.le_of_ble_eq_true rfl) fun a1 hf1 => ?_
 have h1 : St 83 (fun _ => False) W a1 W [(0, .pointer (some ⟨g, 0, none⟩))] [.rblk g 104 [cv, pw, .int .i64 locks, .int .i64 nregs, .int .i64 mode, thr.v, words.v, owner.v, prints.v, .bool fell], .at_ thr, .at_ words, .at_ owner, .at_ prints] := ⟨hf1.sub ⟨rfl, trivial⟩, Sh0.ext (by intro A hA; simp at hA; rcases hA with rfl | rfl | rfl | rfl | rfl; exact hB; exact h_thr; exact h_words; exact h_owner; exact h_prints) (by intro A hA b hb; simp at hA; rcases hA with rfl | rfl | rfl | rfl | rfl <;> exact hb)⟩
 clear hf1
 refine wp_seq_k fun K2 hK2 => wp_region_lit ?_
 refine wms 1 h1 rfl fun a3 h3 => ?_; clear h1
 refine wpList_nil (hK2 _ _ ?_)
 refine wp_seq_k fun K4 hK4 => wp_region_lit ?_
 refine wms 1 h3 rfl fun a5 h5 => ?_; clear h3
 refine wpList_nil (hK4 _ _ ?_)
 refine wp_seq_k fun K6 hK6 => ?_
 refine wp_seq_k fun K7 hK7 => wp_region_lit ?_
 refine wms 1 h5 rfl fun a8 h8 => ?_; clear h5
 refine wpList_nil (hK7 _ _ ?_)
 refine wp_block ?_
 have h10 := h8.nil (α := Int) 3
 clear h8
 refine x_loop (fun m a w => ∃ (i : Nat) (ml : List Int) (vm : Value), (i ≤ thr.l.length) ∧ (ml = ((thr.l.take i).map ThL.th).flatMap thN) ∧ (ml.length ≤ 200000 * i) ∧ St 83 (fun _ => False) W a w [(0, .pointer (some ⟨g, 0, none⟩)), (3, vm), (4, .int .i64 ((i : Nat) : Int))] [.rblk g 104 [cv, pw, .int .i64 locks, .int .i64 nregs, .int .i64 mode, thr.v, words.v, owner.v, prints.v, .bool fell], .at_ thr, .at_ words, .at_ owner, .at_ prints, .own 3 (⟨vm, ml⟩ : Ls Int)] ∧ m = thr.l.length - i) ⟨_, 0, [], (.slice none 0 0), (by omega), (by simp), (by simp), h10.nrm ⟨rfl, rfl, rfl, trivial⟩ [1, 2, 3, 4, 5, 0] (by decide) ⟨rfl, rfl, rfl, rfl, rfl, rfl, trivial⟩, rfl⟩ ?_
 clear h10
 rintro m9 a9 w9 ⟨i, ml, vm, hi, hml, hmn, h9, hm9⟩
 refine wp_seq_k fun K11 hK11 => ?_
 refine wp_seq_k fun K12 hK12 => wp_region_lit ?_
 refine wms 2 h9 rfl fun a13 h13 => ?_; clear h9
 refine wv h13 (r_nil rfl rfl) rfl rfl fun a14 h14 => ?_; clear h13
 refine wv h14 (r_fieldB (r := 5) fl_104_2 rfl rfl rfl) rfl rfl fun a15 h15 => ?_; clear h14
 refine wv h15 (r_ldbR ti_102 rfl rfl (fun w h => h.rblk 0 rfl) rfl) rfl rfl fun a16 h16 => ?_; clear h15
 have hl17 : thr.l.length ≤ 140737488355328 := (h16.sh.at 1 rfl).len
 refine wv h16 (r_len (s := thr) (n := thr.l.length) sl_102 rfl rfl (fun w h => (h.at 1 rfl)) rfl) rfl rfl fun a18 h18 => ?_; clear h16
 refine wv h18 (r_lssN (p := i) (q := thr.l.length) rfl rfl rfl) rfl rfl fun a19 h19 => ?_; clear h18
 refine wpList_nil (hK12 _ _ ?_)
 refine x_cond h19 rfl (fun hb20 => ?_) (fun hb20 => ?_)
 ·
  have hp20 : i < thr.l.length := of_decide_eq_true hb20
  refine wp_skip ?_
  refine hK11 _ _ ?_
  have hrgi := hrg i (by omega)
  have hwli := hwl i (by omega)
  refine wp_seq_k fun K21 hK21 => ?_
  refine wp_block ?_
  refine wp_seq_k fun K22 hK22 => wp_region_lit ?_
  refine wms 1 h19 rfl fun a23 h23 => ?_; clear h19
  refine wv h23 (r_nil rfl rfl) rfl rfl fun a24 h24 => ?_; clear h23
  refine wv h24 (r_fieldB (r := 5) fl_104_2 rfl rfl rfl) rfl rfl fun a25 h25 => ?_; clear h24
  refine wv h25 (r_ldbR ti_102 rfl rfl (fun w h => h.rblk 0 rfl) rfl) rfl rfl fun a26 h26 => ?_; clear h25
  refine wms 1 h26 rfl fun a27 h27 => ?_; clear h26
  refine wv h27 (r_ixN (s := thr) (q := i) sl_102 ti_101 rfl rfl rfl (fun w h => (h.at 1 rfl)) (show i < thr.l.length from (by omega))) rfl rfl fun a28 h28 => ?_; clear h27
  refine wv h28 (r_ldew (s := thr) (i := i) (vs := [.int .i64 ((nth thr.l i).pc), ((nth thr.l i).regs).v, ((nth thr.l i).wait).v]) ti_101 rfl rfl rfl (fun w h => (h.at 1 rfl)) (show i < thr.l.length from (by omega)) (Nat.le_of_ble_eq_true rfl) rfl) rfl rfl fun a29 h29 => ?_; clear h28
  refine wl_ex (x_alloc h29 ti_101 rfl rfl rfl) (wanted_none rfl _) ?_
  rintro a30 w30 ⟨b30, h30⟩; clear h29
  refine wl_ex (x_stb (i := 0) (vs := [.int .i64 ((nth thr.l i).pc), ((nth thr.l i).regs).v, ((nth thr.l i).wait).v]) (cs' := [.int .i64 ((nth thr.l i).pc), ((nth thr.l i).regs).v, ((nth thr.l i).wait).v]) h30 ti_101 rfl rfl rfl rfl rfl rfl rfl (allOne_cons rfl (allOne_cons (((h30.sh.at 2 rfl).inner i (show i < thr.l.length from (by omega))).1).one (allOne_cons (((h30.sh.at 2 rfl).inner i (show i < thr.l.length from (by omega))).2).one allOne_nil))) (Nat.le_of_ble_eq_true rfl) rfl) (wanted_none rfl _) ?_
  rintro a31 w31 h31
  clear h30
  refine wpList_nil (hK22 _ _ ?_)
  refine wp_seq_k fun K32 hK32 => wp_region_lit ?_
  refine wms 1 h31 rfl fun a33 h33 => ?_; clear h31
  refine wv h33 (r_fieldB (r := 0) fl_101_0 rfl rfl rfl) rfl rfl fun a34 h34 => ?_; clear h33
  refine wv h34 (r_ldb (i := 0) ti_3 rfl rfl rfl rfl) rfl rfl fun a35 h35 => ?_; clear h34
  refine wv h35 (r_fieldB (r := 2) fl_101_2 rfl rfl rfl) rfl rfl fun a36 h36 => ?_; clear h35
  refine wv h36 (r_ldb (i := 0) ti_99 rfl rfl rfl rfl) rfl rfl fun a37 h37 => ?_; clear h36
  have hl38 : (((nth thr.l i).wait).l).length ≤ 140737488355328 := ((h37.sh.at 2 rfl).inner i (show i < thr.l.length from (by omega))).2.len
  refine wv h37 (r_len (s := (nth thr.l i).wait) (n := (((nth thr.l i).wait).l).length) sl_99 rfl rfl (fun w h => ((h.at 2 rfl).inner i (show i < thr.l.length from (by omega))).2) rfl) rfl rfl fun a39 h39 => ?_; clear h37
  refine wl_ex (x_lit (n := 2) (cs := [.int .i64 ((nth thr.l i).pc), .int .i64 (((((nth thr.l i).wait).l).length : Nat) : Int)]) ([(nth thr.l i).pc, (((((nth thr.l i).wait).l).length : Nat) : Int)] : List Int) h39 sl_24 ti_3 rfl rfl rfl (by decide) rfl (by kernel_rfl) rfl (fun q hq w h => Flat.inner _ _) (fun q hq b hb => (Flat.on _ _ hb).elim) rfl rfl) (wanted_none rfl _) ?_
  rintro a40 w40 ⟨v40, h40⟩; clear h39
  refine wl_ex (x_app (r := 7) (rm := 0) (s := (⟨vm, ml⟩ : Ls Int)) (m := (⟨v40, [(nth thr.l i).pc, (((((nth thr.l i).wait).l).length : Nat) : Int)]⟩ : Ls Int)) h40 sl_24 ti_3 rfl rfl rfl rfl rfl rfl rfl (fun w h => (h.own 0 rfl)) (fun b hb => own_on (h40.sh.ok _ (List.mem_of_getElem? (i := 0) rfl)) hb) (fun q hq b hb => ⟨q, hq, hb⟩) rfl rfl rfl inferInstance (show (ml.length + ([(nth thr.l i).pc, (((((nth thr.l i).wait).l).length : Nat) : Int)]).length) * 8 ≤ 140737488355328 ∧ ml.length + ([(nth thr.l i).pc, (((((nth thr.l i).wait).l).length : Nat) : Int)]).length ≤ 140737488355328 from (by first | omega | (simp only [lens9]; omega))) rfl rfl) (wanted_none rfl _) ?_
  rintro a41 w41 ⟨v41, h41⟩; clear h40
  refine wms 1 h41 rfl fun a42 h42 => ?_; clear h41
  refine wpList_nil (hK32 _ _ ?_)
  refine wp_seq_k fun K43 hK43 => wp_region_lit ?_
  refine wms 1 h42 rfl fun a44 h44 => ?_; clear h42
  refine wv h44 (r_fieldB (r := 1) fl_101_1 rfl rfl rfl) rfl rfl fun a45 h45 => ?_; clear h44
  refine wv h45 (r_ldb (i := 1) ti_24 rfl rfl rfl rfl) rfl rfl fun a46 h46 => ?_; clear h45
  refine wl_ex (x_app (r := 7) (rm := 3) (s := (⟨v41, ml ++ ([(nth thr.l i).pc, (((((nth thr.l i).wait).l).length : Nat) : Int)])⟩ : Ls Int)) (m := (nth thr.l i).regs) h46 sl_24 ti_3 rfl rfl rfl rfl rfl rfl rfl (fun w h => ((h.at 3 rfl).inner i (show i < thr.l.length from (by omega))).1) (fun b hb => .inr (.inr ⟨i, (show i < thr.l.length from (by omega)), .inl hb⟩)) (fun q hq b hb => (Flat.on _ _ hb).elim) rfl rfl rfl inferInstance (show ((ml ++ ([(nth thr.l i).pc, (((((nth thr.l i).wait).l).length : Nat) : Int)])).length + (((nth thr.l i).regs).l).length) * 8 ≤ 140737488355328 ∧ (ml ++ ([(nth thr.l i).pc, (((((nth thr.l i).wait).l).length : Nat) : Int)])).length + (((nth thr.l i).regs).l).length ≤ 140737488355328 from (by first | omega | (simp only [lens9]; omega))) rfl rfl) (wanted_none rfl _) ?_
  rintro a47 w47 ⟨v47, h47⟩; clear h46
  refine wms 1 h47 rfl fun a48 h48 => ?_; clear h47
  refine wpList_nil (hK43 _ _ ?_)
  have h49 : St 83 (fun _ => False) W a48 w47 [(0, .pointer (some ⟨g, 0, none⟩)), (3, v47), (4, .int .i64 ((i : Nat) : Int)), (5, .pointer (some ⟨b30, 0, none⟩))] [.own 3 (⟨v40, [(nth thr.l i).pc, (((((nth thr.l i).wait).l).length : Nat) : Int)]⟩ : Ls Int), .blk b30 101 [.int .i64 ((nth thr.l i).pc), ((nth thr.l i).regs).v, ((nth thr.l i).wait).v], .rblk g 104 [cv, pw, .int .i64 locks, .int .i64 nregs, .int .i64 mode, thr.v, words.v, owner.v, prints.v, .bool fell], .at_ thr, .at_ words, .at_ owner, .at_ prints, .own 3 (⟨v47, (ml ++ ([(nth thr.l i).pc, (((((nth thr.l i).wait).l).length : Nat) : Int)])) ++ (((nth thr.l i).regs).l)⟩ : Ls Int)] := h48.nrm ⟨rfl, rfl, rfl, rfl, trivial⟩ [0, 1, 2, 3, 4, 5, 6, 7] (by decide) ⟨rfl, rfl, rfl, rfl, rfl, rfl, rfl, rfl, trivial⟩
  clear h48
  refine wp_seq_k fun K50 hK50 => wp_region_lit ?_
  refine wms 1 h49 rfl fun a51 h51 => ?_; clear h49
  refine wpList_nil (hK50 _ _ ?_)
  refine wp_block ?_
  refine x_loop (fun m a w => ∃ (k : Nat) (ml2 : List Int) (vm2 : Value), (k ≤ (nth thr.l i).wait.l.length) ∧ (ml2 = ml ++ ([(nth thr.l i).pc, ((nth thr.l i).wait.l.length : Int)] ++ (nth thr.l i).regs.l ++ ((nth thr.l i).wait.l.take k).flatMap wtN)) ∧ (ml2.length ≤ ml.length + 2 + (nth thr.l i).regs.l.length + 3 * k) ∧ St 83 (fun _ => False) W a w [(0, .pointer (some ⟨g, 0, none⟩)), (3, vm2), (4, .int .i64 ((i : Nat) : Int)), (5, .pointer (some ⟨b30, 0, none⟩)), (6, .int .i64 ((k : Nat) : Int))] [.own 3 (⟨v40, [(nth thr.l i).pc, (((((nth thr.l i).wait).l).length : Nat) : Int)]⟩ : Ls Int), .blk b30 101 [.int .i64 ((nth thr.l i).pc), ((nth thr.l i).regs).v, ((nth thr.l i).wait).v], .rblk g 104 [cv, pw, .int .i64 locks, .int .i64 nregs, .int .i64 mode, thr.v, words.v, owner.v, prints.v, .bool fell], .at_ thr, .at_ words, .at_ owner, .at_ prints, .own 3 (⟨vm2, ml2⟩ : Ls Int)] ∧ m = (nth thr.l i).wait.l.length - k) ⟨_, 0, (ml ++ ([(nth thr.l i).pc, (((((nth thr.l i).wait).l).length : Nat) : Int)])) ++ (((nth thr.l i).regs).l), v47, (by omega), (by simp), (by simp; omega), h51.nrm ⟨rfl, rfl, rfl, rfl, rfl, trivial⟩ [0, 1, 2, 3, 4, 5, 6, 7] (by decide) ⟨rfl, rfl, rfl, rfl, rfl, rfl, rfl, rfl, trivial⟩, rfl⟩ ?_
  clear h51
  rintro m52 a52 w52 ⟨k, ml2, vm2, hk, hml2, hmn2, h52, hm52⟩
  refine wp_seq_k fun K53 hK53 => ?_
  refine wp_seq_k fun K54 hK54 => wp_region_lit ?_
  refine wms 1 h52 rfl fun a55 h55 => ?_; clear h52
  refine wv h55 (r_fieldB (r := 2) fl_101_2 rfl rfl rfl) rfl rfl fun a56 h56 => ?_; clear h55
  refine wv h56 (r_ldb (i := 1) ti_99 rfl rfl rfl rfl) rfl rfl fun a57 h57 => ?_; clear h56
  refine wv h57 (r_len (s := (nth thr.l i).wait) (n := (((nth thr.l i).wait).l).length) sl_99 rfl rfl (fun w h => ((h.at 3 rfl).inner i (show i < thr.l.length from (by omega))).2) rfl) rfl rfl fun a58 h58 => ?_; clear h57
  refine wv h58 (r_lssN (p := k) (q := (((nth thr.l i).wait).l).length) rfl rfl rfl) rfl rfl fun a59 h59 => ?_; clear h58
  refine wpList_nil (hK54 _ _ ?_)
  refine x_cond h59 rfl (fun hb60 => ?_) (fun hb60 => ?_)
  ·
   have hp60 : k < (((nth thr.l i).wait).l).length := of_decide_eq_true hb60
   refine wp_skip ?_
   refine hK53 _ _ ?_
   refine wp_seq_k fun K61 hK61 => ?_
   refine wp_block ?_
   refine wp_seq_k fun K62 hK62 => wp_region_lit ?_
   refine wms 1 h59 rfl fun a63 h63 => ?_; clear h59
   refine wpList_nil (hK62 _ _ ?_)
   refine wp_seq_k fun K64 hK64 => ?_
   refine wp_seq_k fun K65 hK65 => wp_region_lit ?_
   refine wv h63 (r_fieldB (r := 2) fl_101_2 rfl rfl rfl) rfl rfl fun a66 h66 => ?_; clear h63
   refine wv h66 (r_ldb (i := 1) ti_99 rfl rfl rfl rfl) rfl rfl fun a67 h67 => ?_; clear h66
   refine wms 1 h67 rfl fun a68 h68 => ?_; clear h67
   refine wv h68 (r_ixN (s := (nth thr.l i).wait) (q := k) sl_99 ti_139 rfl rfl rfl (fun w h => ((h.at 3 rfl).inner i (show i < thr.l.length from (by omega))).2) (show k < (((nth thr.l i).wait).l).length from (by omega))) rfl rfl fun a69 h69 => ?_; clear h68
   refine wv h69 (r_fieldE (r := 0) fl_139_0 rfl rfl rfl) rfl rfl fun a70 h70 => ?_; clear h69
   refine wv h70 (r_lde (s := (nth thr.l i).wait) (i := k) (v := .bool ((nth (((nth thr.l i).wait).l) k).lock)) ti_4 rfl rfl rfl (fun w h => ((h.at 3 rfl).inner i (show i < thr.l.length from (by omega))).2) (show k < (((nth thr.l i).wait).l).length from (by omega)) (Nat.le_of_ble_eq_true rfl) rfl) rfl rfl fun a71 h71 => ?_; clear h70
   refine wpList_nil (hK65 _ _ ?_)
   refine x_cond h71 rfl (fun hb72 => ?_) (fun hb72 => ?_)
   ·
    skip
    refine wp_region_lit ?_
    refine wms 1 h71 rfl fun a73 h73 => ?_; clear h71
    refine wpList_nil (hK64 _ _ ?_)
    refine x_tail 14 [0] (by kernel_rfl) (by kernel_rfl) h73 fun Z74 hZ74 => ?_
    have hq74 := h73.fr
    refine wq_val hq74 (r_move rfl rfl) (wanted_none rfl _) rfl rfl fun a75 hq75 => ?_; clear hq74
    refine wq_val hq75 (r_move rfl rfl) (wanted_none rfl _) rfl rfl fun a76 hq76 => ?_; clear hq75
    refine wq_val hq76 (r_fieldB (r := 2) fl_101_2 rfl rfl rfl) (wanted_none rfl _) rfl rfl fun a77 hq77 => ?_; clear hq76
    refine wq_val hq77 (r_ldb (i := 1) ti_99 rfl rfl rfl rfl) (wanted_none rfl _) rfl rfl fun a78 hq78 => ?_; clear hq77
    refine wq_val hq78 (r_move rfl rfl) (wanted_none rfl _) rfl rfl fun a79 hq79 => ?_; clear hq78
    refine wq_val hq79 (r_ixN (s := (nth thr.l i).wait) (q := k) sl_99 ti_139 rfl rfl rfl (fun w h => ((h.at 3 rfl).inner i (show i < thr.l.length from (by omega))).2) (show k < (((nth thr.l i).wait).l).length from (by omega))) (wanted_none rfl _) rfl rfl fun a80 hq80 => ?_; clear hq79
    refine wq_val hq80 (r_fieldE (r := 1) fl_139_1 rfl rfl rfl) (wanted_none rfl _) rfl rfl fun a81 hq81 => ?_; clear hq80
    refine wq_val hq81 (r_lde (s := (nth thr.l i).wait) (i := k) (v := .int .i64 ((nth (((nth thr.l i).wait).l) k).wh)) ti_3 rfl rfl rfl (fun w h => ((h.at 3 rfl).inner i (show i < thr.l.length from (by omega))).2) (show k < (((nth thr.l i).wait).l).length from (by omega)) (Nat.le_of_ble_eq_true rfl) rfl) (wanted_none rfl _) rfl rfl fun a82 hq82 => ?_; clear hq81
    refine wq_val hq82 (r_fieldB (r := 2) fl_101_2 rfl rfl rfl) (wanted_none rfl _) rfl rfl fun a83 hq83 => ?_; clear hq82
    refine wq_val hq83 (r_ldb (i := 1) ti_99 rfl rfl rfl rfl) (wanted_none rfl _) rfl rfl fun a84 hq84 => ?_; clear hq83
    refine wq_val hq84 (r_move rfl rfl) (wanted_none rfl _) rfl rfl fun a85 hq85 => ?_; clear hq84
    refine wq_val hq85 (r_ixN (s := (nth thr.l i).wait) (q := k) sl_99 ti_139 rfl rfl rfl (fun w h => ((h.at 3 rfl).inner i (show i < thr.l.length from (by omega))).2) (show k < (((nth thr.l i).wait).l).length from (by omega))) (wanted_none rfl _) rfl rfl fun a86 hq86 => ?_; clear hq85
    refine wq_val hq86 (r_fieldE (r := 2) fl_139_2 rfl rfl rfl) (wanted_none rfl _) rfl rfl fun a87 hq87 => ?_; clear hq86
    refine wq_val hq87 (r_lde (s := (nth thr.l i).wait) (i := k) (v := .int .i64 ((nth (((nth thr.l i).wait).l) k).what)) ti_3 rfl rfl rfl (fun w h => ((h.at 3 rfl).inner i (show i < thr.l.length from (by omega))).2) (show k < (((nth thr.l i).wait).l).length from (by omega)) (Nat.le_of_ble_eq_true rfl) rfl) (wanted_none rfl _) rfl rfl fun a88 hq88 => ?_; clear hq87
    refine wpQuiet_nil (hZ74 _ fun w89 hw89 => ?_)
    have h89 : St 83 (fun _ => False) W a88 w89 _ _ := ⟨hq88, hw89⟩
    clear hq88 hw89 h73
    refine wl_ex (x_lit (n := 3) (cs := [.int .i64 1, .int .i64 ((nth (((nth thr.l i).wait).l) k).wh), .int .i64 ((nth (((nth thr.l i).wait).l) k).what)]) ([1, (nth (((nth thr.l i).wait).l) k).wh, (nth (((nth thr.l i).wait).l) k).what] : List Int) h89 sl_24 ti_3 rfl rfl rfl (by decide) rfl (by kernel_rfl) rfl (fun q hq w h => Flat.inner _ _) (fun q hq b hb => (Flat.on _ _ hb).elim) rfl rfl) (wanted_none rfl _) ?_
    rintro a90 w90 ⟨v90, h90⟩; clear h89
    refine wl_ex (x_app (r := 8) (rm := 0) (s := (⟨vm2, ml2⟩ : Ls Int)) (m := (⟨v90, [1, (nth (((nth thr.l i).wait).l) k).wh, (nth (((nth thr.l i).wait).l) k).what]⟩ : Ls Int)) h90 sl_24 ti_3 rfl rfl rfl rfl rfl rfl rfl (fun w h => (h.own 0 rfl)) (fun b hb => own_on (h90.sh.ok _ (List.mem_of_getElem? (i := 0) rfl)) hb) (fun q hq b hb => ⟨q, hq, hb⟩) rfl rfl rfl inferInstance (show (ml2.length + ([1, (nth (((nth thr.l i).wait).l) k).wh, (nth (((nth thr.l i).wait).l) k).what]).length) * 8 ≤ 140737488355328 ∧ ml2.length + ([1, (nth (((nth thr.l i).wait).l) k).wh, (nth (((nth thr.l i).wait).l) k).what]).length ≤ 140737488355328 from (by first | omega | (simp only [lens9]; omega))) rfl rfl) (wanted_none rfl _) ?_
    rintro a91 w91 ⟨v91, h91⟩; clear h90
    refine wms 1 h91 rfl fun a92 h92 => ?_; clear h91
    refine wpList_nil (hK61 _ _ ?_)
    have h93 : St 83 (fun _ => False) W a92 w91 [(0, .pointer (some ⟨g, 0, none⟩)), (3, v91), (4, .int .i64 ((i : Nat) : Int)), (5, .pointer (some ⟨b30, 0, none⟩)), (6, .int .i64 ((k : Nat) : Int))] [.own 3 (⟨v90, [1, (nth (((nth thr.l i).wait).l) k).wh, (nth (((nth thr.l i).wait).l) k).what]⟩ : Ls Int), .own 3 (⟨v40, [(nth thr.l i).pc, (((((nth thr.l i).wait).l).length : Nat) : Int)]⟩ : Ls Int), .blk b30 101 [.int .i64 ((nth thr.l i).pc), ((nth thr.l i).regs).v, ((nth thr.l i).wait).v], .rblk g 104 [cv, pw, .int .i64 locks, .int .i64 nregs, .int .i64 mode, thr.v, words.v, owner.v, prints.v, .bool fell], .at_ thr, .at_ words, .at_ owner, .at_ prints, .own 3 (⟨v91, ml2 ++ ([1, (nth (((nth thr.l i).wait).l) k).wh, (nth (((nth thr.l i).wait).l) k).what])⟩ : Ls Int)] := h92.nrm ⟨rfl, rfl, rfl, rfl, rfl, trivial⟩ [0, 1, 2, 3, 4, 5, 6, 7, 8] (by decide) ⟨rfl, rfl, rfl, rfl, rfl, rfl, rfl, rfl, rfl, trivial⟩
    clear h92
    refine wp_region_lit ?_
    refine wms 1 h93 rfl fun a94 h94 => ?_; clear h93
    refine wv h94 (r_addN (p := k) (q := 1) rfl rfl rfl (show k + 1 < 9223372036854775808 from (by omega))) rfl rfl fun a95 h95 => ?_; clear h94
    refine wms 1 h95 rfl fun a96 h96 => ?_; clear h95
    refine wpList_nil ?_
    refine x_again ⟨_, ?_, k + 1, ml2 ++ ([1, (nth (((nth thr.l i).wait).l) k).wh, (nth (((nth thr.l i).wait).l) k).what]), v91, ?_, ?_, ?_, h96.nrm ⟨rfl, rfl, rfl, rfl, rfl, trivial⟩ [1, 2, 3, 4, 5, 6, 7, 8] (by decide) ⟨rfl, rfl, rfl, rfl, rfl, rfl, rfl, rfl, trivial⟩, rfl⟩
    · rw [hm52]; first | omega | (simp only [lens9]; omega)
    · omega
    · first | (rw [flatMap_succ _ _ _ (by omega), hml2, wtN_t (by assumption)]; simp only [List.append_assoc]; done) | (rw [flatMap_succ _ _ _ (by omega), hml2, wtN_f (by assumption)]; simp only [List.append_assoc]; done)
    · simp; omega
   refine wp_skip ?_
   refine hK64 _ _ ?_
   refine x_tail 14 [0] (by kernel_rfl) (by kernel_rfl) h71 fun Z97 hZ97 => ?_
   have hq97 := h71.fr
   refine wq_val hq97 (r_move rfl rfl) (wanted_none rfl _) rfl rfl fun a98 hq98 => ?_; clear hq97
   refine wq_val hq98 (r_move rfl rfl) (wanted_none rfl _) rfl rfl fun a99 hq99 => ?_; clear hq98
   refine wq_val hq99 (r_fieldB (r := 2) fl_101_2 rfl rfl rfl) (wanted_none rfl _) rfl rfl fun a100 hq100 => ?_; clear hq99
   refine wq_val hq100 (r_ldb (i := 1) ti_99 rfl rfl rfl rfl) (wanted_none rfl _) rfl rfl fun a101 hq101 => ?_; clear hq100
   refine wq_val hq101 (r_move rfl rfl) (wanted_none rfl _) rfl rfl fun a102 hq102 => ?_; clear hq101
   refine wq_val hq102 (r_ixN (s := (nth thr.l i).wait) (q := k) sl_99 ti_139 rfl rfl rfl (fun w h => ((h.at 3 rfl).inner i (show i < thr.l.length from (by omega))).2) (show k < (((nth thr.l i).wait).l).length from (by omega))) (wanted_none rfl _) rfl rfl fun a103 hq103 => ?_; clear hq102
   refine wq_val hq103 (r_fieldE (r := 1) fl_139_1 rfl rfl rfl) (wanted_none rfl _) rfl rfl fun a104 hq104 => ?_; clear hq103
   refine wq_val hq104 (r_lde (s := (nth thr.l i).wait) (i := k) (v := .int .i64 ((nth (((nth thr.l i).wait).l) k).wh)) ti_3 rfl rfl rfl (fun w h => ((h.at 3 rfl).inner i (show i < thr.l.length from (by omega))).2) (show k < (((nth thr.l i).wait).l).length from (by omega)) (Nat.le_of_ble_eq_true rfl) rfl) (wanted_none rfl _) rfl rfl fun a105 hq105 => ?_; clear hq104
   refine wq_val hq105 (r_fieldB (r := 2) fl_101_2 rfl rfl rfl) (wanted_none rfl _) rfl rfl fun a106 hq106 => ?_; clear hq105
   refine wq_val hq106 (r_ldb (i := 1) ti_99 rfl rfl rfl rfl) (wanted_none rfl _) rfl rfl fun a107 hq107 => ?_; clear hq106
   refine wq_val hq107 (r_move rfl rfl) (wanted_none rfl _) rfl rfl fun a108 hq108 => ?_; clear hq107
   refine wq_val hq108 (r_ixN (s := (nth thr.l i).wait) (q := k) sl_99 ti_139 rfl rfl rfl (fun w h => ((h.at 3 rfl).inner i (show i < thr.l.length from (by omega))).2) (show k < (((nth thr.l i).wait).l).length from (by omega))) (wanted_none rfl _) rfl rfl fun a109 hq109 => ?_; clear hq108
   refine wq_val hq109 (r_fieldE (r := 2) fl_139_2 rfl rfl rfl) (wanted_none rfl _) rfl rfl fun a110 hq110 => ?_; clear hq109
   refine wq_val hq110 (r_lde (s := (nth thr.l i).wait) (i := k) (v := .int .i64 ((nth (((nth thr.l i).wait).l) k).what)) ti_3 rfl rfl rfl (fun w h => ((h.at 3 rfl).inner i (show i < thr.l.length from (by omega))).2) (show k < (((nth thr.l i).wait).l).length from (by omega)) (Nat.le_of_ble_eq_true rfl) rfl) (wanted_none rfl _) rfl rfl fun a111 hq111 => ?_; clear hq110
   refine wpQuiet_nil (hZ97 _ fun w112 hw112 => ?_)
   have h112 : St 83 (fun _ => False) W a111 w112 _ _ := ⟨hq111, hw112⟩
   clear hq111 hw112 h71
   refine wl_ex (x_lit (n := 3) (cs := [.int .i64 0, .int .i64 ((nth (((nth thr.l i).wait).l) k).wh), .int .i64 ((nth (((nth thr.l i).wait).l) k).what)]) ([0, (nth (((nth thr.l i).wait).l) k).wh, (nth (((nth thr.l i).wait).l) k).what] : List Int) h112 sl_24 ti_3 rfl rfl rfl (by decide) rfl (by kernel_rfl) rfl (fun q hq w h => Flat.inner _ _) (fun q hq b hb => (Flat.on _ _ hb).elim) rfl rfl) (wanted_none rfl _) ?_
   rintro a113 w113 ⟨v113, h113⟩; clear h112
   refine wl_ex (x_app (r := 8) (rm := 0) (s := (⟨vm2, ml2⟩ : Ls Int)) (m := (⟨v113, [0, (nth (((nth thr.l i).wait).l) k).wh, (nth (((nth thr.l i).wait).l) k).what]⟩ : Ls Int)) h113 sl_24 ti_3 rfl rfl rfl rfl rfl rfl rfl (fun w h => (h.own 0 rfl)) (fun b hb => own_on (h113.sh.ok _ (List.mem_of_getElem? (i := 0) rfl)) hb) (fun q hq b hb => ⟨q, hq, hb⟩) rfl rfl rfl inferInstance (show (ml2.length + ([0, (nth (((nth thr.l i).wait).l) k).wh, (nth (((nth thr.l i).wait).l) k).what]).length) * 8 ≤ 140737488355328 ∧ ml2.length + ([0, (nth (((nth thr.l i).wait).l) k).wh, (nth (((nth thr.l i).wait).l) k).what]).length ≤ 140737488355328 from (by first | omega | (simp only [lens9]; omega))) rfl rfl) (wanted_none rfl _) ?_
   rintro a114 w114 ⟨v114, h114⟩; clear h113
   refine wms 1 h114 rfl fun a115 h115 => ?_; clear h114
   refine wpList_nil (hK61 _ _ ?_)
   have h116 : St 83 (fun _ => False) W a115 w114 [(0, .pointer (some ⟨g, 0, none⟩)), (3, v114), (4, .int .i64 ((i : Nat) : Int)), (5, .pointer (some ⟨b30, 0, none⟩)), (6, .int .i64 ((k : Nat) : Int))] [.own 3 (⟨v113, [0, (nth (((nth thr.l i).wait).l) k).wh, (nth (((nth thr.l i).wait).l) k).what]⟩ : Ls Int), .own 3 (⟨v40, [(nth thr.l i).pc, (((((nth thr.l i).wait).l).length : Nat) : Int)]⟩ : Ls Int), .blk b30 101 [.int .i64 ((nth thr.l i).pc), ((nth thr.l i).regs).v, ((nth thr.l i).wait).v], .rblk g 104 [cv, pw, .int .i64 locks, .int .i64 nregs, .int .i64 mode, thr.v, words.v, owner.v, prints.v, .bool fell], .at_ thr, .at_ words, .at_ owner, .at_ prints, .own 3 (⟨v114, ml2 ++ ([0, (nth (((nth thr.l i).wait).l) k).wh, (nth (((nth thr.l i).wait).l) k).what])⟩ : Ls Int)] := h115.nrm ⟨rfl, rfl, rfl, rfl, rfl, trivial⟩ [0, 1, 2, 3, 4, 5, 6, 7, 8] (by decide) ⟨rfl, rfl, rfl, rfl, rfl, rfl, rfl, rfl, rfl, trivial⟩
   clear h115
   refine wp_region_lit ?_
   refine wms 1 h116 rfl fun a117 h117 => ?_; clear h116
   refine wv h117 (r_addN (p := k) (q := 1) rfl rfl rfl (show k + 1 < 9223372036854775808 from (by omega))) rfl rfl fun a118 h118 => ?_; clear h117
   refine wms 1 h118 rfl fun a119 h119 => ?_; clear h118
   refine wpList_nil ?_
   refine x_again ⟨_, ?_, k + 1, ml2 ++ ([0, (nth (((nth thr.l i).wait).l) k).wh, (nth (((nth thr.l i).wait).l) k).what]), v114, ?_, ?_, ?_, h119.nrm ⟨rfl, rfl, rfl, rfl, rfl, trivial⟩ [1, 2, 3, 4, 5, 6, 7, 8] (by decide) ⟨rfl, rfl, rfl, rfl, rfl, rfl, rfl, rfl, trivial⟩, rfl⟩
   · rw [hm52]; first | omega | (simp only [lens9]; omega)
   · omega
   · first | (rw [flatMap_succ _ _ _ (by omega), hml2, wtN_t (by assumption)]; simp only [List.append_assoc]; done) | (rw [flatMap_succ _ _ _ (by omega), hml2, wtN_f (by assumption)]; simp only [List.append_assoc]; done)
   · simp; omega
  have hp60 : ¬ (k < (((nth thr.l i).wait).l).length) := of_decide_eq_false hb60
  refine wp_exit ?_
  refine hK21 _ _ ?_
  refine wp_region_lit ?_
  refine wms 1 h59 rfl fun a120 h120 => ?_; clear h59
  refine wv h120 (r_addN (p := i) (q := 1) rfl rfl rfl (show i + 1 < 9223372036854775808 from (by omega))) rfl rfl fun a121 h121 => ?_; clear h120
  refine wms 1 h121 rfl fun a122 h122 => ?_; clear h121
  refine wpList_nil ?_
  refine x_again ⟨_, ?_, i + 1, ml2, vm2, ?_, ?_, ?_, h122.nrm ⟨rfl, rfl, rfl, trivial⟩ [2, 3, 4, 5, 6, 7] (by decide) ⟨rfl, rfl, rfl, rfl, rfl, rfl, trivial⟩, rfl⟩
  · rw [hm9]; first | omega | (simp only [lens9]; omega)
  · omega
  · rw [take_succ_nth _ _ (by omega), List.map_append, List.flatMap_append, ← hml, hml2, show k = (nth thr.l i).wait.l.length by omega]; simp [thN, ThL.th, List.take_of_length_le]
  · have := hrg i (by omega); have := hwl i (by omega); omega
 have hp20 : ¬ (i < thr.l.length) := of_decide_eq_false hb20
 refine wp_exit ?_
 refine hK6 _ _ ?_
 refine wp_seq_k fun K123 hK123 => wp_region_lit ?_
 refine wms 2 h19 rfl fun a124 h124 => ?_; clear h19
 refine wv h124 (r_nil rfl rfl) rfl rfl fun a125 h125 => ?_; clear h124
 refine wv h125 (r_fieldB (r := 6) fl_104_3 rfl rfl rfl) rfl rfl fun a126 h126 => ?_; clear h125
 refine wv h126 (r_ldbR ti_24 rfl rfl (fun w h => h.rblk 0 rfl) rfl) rfl rfl fun a127 h127 => ?_; clear h126
 refine wl_ex (x_app (r := 5) (rm := 2) (s := (⟨vm, ml⟩ : Ls Int)) (m := words) h127 sl_24 ti_3 rfl rfl rfl rfl rfl rfl rfl (fun w h => (h.at 2 rfl)) (fun b hb => .inr hb) (fun q hq b hb => .inr ⟨q, hq, hb⟩) rfl rfl rfl inferInstance (show (ml.length + words.l.length) * 8 ≤ 140737488355328 ∧ ml.length + words.l.length ≤ 140737488355328 from (by omega)) rfl rfl) (wanted_none rfl _) ?_
 rintro a128 w128 ⟨v128, h128⟩; clear h127
 refine wms 1 h128 rfl fun a129 h129 => ?_; clear h128
 refine wpList_nil (hK123 _ _ ?_)
 refine wp_seq_k fun K130 hK130 => wp_region_lit ?_
 refine wms 2 h129 rfl fun a131 h131 => ?_; clear h129
 refine wv h131 (r_nil rfl rfl) rfl rfl fun a132 h132 => ?_; clear h131
 refine wv h132 (r_fieldB (r := 7) fl_104_4 rfl rfl rfl) rfl rfl fun a133 h133 => ?_; clear h132
 refine wv h133 (r_ldbR ti_24 rfl rfl (fun w h => h.rblk 0 rfl) rfl) rfl rfl fun a134 h134 => ?_; clear h133
 refine wl_ex (x_app (r := 5) (rm := 3) (s := (⟨v128, ml ++ words.l⟩ : Ls Int)) (m := owner) h134 sl_24 ti_3 rfl rfl rfl rfl rfl rfl rfl (fun w h => (h.at 3 rfl)) (fun b hb => .inr hb) (fun q hq b hb => .inr ⟨q, hq, hb⟩) rfl rfl rfl inferInstance (show ((ml ++ words.l).length + owner.l.length) * 8 ≤ 140737488355328 ∧ (ml ++ words.l).length + owner.l.length ≤ 140737488355328 from (by first | omega | (simp only [lens9]; omega))) rfl rfl) (wanted_none rfl _) ?_
 rintro a135 w135 ⟨v135, h135⟩; clear h134
 refine wms 1 h135 rfl fun a136 h136 => ?_; clear h135
 refine wpList_nil (hK130 _ _ ?_)
 refine wp_seq_k fun K137 hK137 => wp_region_lit ?_
 refine wms 2 h136 rfl fun a138 h138 => ?_; clear h136
 refine wv h138 (r_nil rfl rfl) rfl rfl fun a139 h139 => ?_; clear h138
 refine wv h139 (r_fieldB (r := 8) fl_104_5 rfl rfl rfl) rfl rfl fun a140 h140 => ?_; clear h139
 refine wv h140 (r_ldbR ti_24 rfl rfl (fun w h => h.rblk 0 rfl) rfl) rfl rfl fun a141 h141 => ?_; clear h140
 refine wl_ex (x_app (r := 5) (rm := 4) (s := (⟨v135, (ml ++ words.l) ++ owner.l⟩ : Ls Int)) (m := prints) h141 sl_24 ti_3 rfl rfl rfl rfl rfl rfl rfl (fun w h => (h.at 4 rfl)) (fun b hb => .inr hb) (fun q hq b hb => .inr ⟨q, hq, hb⟩) rfl rfl rfl inferInstance (show (((ml ++ words.l) ++ owner.l).length + prints.l.length) * 8 ≤ 140737488355328 ∧ ((ml ++ words.l) ++ owner.l).length + prints.l.length ≤ 140737488355328 from (by first | omega | (simp only [lens9]; omega))) rfl rfl) (wanted_none rfl _) ?_
 rintro a142 w142 ⟨v142, h142⟩; clear h141
 refine wms 1 h142 rfl fun a143 h143 => ?_; clear h142
 refine wpList_nil (hK137 _ _ ?_)
 have h144 : St 83 (fun _ => False) W a143 w142 [(2, v142)] [.rblk g 104 [cv, pw, .int .i64 locks, .int .i64 nregs, .int .i64 mode, thr.v, words.v, owner.v, prints.v, .bool fell], .at_ thr, .at_ words, .at_ owner, .at_ prints, .own 3 (⟨v142, ((ml ++ words.l) ++ owner.l) ++ prints.l⟩ : Ls Int)] := h143.nrm ⟨rfl, trivial⟩ [0, 1, 2, 3, 4, 5] (by decide) ⟨rfl, rfl, rfl, rfl, rfl, rfl, trivial⟩
 clear h143
 refine wp_ret ?_
 try simp only [Exit.then, Exit.inBlock]
 refine x_ret1 (fn := Try.f117) (t := 2) rfl h144 rfl ?_
 refine ⟨⟨v142, ((ml ++ words.l) ++ owner.l) ++ prints.l⟩, rfl, ?_, (h144.sh.sel (L' := [.own 3 (⟨v142, ((ml ++ words.l) ++ owner.l) ++ prints.l⟩ : Ls Int)]) [5] (by decide) ⟨rfl, trivial⟩)⟩
 show _ ++ _ ++ _ ++ _ = _; rw [hml, show i = thr.l.length by omega, List.take_length]; rfl

set_option maxRecDepth 100000 in
set_option maxHeartbeats 4000000 in
theorem copy_c (g : Nat) (thr : Ls ThL) (words owner prints : Ls Int) (cv pw : Value) (locks nregs mode : Int) (fell : Bool) (W : World) (hB : Blk W g 104 #[cv, pw, .int .i64 locks, .int .i64 nregs, .int .i64 mode, thr.v, words.v, owner.v, prints.v, .bool fell]) (h_thr : thr.At W) (h_words : words.At W) (h_owner : owner.At W) (h_prints : prints.At W) (hcl : thr.l.length ≤ 4) (hrg : ∀ i, i < thr.l.length → (nth thr.l i).regs.l.length ≤ 100000) (hwl : ∀ i, i < thr.l.length → (nth thr.l i).wait.l.length ≤ 3) (hwn : words.l.length ≤ 100000 ∧ owner.l.length ≤ 100000 ∧ prints.l.length ≤ 100000000) :
    Rets Try.prog 106 [.pointer (some ⟨g, 0, none⟩)] W (fun v w' => ∃ (g2 : Nat) (rows : List ThL) (vt : Value) (words' owner' prints' : Ls Int), v = .pointer (some ⟨g2, 0, none⟩) ∧ rows.map ThL.th = thr.l.map ThL.th ∧ words'.l = words.l ∧ owner'.l = owner.l ∧ prints'.l = prints.l ∧ Sh0 W w' [.blk g2 104 [cv, pw, .int .i64 locks, .int .i64 nregs, .int .i64 mode, vt, words'.v, owner'.v, prints'.v, .bool fell], .own 101 (⟨vt, rows.map ThL.toV⟩ : Ls ThV), .big (rowsA 3 139 rows), .own 3 words', .own 3 owner', .own 3 prints']) := by
 refine x_enter (N := 98) Try.func106 rfl Try.ntmps106 (Nat.le_of_ble_eq_true rfl) fun a1 hf1 => ?_
 have h1 : St 98 (fun _ => False) W a1 W [(0, .pointer (some ⟨g, 0, none⟩))] [.rblk g 104 [cv, pw, .int .i64 locks, .int .i64 nregs, .int .i64 mode, thr.v, words.v, owner.v, prints.v, .bool fell], .at_ thr, .at_ words, .at_ owner, .at_ prints] := ⟨hf1.sub ⟨rfl, trivial⟩, Sh0.ext (by intro A hA; simp at hA; rcases hA with rfl | rfl | rfl | rfl | rfl; exact hB; exact h_thr; exact h_words; exact h_owner; exact h_prints) (by intro A hA b hb; simp at hA; rcases hA with rfl | rfl | rfl | rfl | rfl <;> exact hb)⟩
 clear hf1
 refine wp_seq_k fun K2 hK2 => wp_region_lit ?_
 refine wms 1 h1 rfl fun a3 h3 => ?_; clear h1
 refine wpList_nil (hK2 _ _ ?_)
 refine wp_seq_k fun K4 hK4 => ?_
 refine x_tail 13 [] (by kernel_rfl) (by kernel_rfl) h3 fun Z5 hZ5 => ?_
 have hq5 := h3.fr
 refine wq_val hq5 (r_move rfl rfl) (wanted_none rfl _) rfl rfl fun a6 hq6 => ?_; clear hq5
 refine wq_val hq6 (r_nil rfl rfl) (wanted_none rfl _) rfl rfl fun a7 hq7 => ?_; clear hq6
 refine wq_val hq7 (r_fieldB (r := 0) fl_104_0 rfl rfl rfl) (wanted_none rfl _) rfl rfl fun a8 hq8 => ?_; clear hq7
 refine wq_val hq8 (r_ldbwR (vs := [cv, pw, .int .i64 locks, .int .i64 nregs]) ti_28 rfl rfl (fun w h => h.rblk 0 rfl) rfl rfl) (wanted_none rfl _) rfl rfl fun a9 hq9 => ?_; clear hq8
 refine wq_val hq9 (r_move rfl rfl) (wanted_none rfl _) rfl rfl fun a10 hq10 => ?_; clear hq9
 refine wq_val hq10 (r_nil rfl rfl) (wanted_none rfl _) rfl rfl fun a11 hq11 => ?_; clear hq10
 refine wq_val hq11 (r_fieldB (r := 4) fl_104_1 rfl rfl rfl) (wanted_none rfl _) rfl rfl fun a12 hq12 => ?_; clear hq11
 refine wq_val hq12 (r_ldbR ti_3 rfl rfl (fun w h => h.rblk 0 rfl) rfl) (wanted_none rfl _) rfl rfl fun a13 hq13 => ?_; clear hq12
 refine wq_val hq13 (r_move rfl rfl) (wanted_none rfl _) rfl rfl fun a14 hq14 => ?_; clear hq13
 refine wq_val hq14 (r_nil rfl rfl) (wanted_none rfl _) rfl rfl fun a15 hq15 => ?_; clear hq14
 refine wq_val hq15 (r_fieldB (r := 9) fl_104_6 rfl rfl rfl) (wanted_none rfl _) rfl rfl fun a16 hq16 => ?_; clear hq15
 refine wq_val hq16 (r_ldbR ti_4 rfl rfl (fun w h => h.rblk 0 rfl) rfl) (wanted_none rfl _) rfl rfl fun a17 hq17 => ?_; clear hq16
 refine wq_val hq17 (r_build (cs := [cv, pw, .int .i64 locks, .int .i64 nregs, .int .i64 mode, (.slice none 0 0), (.slice none 0 0), (.slice none 0 0), (.slice none 0 0), .bool fell]) rfl rfl (by kernel_rfl)) (wanted_none rfl _) rfl rfl fun a18 hq18 => ?_; clear hq17
 refine wpQuiet_nil (hZ5 _ fun w19 hw19 => ?_)
 have h19 : St 98 (fun _ => False) W a18 w19 _ _ := ⟨hq18, hw19⟩
 clear hq18 hw19 h3
 refine wl_ex (x_box (cs := [cv, pw, .int .i64 locks, .int .i64 nregs, .int .i64 mode, (.slice none 0 0), (.slice none 0 0), (.slice none 0 0), (.slice none 0 0), .bool fell]) h19 rfl rfl rfl rfl rfl) (wanted_none rfl _) ?_
 rintro a20 w20 ⟨b20, h20⟩; clear h19
 refine wms 1 h20 rfl fun a21 h21 => ?_; clear h20
 refine wpList_nil (hK4 _ _ ?_)
 refine wp_seq_k fun K22 hK22 => wp_region_lit ?_
 refine wms 1 h21 rfl fun a23 h23 => ?_; clear h21
 refine wl_ex (x_lit0 (α := Int) h23 sl_24 ti_3 rfl rfl rfl) (wanted_none rfl _) ?_
 rintro a24 w24 ⟨v24, h24⟩; clear h23
 refine wms 1 h24 rfl fun a25 h25 => ?_; clear h24
 refine wv h25 (r_nil rfl rfl) rfl rfl fun a26 h26 => ?_; clear h25
 refine wv h26 (r_fieldB (r := 6) fl_104_3 rfl rfl rfl) rfl rfl fun a27 h27 => ?_; clear h26
 refine wv h27 (r_ldbR ti_24 rfl rfl (fun w h => h.rblk 2 rfl) rfl) rfl rfl fun a28 h28 => ?_; clear h27
 refine wl_ex (x_app (r := 0) (rm := 4) (s := (⟨v24, []⟩ : Ls Int)) (m := words) h28 sl_24 ti_3 rfl rfl rfl rfl rfl rfl rfl (fun w h => (h.at 4 rfl)) (fun b hb => .inr hb) (fun q hq b hb => .inr ⟨q, hq, hb⟩) rfl rfl rfl inferInstance (show (([]).length + words.l.length) * 8 ≤ 140737488355328 ∧ ([]).length + words.l.length ≤ 140737488355328 from (by first | omega | (simp only [lens9]; omega))) rfl rfl) (wanted_none rfl _) ?_
 rintro a29 w29 ⟨v29, h29⟩; clear h28
 refine wv h29 (r_nil rfl rfl) rfl rfl fun a30 h30 => ?_; clear h29
 refine wv h30 (r_fieldB (r := 6) fl_104_3 rfl rfl rfl) rfl rfl fun a31 h31 => ?_; clear h30
 refine wl_ex (x_stb (i := 1) (vs := [v29]) (cs' := [cv, pw, .int .i64 locks, .int .i64 nregs, .int .i64 mode, (.slice none 0 0), v29, (.slice none 0 0), (.slice none 0 0), .bool fell]) h31 ti_24 rfl rfl rfl rfl rfl (cells_oneL ((h31.sh.own 0 rfl)).one) rfl (allOne_cons ((h31.sh.own 0 rfl)).one allOne_nil) (Nat.le_of_ble_eq_true rfl) rfl) (wanted_none rfl _) ?_
 rintro a32 w32 h32
 clear h31
 refine wpList_nil (hK22 _ _ ?_)
 have h33 : St 98 (fun _ => False) W a32 w32 [(0, .pointer (some ⟨g, 0, none⟩)), (3, .pointer (some ⟨b20, 0, none⟩))] [.own 3 (⟨v29, words.l⟩ : Ls Int), .blk b20 104 [cv, pw, .int .i64 locks, .int .i64 nregs, .int .i64 mode, (.slice none 0 0), v29, (.slice none 0 0), (.slice none 0 0), .bool fell], .rblk g 104 [cv, pw, .int .i64 locks, .int .i64 nregs, .int .i64 mode, thr.v, words.v, owner.v, prints.v, .bool fell], .at_ thr, .at_ words, .at_ owner, .at_ prints] := h32.nrm ⟨rfl, rfl, trivial⟩ [0, 1, 2, 3, 4, 5, 6] (by decide) ⟨rfl, rfl, rfl, rfl, rfl, rfl, rfl, trivial⟩
 clear h32
 refine wp_seq_k fun K34 hK34 => wp_region_lit ?_
 refine wms 1 h33 rfl fun a35 h35 => ?_; clear h33
 refine wl_ex (x_lit0 (α := Int) h35 sl_24 ti_3 rfl rfl rfl) (wanted_none rfl _) ?_
 rintro a36 w36 ⟨v36, h36⟩; clear h35
 refine wms 1 h36 rfl fun a37 h37 => ?_; clear h36
 refine wv h37 (r_nil rfl rfl) rfl rfl fun a38 h38 => ?_; clear h37
 refine wv h38 (r_fieldB (r := 7) fl_104_4 rfl rfl rfl) rfl rfl fun a39 h39 => ?_; clear h38
 refine wv h39 (r_ldbR ti_24 rfl rfl (fun w h => h.rblk 3 rfl) rfl) rfl rfl fun a40 h40 => ?_; clear h39
 refine wl_ex (x_app (r := 0) (rm := 6) (s := (⟨v36, []⟩ : Ls Int)) (m := owner) h40 sl_24 ti_3 rfl rfl rfl rfl rfl rfl rfl (fun w h => (h.at 6 rfl)) (fun b hb => .inr hb) (fun q hq b hb => .inr ⟨q, hq, hb⟩) rfl rfl rfl inferInstance (show (([]).length + owner.l.length) * 8 ≤ 140737488355328 ∧ ([]).length + owner.l.length ≤ 140737488355328 from (by first | omega | (simp only [lens9]; omega))) rfl rfl) (wanted_none rfl _) ?_
 rintro a41 w41 ⟨v41, h41⟩; clear h40
 refine wv h41 (r_nil rfl rfl) rfl rfl fun a42 h42 => ?_; clear h41
 refine wv h42 (r_fieldB (r := 7) fl_104_4 rfl rfl rfl) rfl rfl fun a43 h43 => ?_; clear h42
 refine wl_ex (x_stb (i := 2) (vs := [v41]) (cs' := [cv, pw, .int .i64 locks, .int .i64 nregs, .int .i64 mode, (.slice none 0 0), v29, v41, (.slice none 0 0), .bool fell]) h43 ti_24 rfl rfl rfl rfl rfl (cells_oneL ((h43.sh.own 0 rfl)).one) rfl (allOne_cons ((h43.sh.own 0 rfl)).one allOne_nil) (Nat.le_of_ble_eq_true rfl) rfl) (wanted_none rfl _) ?_
 rintro a44 w44 h44
 clear h43
 refine wpList_nil (hK34 _ _ ?_)
 refine wp_seq_k fun K45 hK45 => wp_region_lit ?_
 refine wms 1 h44 rfl fun a46 h46 => ?_; clear h44
 refine wl_ex (x_lit0 (α := Int) h46 sl_24 ti_3 rfl rfl rfl) (wanted_none rfl _) ?_
 rintro a47 w47 ⟨v47, h47⟩; clear h46
 refine wms 1 h47 rfl fun a48 h48 => ?_; clear h47
 refine wv h48 (r_nil rfl rfl) rfl rfl fun a49 h49 => ?_; clear h48
 refine wv h49 (r_fieldB (r := 8) fl_104_5 rfl rfl rfl) rfl rfl fun a50 h50 => ?_; clear h49
 refine wv h50 (r_ldbR ti_24 rfl rfl (fun w h => h.rblk 4 rfl) rfl) rfl rfl fun a51 h51 => ?_; clear h50
 refine wl_ex (x_app (r := 0) (rm := 8) (s := (⟨v47, []⟩ : Ls Int)) (m := prints) h51 sl_24 ti_3 rfl rfl rfl rfl rfl rfl rfl (fun w h => (h.at 8 rfl)) (fun b hb => .inr hb) (fun q hq b hb => .inr ⟨q, hq, hb⟩) rfl rfl rfl inferInstance (show (([]).length + prints.l.length) * 8 ≤ 140737488355328 ∧ ([]).length + prints.l.length ≤ 140737488355328 from (by first | omega | (simp only [lens9]; omega))) rfl rfl) (wanted_none rfl _) ?_
 rintro a52 w52 ⟨v52, h52⟩; clear h51
 refine wv h52 (r_nil rfl rfl) rfl rfl fun a53 h53 => ?_; clear h52
 refine wv h53 (r_fieldB (r := 8) fl_104_5 rfl rfl rfl) rfl rfl fun a54 h54 => ?_; clear h53
 refine wl_ex (x_stb (i := 3) (vs := [v52]) (cs' := [cv, pw, .int .i64 locks, .int .i64 nregs, .int .i64 mode, (.slice none 0 0), v29, v41, v52, .bool fell]) h54 ti_24 rfl rfl rfl rfl rfl (cells_oneL ((h54.sh.own 0 rfl)).one) rfl (allOne_cons ((h54.sh.own 0 rfl)).one allOne_nil) (Nat.le_of_ble_eq_true rfl) rfl) (wanted_none rfl _) ?_
 rintro a55 w55 h55
 clear h54
 refine wpList_nil (hK45 _ _ ?_)
 refine wp_seq_k fun K56 hK56 => ?_
 refine wp_seq_k fun K57 hK57 => wp_region_lit ?_
 refine wms 1 h55 rfl fun a58 h58 => ?_; clear h55
 refine wpList_nil (hK57 _ _ ?_)
 refine wp_block ?_
 have h60 := h58.nil (α := ThV) 101
 clear h58
 have h61 := h60.big0 3 139
 clear h60
 refine x_loop (fun m a w => ∃ (i : Nat) (rows : List ThL) (vt : Value), (i ≤ thr.l.length) ∧ (rows.length = i) ∧ (rows.map ThL.th = (thr.l.take i).map ThL.th) ∧ St 98 (fun _ => False) W a w [(0, .pointer (some ⟨g, 0, none⟩)), (3, .pointer (some ⟨b20, 0, none⟩)), (4, .int .i64 ((i : Nat) : Int))] [.own 3 (⟨v52, prints.l⟩ : Ls Int), .own 3 (⟨v41, owner.l⟩ : Ls Int), .own 3 (⟨v29, words.l⟩ : Ls Int), .blk b20 104 [cv, pw, .int .i64 locks, .int .i64 nregs, .int .i64 mode, vt, v29, v41, v52, .bool fell], .rblk g 104 [cv, pw, .int .i64 locks, .int .i64 nregs, .int .i64 mode, thr.v, words.v, owner.v, prints.v, .bool fell], .at_ thr, .at_ words, .at_ owner, .at_ prints, .own 101 (⟨vt, rows.map ThL.toV⟩ : Ls ThV), .big (rowsA 3 139 rows)] ∧ m = thr.l.length - i) ⟨_, 0, [], _, (by omega), (rfl), (by simp), h61.nrm ⟨rfl, rfl, rfl, trivial⟩ [2, 3, 4, 5, 6, 7, 8, 9, 10, 1, 0] (by decide) ⟨rfl, rfl, rfl, rfl, rfl, rfl, rfl, rfl, rfl, rfl, rfl, trivial⟩, rfl⟩ ?_
 clear h61
 rintro m59 a59 w59 ⟨i, rows, vt, hi, hrl, hrw, h59, hm59⟩
 refine wp_seq_k fun K62 hK62 => ?_
 refine wp_seq_k fun K63 hK63 => wp_region_lit ?_
 refine wms 2 h59 rfl fun a64 h64 => ?_; clear h59
 refine wv h64 (r_nil rfl rfl) rfl rfl fun a65 h65 => ?_; clear h64
 refine wv h65 (r_fieldB (r := 5) fl_104_2 rfl rfl rfl) rfl rfl fun a66 h66 => ?_; clear h65
 refine wv h66 (r_ldbR ti_102 rfl rfl (fun w h => h.rblk 4 rfl) rfl) rfl rfl fun a67 h67 => ?_; clear h66
 have hl68 : thr.l.length ≤ 140737488355328 := (h67.sh.at 5 rfl).len
 refine wv h67 (r_len (s := thr) (n := thr.l.length) sl_102 rfl rfl (fun w h => (h.at 5 rfl)) rfl) rfl rfl fun a69 h69 => ?_; clear h67
 refine wv h69 (r_lssN (p := i) (q := thr.l.length) rfl rfl rfl) rfl rfl fun a70 h70 => ?_; clear h69
 refine wpList_nil (hK63 _ _ ?_)
 refine x_cond h70 rfl (fun hb71 => ?_) (fun hb71 => ?_)
 ·
  have hp71 : i < thr.l.length := of_decide_eq_true hb71
  refine wp_skip ?_
  refine hK62 _ _ ?_
  have hrgi := hrg i (by omega)
  have hwli := hwl i (by omega)
  refine wp_seq_k fun K72 hK72 => ?_
  refine wp_block ?_
  refine wp_seq_k fun K73 hK73 => wp_region_lit ?_
  refine wms 1 h70 rfl fun a74 h74 => ?_; clear h70
  refine wv h74 (r_nil rfl rfl) rfl rfl fun a75 h75 => ?_; clear h74
  refine wv h75 (r_fieldB (r := 5) fl_104_2 rfl rfl rfl) rfl rfl fun a76 h76 => ?_; clear h75
  refine wv h76 (r_ldbR ti_102 rfl rfl (fun w h => h.rblk 4 rfl) rfl) rfl rfl fun a77 h77 => ?_; clear h76
  refine wms 1 h77 rfl fun a78 h78 => ?_; clear h77
  refine wv h78 (r_ixN (s := thr) (q := i) sl_102 ti_101 rfl rfl rfl (fun w h => (h.at 5 rfl)) (show i < thr.l.length from (by omega))) rfl rfl fun a79 h79 => ?_; clear h78
  refine wv h79 (r_fieldE (r := 0) fl_101_0 rfl rfl rfl) rfl rfl fun a80 h80 => ?_; clear h79
  refine wv h80 (r_lde (s := thr) (i := i) (v := .int .i64 ((nth thr.l i).pc)) ti_3 rfl rfl rfl (fun w h => (h.at 5 rfl)) (show i < thr.l.length from (by omega)) (Nat.le_of_ble_eq_true rfl) rfl) rfl rfl fun a81 h81 => ?_; clear h80
  refine wv h81 (r_build (cs := [.int .i64 ((nth thr.l i).pc), (.slice none 0 0), (.slice none 0 0)]) rfl rfl (by kernel_rfl)) rfl rfl fun a82 h82 => ?_; clear h81
  refine wl_ex (x_alloc h82 ti_101 rfl rfl rfl) (wanted_none rfl _) ?_
  rintro a83 w83 ⟨b83, h83⟩; clear h82
  refine wl_ex (x_stb (i := 0) (vs := [.int .i64 ((nth thr.l i).pc), (.slice none 0 0), (.slice none 0 0)]) (cs' := [.int .i64 ((nth thr.l i).pc), (.slice none 0 0), (.slice none 0 0)]) h83 ti_101 rfl rfl rfl rfl rfl rfl rfl (allOne_cons rfl (allOne_cons rfl (allOne_cons rfl allOne_nil))) (Nat.le_of_ble_eq_true rfl) rfl) (wanted_none rfl _) ?_
  rintro a84 w84 h84
  clear h83
  refine wpList_nil (hK73 _ _ ?_)
  refine wp_seq_k fun K85 hK85 => wp_region_lit ?_
  refine wl_ex (x_lit0 (α := Int) h84 sl_24 ti_3 rfl rfl rfl) (wanted_none rfl _) ?_
  rintro a86 w86 ⟨v86, h86⟩; clear h84
  refine wms 1 h86 rfl fun a87 h87 => ?_; clear h86
  refine wv h87 (r_nil rfl rfl) rfl rfl fun a88 h88 => ?_; clear h87
  refine wv h88 (r_fieldB (r := 5) fl_104_2 rfl rfl rfl) rfl rfl fun a89 h89 => ?_; clear h88
  refine wv h89 (r_ldbR ti_102 rfl rfl (fun w h => h.rblk 6 rfl) rfl) rfl rfl fun a90 h90 => ?_; clear h89
  refine wms 1 h90 rfl fun a91 h91 => ?_; clear h90
  refine wv h91 (r_ixN (s := thr) (q := i) sl_102 ti_101 rfl rfl rfl (fun w h => (h.at 7 rfl)) (show i < thr.l.length from (by omega))) rfl rfl fun a92 h92 => ?_; clear h91
  refine wv h92 (r_fieldE (r := 1) fl_101_1 rfl rfl rfl) rfl rfl fun a93 h93 => ?_; clear h92
  refine wv h93 (r_lde (s := thr) (i := i) (v := ((nth thr.l i).regs).v) ti_24 rfl rfl rfl (fun w h => (h.at 7 rfl)) (show i < thr.l.length from (by omega)) (Nat.le_of_ble_eq_true rfl) rfl) rfl rfl fun a94 h94 => ?_; clear h93
  refine wl_ex (x_app (r := 0) (rm := 7) (s := (⟨v86, []⟩ : Ls Int)) (m := (nth thr.l i).regs) h94 sl_24 ti_3 rfl rfl rfl rfl rfl rfl rfl (fun w h => ((h.at 7 rfl).inner i (show i < thr.l.length from (by omega))).1) (fun b hb => .inr (.inr ⟨i, (show i < thr.l.length from (by omega)), .inl hb⟩)) (fun q hq b hb => (Flat.on _ _ hb).elim) rfl rfl rfl inferInstance (show (([]).length + (((nth thr.l i).regs).l).length) * 8 ≤ 140737488355328 ∧ ([]).length + (((nth thr.l i).regs).l).length ≤ 140737488355328 from (by first | omega | (simp only [lens9]; omega))) rfl rfl) (wanted_none rfl _) ?_
  rintro a95 w95 ⟨v95, h95⟩; clear h94
  refine wv h95 (r_fieldB (r := 1) fl_101_1 rfl rfl rfl) rfl rfl fun a96 h96 => ?_; clear h95
  refine wl_ex (x_stb (i := 1) (vs := [v95]) (cs' := [.int .i64 ((nth thr.l i).pc), v95, (.slice none 0 0)]) h96 ti_24 rfl rfl rfl rfl rfl (cells_oneL ((h96.sh.own 0 rfl)).one) rfl (allOne_cons ((h96.sh.own 0 rfl)).one allOne_nil) (Nat.le_of_ble_eq_true rfl) rfl) (wanted_none rfl _) ?_
  rintro a97 w97 h97
  clear h96
  refine wpList_nil (hK85 _ _ ?_)
  have h98 : St 98 (fun _ => False) W a97 w97 [(0, .pointer (some ⟨g, 0, none⟩)), (3, .pointer (some ⟨b20, 0, none⟩)), (4, .int .i64 ((i : Nat) : Int)), (5, .pointer (some ⟨b83, 0, none⟩))] [.own 3 (⟨v95, ((nth thr.l i).regs).l⟩ : Ls Int), .blk b83 101 [.int .i64 ((nth thr.l i).pc), v95, (.slice none 0 0)], .own 3 (⟨v52, prints.l⟩ : Ls Int), .own 3 (⟨v41, owner.l⟩ : Ls Int), .own 3 (⟨v29, words.l⟩ : Ls Int), .blk b20 104 [cv, pw, .int .i64 locks, .int .i64 nregs, .int .i64 mode, vt, v29, v41, v52, .bool fell], .rblk g 104 [cv, pw, .int .i64 locks, .int .i64 nregs, .int .i64 mode, thr.v, words.v, owner.v, prints.v, .bool fell], .at_ thr, .at_ words, .at_ owner, .at_ prints, .own 101 (⟨vt, rows.map ThL.toV⟩ : Ls ThV), .big (rowsA 3 139 rows)] := h97.nrm ⟨rfl, rfl, rfl, rfl, trivial⟩ [0, 1, 2, 3, 4, 5, 6, 7, 8, 9, 10, 11, 12] (by decide) ⟨rfl, rfl, rfl, rfl, rfl, rfl, rfl, rfl, rfl, rfl, rfl, rfl, rfl, trivial⟩
  clear h97
  refine wp_seq_k fun K99 hK99 => wp_region_lit ?_
  refine wl_ex (x_lit0 (α := Wt) h98 sl_99 ti_139 rfl rfl rfl) (wanted_none rfl _) ?_
  rintro a100 w100 ⟨v100, h100⟩; clear h98
  refine wms 1 h100 rfl fun a101 h101 => ?_; clear h100
  refine wv h101 (r_nil rfl rfl) rfl rfl fun a102 h102 => ?_; clear h101
  refine wv h102 (r_fieldB (r := 5) fl_104_2 rfl rfl rfl) rfl rfl fun a103 h103 => ?_; clear h102
  refine wv h103 (r_ldbR ti_102 rfl rfl (fun w h => h.rblk 7 rfl) rfl) rfl rfl fun a104 h104 => ?_; clear h103
  refine wms 1 h104 rfl fun a105 h105 => ?_; clear h104
  refine wv h105 (r_ixN (s := thr) (q := i) sl_102 ti_101 rfl rfl rfl (fun w h => (h.at 8 rfl)) (show i < thr.l.length from (by omega))) rfl rfl fun a106 h106 => ?_; clear h105
  refine wv h106 (r_fieldE (r := 2) fl_101_2 rfl rfl rfl) rfl rfl fun a107 h107 => ?_; clear h106
  refine wv h107 (r_lde (s := thr) (i := i) (v := ((nth thr.l i).wait).v) ti_99 rfl rfl rfl (fun w h => (h.at 8 rfl)) (show i < thr.l.length from (by omega)) (Nat.le_of_ble_eq_true rfl) rfl) rfl rfl fun a108 h108 => ?_; clear h107
  refine wl_ex (x_app (r := 0) (rm := 8) (s := (⟨v100, []⟩ : Ls Wt)) (m := (nth thr.l i).wait) h108 sl_99 ti_139 rfl rfl rfl rfl rfl rfl rfl (fun w h => ((h.at 8 rfl).inner i (show i < thr.l.length from (by omega))).2) (fun b hb => .inr (.inr ⟨i, (show i < thr.l.length from (by omega)), .inr hb⟩)) (fun q hq b hb => (Flat.on _ _ hb).elim) rfl rfl rfl inferInstance (show (([]).length + (((nth thr.l i).wait).l).length) * 24 ≤ 140737488355328 ∧ ([]).length + (((nth thr.l i).wait).l).length ≤ 140737488355328 from (by first | omega | (simp only [lens9]; omega))) rfl rfl) (wanted_none rfl _) ?_
  rintro a109 w109 ⟨v109, h109⟩; clear h108
  refine wv h109 (r_fieldB (r := 2) fl_101_2 rfl rfl rfl) rfl rfl fun a110 h110 => ?_; clear h109
  refine wl_ex (x_stb (i := 2) (vs := [v109]) (cs' := [.int .i64 ((nth thr.l i).pc), v95, v109]) h110 ti_99 rfl rfl rfl rfl rfl (cells_oneL ((h110.sh.own 0 rfl)).one) rfl (allOne_cons ((h110.sh.own 0 rfl)).one allOne_nil) (Nat.le_of_ble_eq_true rfl) rfl) (wanted_none rfl _) ?_
  rintro a111 w111 h111
  clear h110
  refine wpList_nil (hK99 _ _ ?_)
  have h112 : St 98 (fun _ => False) W a111 w111 [(0, .pointer (some ⟨g, 0, none⟩)), (3, .pointer (some ⟨b20, 0, none⟩)), (4, .int .i64 ((i : Nat) : Int)), (5, .pointer (some ⟨b83, 0, none⟩)), (76, v100), (77, .pointer (some ⟨g, 0, none⟩)), (78, .pointer (some ⟨g, 0, none⟩)), (79, .pointer (some ⟨g, 5, none⟩)), (80, thr.v), (81, .int .i64 ((i : Nat) : Int)), (82, .pointer (some (padr thr.v 3 i 0))), (83, .pointer (some (padr thr.v 3 i 2))), (84, ((nth thr.l i).wait).v), (85, v109), (86, .pointer (some ⟨b83, 2, none⟩))] [.own 139 (⟨v109, ((nth thr.l i).wait).l⟩ : Ls Wt), .own 3 (⟨v95, ((nth thr.l i).regs).l⟩ : Ls Int), .blk b83 101 [.int .i64 ((nth thr.l i).pc), v95, v109], .own 3 (⟨v52, prints.l⟩ : Ls Int), .own 3 (⟨v41, owner.l⟩ : Ls Int), .own 3 (⟨v29, words.l⟩ : Ls Int), .blk b20 104 [cv, pw, .int .i64 locks, .int .i64 nregs, .int .i64 mode, vt, v29, v41, v52, .bool fell], .rblk g 104 [cv, pw, .int .i64 locks, .int .i64 nregs, .int .i64 mode, thr.v, words.v, owner.v, prints.v, .bool fell], .at_ thr, .at_ words, .at_ owner, .at_ prints, .own 101 (⟨vt, rows.map ThL.toV⟩ : Ls ThV), .big (rowsA 3 139 rows)] := h111.nrm ⟨rfl, rfl, rfl, rfl, rfl, rfl, rfl, rfl, rfl, rfl, rfl, rfl, rfl, rfl, rfl, trivial⟩ [0, 1, 2, 3, 4, 5, 6, 7, 8, 9, 10, 11, 12, 13] (by decide) ⟨rfl, rfl, rfl, rfl, rfl, rfl, rfl, rfl, rfl, rfl, rfl, rfl, rfl, rfl, trivial⟩
  clear h111
  refine x_any (fun S a w => (S 6 = false ∧ S 7 = false ∧ S 10 = false ∧ FrI 98 S [(0, .pointer (some ⟨g, 0, none⟩)), (3, .pointer (some ⟨b20, 0, none⟩)), (4, .int .i64 ((i : Nat) : Int)), (5, .pointer (some ⟨b83, 0, none⟩)), (76, v100), (77, .pointer (some ⟨g, 0, none⟩)), (78, .pointer (some ⟨g, 0, none⟩)), (79, .pointer (some ⟨g, 5, none⟩)), (80, thr.v), (81, .int .i64 ((i : Nat) : Int)), (82, .pointer (some (padr thr.v 3 i 0))), (83, .pointer (some (padr thr.v 3 i 2))), (84, ((nth thr.l i).wait).v), (85, v109), (86, .pointer (some ⟨b83, 2, none⟩))] [(0, 87, .pointer (some ⟨b20, 0, none⟩)), (1, 88, .pointer (some ⟨b20, 0, none⟩)), (2, 89, .pointer (some ⟨b20, 0, none⟩)), (3, 90, .pointer (some ⟨b20, 5, none⟩)), (4, 91, vt), (5, 92, .agg #[.int .i64 ((nth thr.l i).pc), v95, v109])] a ∧ Sh (fun _ => False) W w [.own 139 (⟨v109, ((nth thr.l i).wait).l⟩ : Ls Wt), .own 3 (⟨v95, ((nth thr.l i).regs).l⟩ : Ls Int), .blk b83 101 [.int .i64 ((nth thr.l i).pc), v95, v109], .own 3 (⟨v52, prints.l⟩ : Ls Int), .own 3 (⟨v41, owner.l⟩ : Ls Int), .own 3 (⟨v29, words.l⟩ : Ls Int), .blk b20 104 [cv, pw, .int .i64 locks, .int .i64 nregs, .int .i64 mode, vt, v29, v41, v52, .bool fell], .rblk g 104 [cv, pw, .int .i64 locks, .int .i64 nregs, .int .i64 mode, thr.v, words.v, owner.v, prints.v, .bool fell], .at_ thr, .at_ words, .at_ owner, .at_ prints, .own 101 (⟨vt, rows.map ThL.toV⟩ : Ls ThV), .big (rowsA 3 139 rows)]) ∨ (S 6 = true ∧ S 7 = false ∧ S 10 = false ∧ ∃ (v7006 : Value), FrI 98 S [(0, .pointer (some ⟨g, 0, none⟩)), (3, .pointer (some ⟨b20, 0, none⟩)), (4, .int .i64 ((i : Nat) : Int)), (5, .pointer (some ⟨b83, 0, none⟩)), (76, v100), (77, .pointer (some ⟨g, 0, none⟩)), (78, .pointer (some ⟨g, 0, none⟩)), (79, .pointer (some ⟨g, 5, none⟩)), (80, thr.v), (81, .int .i64 ((i : Nat) : Int)), (82, .pointer (some (padr thr.v 3 i 0))), (83, .pointer (some (padr thr.v 3 i 2))), (84, ((nth thr.l i).wait).v), (85, v109), (86, .pointer (some ⟨b83, 2, none⟩))] [(0, 87, .pointer (some ⟨b20, 0, none⟩)), (1, 88, .pointer (some ⟨b20, 0, none⟩)), (2, 89, .pointer (some ⟨b20, 0, none⟩)), (3, 90, .pointer (some ⟨b20, 5, none⟩)), (4, 91, vt), (5, 92, .agg #[.int .i64 ((nth thr.l i).pc), v95, v109]), (6, 93, v7006)] a ∧ Sh (fun _ => False) W w [.own 101 (⟨v7006, [(⟨(nth thr.l i).pc, v95, v109⟩ : ThV)]⟩ : Ls ThV), .own 139 (⟨v109, ((nth thr.l i).wait).l⟩ : Ls Wt), .own 3 (⟨v95, ((nth thr.l i).regs).l⟩ : Ls Int), .blk b83 101 [.int .i64 ((nth thr.l i).pc), v95, v109], .own 3 (⟨v52, prints.l⟩ : Ls Int), .own 3 (⟨v41, owner.l⟩ : Ls Int), .own 3 (⟨v29, words.l⟩ : Ls Int), .blk b20 104 [cv, pw, .int .i64 locks, .int .i64 nregs, .int .i64 mode, vt, v29, v41, v52, .bool fell], .rblk g 104 [cv, pw, .int .i64 locks, .int .i64 nregs, .int .i64 mode, thr.v, words.v, owner.v, prints.v, .bool fell], .at_ thr, .at_ words, .at_ owner, .at_ prints, .own 101 (⟨vt, rows.map ThL.toV⟩ : Ls ThV), .big (rowsA 3 139 rows)]) ∨ (S 6 = true ∧ S 7 = true ∧ S 10 = false ∧ ∃ (v7006 : Value) (v7007 : Value), FrI 98 S [(0, .pointer (some ⟨g, 0, none⟩)), (3, .pointer (some ⟨b20, 0, none⟩)), (4, .int .i64 ((i : Nat) : Int)), (5, .pointer (some ⟨b83, 0, none⟩)), (76, v100), (77, .pointer (some ⟨g, 0, none⟩)), (78, .pointer (some ⟨g, 0, none⟩)), (79, .pointer (some ⟨g, 5, none⟩)), (80, thr.v), (81, .int .i64 ((i : Nat) : Int)), (82, .pointer (some (padr thr.v 3 i 0))), (83, .pointer (some (padr thr.v 3 i 2))), (84, ((nth thr.l i).wait).v), (85, v109), (86, .pointer (some ⟨b83, 2, none⟩))] [(0, 87, .pointer (some ⟨b20, 0, none⟩)), (1, 88, .pointer (some ⟨b20, 0, none⟩)), (2, 89, .pointer (some ⟨b20, 0, none⟩)), (3, 90, .pointer (some ⟨b20, 5, none⟩)), (4, 91, vt), (5, 92, .agg #[.int .i64 ((nth thr.l i).pc), v95, v109]), (6, 93, v7006), (7, 94, v7007), (8, 95, .pointer (some ⟨b20, 0, none⟩)), (9, 96, .pointer (some ⟨b20, 5, none⟩))] a ∧ Sh (fun _ => False) W w [.own 101 (⟨v7006, [(⟨(nth thr.l i).pc, v95, v109⟩ : ThV)]⟩ : Ls ThV), .own 139 (⟨v109, ((nth thr.l i).wait).l⟩ : Ls Wt), .own 3 (⟨v95, ((nth thr.l i).regs).l⟩ : Ls Int), .blk b83 101 [.int .i64 ((nth thr.l i).pc), v95, v109], .own 3 (⟨v52, prints.l⟩ : Ls Int), .own 3 (⟨v41, owner.l⟩ : Ls Int), .own 3 (⟨v29, words.l⟩ : Ls Int), .blk b20 104 [cv, pw, .int .i64 locks, .int .i64 nregs, .int .i64 mode, vt, v29, v41, v52, .bool fell], .rblk g 104 [cv, pw, .int .i64 locks, .int .i64 nregs, .int .i64 mode, thr.v, words.v, owner.v, prints.v, .bool fell], .at_ thr, .at_ words, .at_ owner, .at_ prints, .own 101 (⟨v7007, (rows.map ThL.toV) ++ ([(⟨(nth thr.l i).pc, v95, v109⟩ : ThV)])⟩ : Ls ThV), .big (rowsA 3 139 rows)]) ∨ (S 6 = true ∧ S 7 = true ∧ S 10 = true ∧ ∃ (v7006 : Value) (v7007 : Value), FrI 98 S [(0, .pointer (some ⟨g, 0, none⟩)), (3, .pointer (some ⟨b20, 0, none⟩)), (4, .int .i64 ((i : Nat) : Int)), (5, .pointer (some ⟨b83, 0, none⟩)), (76, v100), (77, .pointer (some ⟨g, 0, none⟩)), (78, .pointer (some ⟨g, 0, none⟩)), (79, .pointer (some ⟨g, 5, none⟩)), (80, thr.v), (81, .int .i64 ((i : Nat) : Int)), (82, .pointer (some (padr thr.v 3 i 0))), (83, .pointer (some (padr thr.v 3 i 2))), (84, ((nth thr.l i).wait).v), (85, v109), (86, .pointer (some ⟨b83, 2, none⟩))] [(0, 87, .pointer (some ⟨b20, 0, none⟩)), (1, 88, .pointer (some ⟨b20, 0, none⟩)), (2, 89, .pointer (some ⟨b20, 0, none⟩)), (3, 90, .pointer (some ⟨b20, 5, none⟩)), (4, 91, vt), (5, 92, .agg #[.int .i64 ((nth thr.l i).pc), v95, v109]), (6, 93, v7006), (7, 94, v7007), (8, 95, .pointer (some ⟨b20, 0, none⟩)), (9, 96, .pointer (some ⟨b20, 5, none⟩))] a ∧ Sh (fun _ => False) W w [.own 101 (⟨v7006, [(⟨(nth thr.l i).pc, v95, v109⟩ : ThV)]⟩ : Ls ThV), .own 139 (⟨v109, ((nth thr.l i).wait).l⟩ : Ls Wt), .own 3 (⟨v95, ((nth thr.l i).regs).l⟩ : Ls Int), .blk b83 101 [.int .i64 ((nth thr.l i).pc), v95, v109], .own 3 (⟨v52, prints.l⟩ : Ls Int), .own 3 (⟨v41, owner.l⟩ : Ls Int), .own 3 (⟨v29, words.l⟩ : Ls Int), .blk b20 104 [cv, pw, .int .i64 locks, .int .i64 nregs, .int .i64 mode, v7007, v29, v41, v52, .bool fell], .rblk g 104 [cv, pw, .int .i64 locks, .int .i64 nregs, .int .i64 mode, thr.v, words.v, owner.v, prints.v, .bool fell], .at_ thr, .at_ words, .at_ owner, .at_ prints, .own 101 (⟨v7007, (rows.map ThL.toV) ++ ([(⟨(nth thr.l i).pc, v95, v109⟩ : ThV)])⟩ : Ls ThV), .big (rowsA 3 139 rows)])) (by kernel_rfl) (by kernel_rfl) (Or.inl (⟨rfl, rfl, rfl, FrI.start h112.fr, h112.sh.drew⟩)) ?_ ?_
  ·intro S i o ho hSi hcl hdep a w hI
   clear h112
   rcases i with _ | _ | _ | _ | _ | _ | _ | _ | _ | _ | _ | i
   ·
    obtain rfl : _ = o := Option.some.inj ho
    rcases hI with ⟨hw6, hw7, hw10, hfr, hsh⟩ | ⟨hw6, hw7, hw10, v7006, hfr, hsh⟩ | ⟨hw6, hw7, hw10, v7006, v7007, hfr, hsh⟩ | ⟨hw6, hw7, hw10, v7006, v7007, hfr, hsh⟩
    ·
     exact sq hfr hfr.fr0 hsh (r_move rfl rfl) 0 rfl rfl rfl rfl rfl rfl fun a hg => Or.inl (⟨un rfl hw6, un rfl hw7, un rfl hw10, hg, hsh⟩)
    ·
     exact sq hfr hfr.fr0 hsh (r_move rfl rfl) 0 rfl rfl rfl rfl rfl rfl fun a hg => Or.inr (Or.inl (⟨un rfl hw6, un rfl hw7, un rfl hw10, v7006, hg, hsh⟩))
    ·
     exact sq hfr hfr.fr0 hsh (r_move rfl rfl) 0 rfl rfl rfl rfl rfl rfl fun a hg => Or.inr (Or.inr (Or.inl (⟨un rfl hw6, un rfl hw7, un rfl hw10, v7006, v7007, hg, hsh⟩)))
    ·
     exact no_way (cA hcl 10 0 rfl hw10) hSi
   ·
    obtain rfl : _ = o := Option.some.inj ho
    rcases hI with ⟨hw6, hw7, hw10, hfr, hsh⟩ | ⟨hw6, hw7, hw10, v7006, hfr, hsh⟩ | ⟨hw6, hw7, hw10, v7006, v7007, hfr, hsh⟩ | ⟨hw6, hw7, hw10, v7006, v7007, hfr, hsh⟩
    ·
     exact sq hfr hfr.fr0 hsh (r_move rfl rfl) 1 rfl rfl rfl rfl rfl rfl fun a hg => Or.inl (⟨un rfl hw6, un rfl hw7, un rfl hw10, hg, hsh⟩)
    ·
     exact sq hfr hfr.fr0 hsh (r_move rfl rfl) 1 rfl rfl rfl rfl rfl rfl fun a hg => Or.inr (Or.inl (⟨un rfl hw6, un rfl hw7, un rfl hw10, v7006, hg, hsh⟩))
    ·
     exact no_way (cA hcl 7 1 rfl hw7) hSi
    ·
     exact no_way (cA hcl 7 1 rfl hw7) hSi
   ·
    obtain rfl : _ = o := Option.some.inj ho
    have hd1 : S 1 = true := depAt hdep 0 rfl rfl
    rcases hI with ⟨hw6, hw7, hw10, hfr, hsh⟩ | ⟨hw6, hw7, hw10, v7006, hfr, hsh⟩ | ⟨hw6, hw7, hw10, v7006, v7007, hfr, hsh⟩ | ⟨hw6, hw7, hw10, v7006, v7007, hfr, hsh⟩
    ·
     exact sq hfr (Fr.cons hfr.fr0 (hfr.at_ 1 1 88 _ rfl hd1)) hsh (r_nil rfl rfl) 2 rfl rfl rfl rfl rfl rfl fun a hg => Or.inl (⟨un rfl hw6, un rfl hw7, un rfl hw10, hg, hsh⟩)
    ·
     exact sq hfr (Fr.cons hfr.fr0 (hfr.at_ 1 1 88 _ rfl hd1)) hsh (r_nil rfl rfl) 2 rfl rfl rfl rfl rfl rfl fun a hg => Or.inr (Or.inl (⟨un rfl hw6, un rfl hw7, un rfl hw10, v7006, hg, hsh⟩))
    ·
     exact no_way (cA hcl 7 2 rfl hw7) hSi
    ·
     exact no_way (cA hcl 7 2 rfl hw7) hSi
   ·
    obtain rfl : _ = o := Option.some.inj ho
    have hd2 : S 2 = true := depAt hdep 0 rfl rfl
    rcases hI with ⟨hw6, hw7, hw10, hfr, hsh⟩ | ⟨hw6, hw7, hw10, v7006, hfr, hsh⟩ | ⟨hw6, hw7, hw10, v7006, v7007, hfr, hsh⟩ | ⟨hw6, hw7, hw10, v7006, v7007, hfr, hsh⟩
    ·
     exact sq hfr (Fr.cons hfr.fr0 (hfr.at_ 2 2 89 _ rfl hd2)) hsh (r_fieldB (r := 5) fl_104_2 rfl rfl rfl) 3 rfl rfl rfl rfl rfl rfl fun a hg => Or.inl (⟨un rfl hw6, un rfl hw7, un rfl hw10, hg, hsh⟩)
    ·
     exact sq hfr (Fr.cons hfr.fr0 (hfr.at_ 2 2 89 _ rfl hd2)) hsh (r_fieldB (r := 5) fl_104_2 rfl rfl rfl) 3 rfl rfl rfl rfl rfl rfl fun a hg => Or.inr (Or.inl (⟨un rfl hw6, un rfl hw7, un rfl hw10, v7006, hg, hsh⟩))
    ·
     exact no_way (cA hcl 7 3 rfl hw7) hSi
    ·
     exact no_way (cA hcl 7 3 rfl hw7) hSi
   ·
    obtain rfl : _ = o := Option.some.inj ho
    have hd3 : S 3 = true := depAt hdep 0 rfl rfl
    rcases hI with ⟨hw6, hw7, hw10, hfr, hsh⟩ | ⟨hw6, hw7, hw10, v7006, hfr, hsh⟩ | ⟨hw6, hw7, hw10, v7006, v7007, hfr, hsh⟩ | ⟨hw6, hw7, hw10, v7006, v7007, hfr, hsh⟩
    ·
     exact sq hfr (Fr.cons hfr.fr0 (hfr.at_ 3 3 90 _ rfl hd3)) hsh (r_ldb (i := 6) ti_102 rfl rfl rfl rfl) 4 rfl rfl rfl rfl rfl rfl fun a hg => Or.inl (⟨un rfl hw6, un rfl hw7, un rfl hw10, hg, hsh⟩)
    ·
     exact sq hfr (Fr.cons hfr.fr0 (hfr.at_ 3 3 90 _ rfl hd3)) hsh (r_ldb (i := 7) ti_102 rfl rfl rfl rfl) 4 rfl rfl rfl rfl rfl rfl fun a hg => Or.inr (Or.inl (⟨un rfl hw6, un rfl hw7, un rfl hw10, v7006, hg, hsh⟩))
    ·
     exact no_way (cA hcl 7 4 rfl hw7) hSi
    ·
     exact no_way (cA hcl 7 4 rfl hw7) hSi
   ·
    obtain rfl : _ = o := Option.some.inj ho
    rcases hI with ⟨hw6, hw7, hw10, hfr, hsh⟩ | ⟨hw6, hw7, hw10, v7006, hfr, hsh⟩ | ⟨hw6, hw7, hw10, v7006, v7007, hfr, hsh⟩ | ⟨hw6, hw7, hw10, v7006, v7007, hfr, hsh⟩
    ·
     exact sq hfr hfr.fr0 hsh (r_ldbw (i := 2) (vs := [.int .i64 ((nth thr.l i).pc), v95, v109]) ti_101 rfl rfl rfl rfl rfl) 5 rfl rfl rfl rfl rfl rfl fun a hg => Or.inl (⟨un rfl hw6, un rfl hw7, un rfl hw10, hg, hsh⟩)
    ·
     exact no_way (cA hcl 6 5 rfl hw6) hSi
    ·
     exact no_way (cA hcl 6 5 rfl hw6) hSi
    ·
     exact no_way (cA hcl 6 5 rfl hw6) hSi
   ·
    obtain rfl : _ = o := Option.some.inj ho
    have hd5 : S 5 = true := depAt hdep 0 rfl rfl
    rcases hI with ⟨hw6, hw7, hw10, hfr, hsh⟩ | ⟨hw6, hw7, hw10, v7006, hfr, hsh⟩ | ⟨hw6, hw7, hw10, v7006, v7007, hfr, hsh⟩ | ⟨hw6, hw7, hw10, v7006, v7007, hfr, hsh⟩
    ·
     have hs := St.mk (Fr.cons hfr.fr0 (hfr.at_ 5 5 92 _ rfl hd5)) hsh
     refine step_ex (x_lit (n := 1) (cs := [.int .i64 ((nth thr.l i).pc), v95, v109]) ([(⟨(nth thr.l i).pc, v95, v109⟩ : ThV)] : List ThV) hs sl_102 ti_101 rfl rfl rfl (by decide) rfl (by kernel_rfl) rfl (fun q hq w h => Flat.inner _ _) (fun q hq b hb => (Flat.on _ _ hb).elim) rfl rfl) (wanted_none rfl _) ?_
     rintro a126 w126 ⟨v126, h126⟩ ⟨v0, ht126⟩
     have hm126 : FrI 98 S [(0, .pointer (some ⟨g, 0, none⟩)), (3, .pointer (some ⟨b20, 0, none⟩)), (4, .int .i64 ((i : Nat) : Int)), (5, .pointer (some ⟨b83, 0, none⟩)), (76, v100), (77, .pointer (some ⟨g, 0, none⟩)), (78, .pointer (some ⟨g, 0, none⟩)), (79, .pointer (some ⟨g, 5, none⟩)), (80, thr.v), (81, .int .i64 ((i : Nat) : Int)), (82, .pointer (some (padr thr.v 3 i 0))), (83, .pointer (some (padr thr.v 3 i 2))), (84, ((nth thr.l i).wait).v), (85, v109), (86, .pointer (some ⟨b83, 2, none⟩))] [(0, 87, .pointer (some ⟨b20, 0, none⟩)), (1, 88, .pointer (some ⟨b20, 0, none⟩)), (2, 89, .pointer (some ⟨b20, 0, none⟩)), (3, 90, .pointer (some ⟨b20, 5, none⟩)), (4, 91, vt), (5, 92, .agg #[.int .i64 ((nth thr.l i).pc), v95, v109]), (6, 93, v126)] a := hfr.more (by
      intro k j d v hk hS
      rcases k with _ | _ | _ | _ | _ | _ | _ | k
      ·obtain ⟨rfl, rfl, rfl⟩ : _ = j ∧ _ = d ∧ _ = v := by simpa using hk
       exact hfr.at_ 0 _ _ _ rfl hS
      ·obtain ⟨rfl, rfl, rfl⟩ : _ = j ∧ _ = d ∧ _ = v := by simpa using hk
       exact hfr.at_ 1 _ _ _ rfl hS
      ·obtain ⟨rfl, rfl, rfl⟩ : _ = j ∧ _ = d ∧ _ = v := by simpa using hk
       exact hfr.at_ 2 _ _ _ rfl hS
      ·obtain ⟨rfl, rfl, rfl⟩ : _ = j ∧ _ = d ∧ _ = v := by simpa using hk
       exact hfr.at_ 3 _ _ _ rfl hS
      ·obtain ⟨rfl, rfl, rfl⟩ : _ = j ∧ _ = d ∧ _ = v := by simpa using hk
       exact hfr.at_ 4 _ _ _ rfl hS
      ·obtain ⟨rfl, rfl, rfl⟩ : _ = j ∧ _ = d ∧ _ = v := by simpa using hk
       exact hfr.at_ 5 _ _ _ rfl hS
      ·obtain ⟨rfl, rfl, rfl⟩ : _ = j ∧ _ = d ∧ _ = v := by simpa using hk
       exact no_way hS hSi
      · simp at hk)
     exact Or.inr (Or.inl (⟨upd_self _ _, un rfl hw7, un rfl hw10, v126, hm126.step ht126 h126.fr.defers (h126.fr.at_ 93 _ rfl) 6 rfl rfl rfl rfl, (h126.sh.sel (L' := [.own 101 (⟨v126, [(⟨(nth thr.l i).pc, v95, v109⟩ : ThV)]⟩ : Ls ThV), .own 139 (⟨v109, ((nth thr.l i).wait).l⟩ : Ls Wt), .own 3 (⟨v95, ((nth thr.l i).regs).l⟩ : Ls Int), .blk b83 101 [.int .i64 ((nth thr.l i).pc), v95, v109], .own 3 (⟨v52, prints.l⟩ : Ls Int), .own 3 (⟨v41, owner.l⟩ : Ls Int), .own 3 (⟨v29, words.l⟩ : Ls Int), .blk b20 104 [cv, pw, .int .i64 locks, .int .i64 nregs, .int .i64 mode, vt, v29, v41, v52, .bool fell], .rblk g 104 [cv, pw, .int .i64 locks, .int .i64 nregs, .int .i64 mode, thr.v, words.v, owner.v, prints.v, .bool fell], .at_ thr, .at_ words, .at_ owner, .at_ prints, .own 101 (⟨vt, rows.map ThL.toV⟩ : Ls ThV), .big (rowsA 3 139 rows)]) [0, 1, 2, 3, 4, 5, 6, 7, 8, 9, 10, 11, 12, 13, 14] (by decide) ⟨rfl, rfl, rfl, rfl, rfl, rfl, rfl, rfl, rfl, rfl, rfl, rfl, rfl, rfl, rfl, trivial⟩)⟩))
    ·
     exact no_way hw6 hSi
    ·
     exact no_way hw6 hSi
    ·
     exact no_way hw6 hSi
   ·
    obtain rfl : _ = o := Option.some.inj ho
    have hd4 : S 4 = true := depAt hdep 0 rfl rfl
    have hd6 : S 6 = true := depAt hdep 1 rfl rfl
    rcases hI with ⟨hw6, hw7, hw10, hfr, hsh⟩ | ⟨hw6, hw7, hw10, v7006, hfr, hsh⟩ | ⟨hw6, hw7, hw10, v7006, v7007, hfr, hsh⟩ | ⟨hw6, hw7, hw10, v7006, v7007, hfr, hsh⟩
    ·
     exact no_way hd6 hw6
    ·
     have hs := St.mk (Fr.cons (Fr.cons hfr.fr0 (hfr.at_ 4 4 91 _ rfl hd4)) (hfr.at_ 6 6 93 _ rfl hd6)) hsh
     refine step_ex (x_app1 (r := 13) (rm := 0) (s := (⟨vt, rows.map ThL.toV⟩ : Ls ThV)) (m := (⟨v7006, [(⟨(nth thr.l i).pc, v95, v109⟩ : ThV)]⟩ : Ls ThV)) hs sl_102 ti_101 rfl rfl rfl rfl rfl rfl rfl (fun w h => (h.own 0 rfl)) (fun b hb => own_on (hs.sh.ok _ (List.mem_of_getElem? (i := 0) rfl)) hb) (fun q hq b hb => ⟨q, hq, hb⟩) rfl rfl rfl (fun w h q hq j hj => by obtain rfl : q = 0 := (by simpa using hq); rcases j with _ | _ | _ | j; exact rfl; exact ((h.own 2 rfl)).one; exact ((h.own 1 rfl)).one; exact absurd hj (by show ¬ (j + 3 < 3); omega)) (show ((rows.map ThL.toV).length + ([(⟨(nth thr.l i).pc, v95, v109⟩ : ThV)]).length) * 56 ≤ 140737488355328 ∧ (rows.map ThL.toV).length + ([(⟨(nth thr.l i).pc, v95, v109⟩ : ThV)]).length ≤ 140737488355328 from (by first | omega | (simp only [lens9]; omega))) rfl rfl) (wanted_none rfl _) ?_
     rintro a127 w127 ⟨v127, h127⟩ ⟨v0, ht127⟩
     have hm127 : FrI 98 S [(0, .pointer (some ⟨g, 0, none⟩)), (3, .pointer (some ⟨b20, 0, none⟩)), (4, .int .i64 ((i : Nat) : Int)), (5, .pointer (some ⟨b83, 0, none⟩)), (76, v100), (77, .pointer (some ⟨g, 0, none⟩)), (78, .pointer (some ⟨g, 0, none⟩)), (79, .pointer (some ⟨g, 5, none⟩)), (80, thr.v), (81, .int .i64 ((i : Nat) : Int)), (82, .pointer (some (padr thr.v 3 i 0))), (83, .pointer (some (padr thr.v 3 i 2))), (84, ((nth thr.l i).wait).v), (85, v109), (86, .pointer (some ⟨b83, 2, none⟩))] [(0, 87, .pointer (some ⟨b20, 0, none⟩)), (1, 88, .pointer (some ⟨b20, 0, none⟩)), (2, 89, .pointer (some ⟨b20, 0, none⟩)), (3, 90, .pointer (some ⟨b20, 5, none⟩)), (4, 91, vt), (5, 92, .agg #[.int .i64 ((nth thr.l i).pc), v95, v109]), (6, 93, v7006), (7, 94, v127), (8, 95, .pointer (some ⟨b20, 0, none⟩)), (9, 96, .pointer (some ⟨b20, 5, none⟩))] a := hfr.more (by
      intro k j d v hk hS
      rcases k with _ | _ | _ | _ | _ | _ | _ | _ | _ | _ | k
      ·obtain ⟨rfl, rfl, rfl⟩ : _ = j ∧ _ = d ∧ _ = v := by simpa using hk
       exact hfr.at_ 0 _ _ _ rfl hS
      ·obtain ⟨rfl, rfl, rfl⟩ : _ = j ∧ _ = d ∧ _ = v := by simpa using hk
       exact hfr.at_ 1 _ _ _ rfl hS
      ·obtain ⟨rfl, rfl, rfl⟩ : _ = j ∧ _ = d ∧ _ = v := by simpa using hk
       exact hfr.at_ 2 _ _ _ rfl hS
      ·obtain ⟨rfl, rfl, rfl⟩ : _ = j ∧ _ = d ∧ _ = v := by simpa using hk
       exact hfr.at_ 3 _ _ _ rfl hS
      ·obtain ⟨rfl, rfl, rfl⟩ : _ = j ∧ _ = d ∧ _ = v := by simpa using hk
       exact hfr.at_ 4 _ _ _ rfl hS
      ·obtain ⟨rfl, rfl, rfl⟩ : _ = j ∧ _ = d ∧ _ = v := by simpa using hk
       exact hfr.at_ 5 _ _ _ rfl hS
      ·obtain ⟨rfl, rfl, rfl⟩ : _ = j ∧ _ = d ∧ _ = v := by simpa using hk
       exact hfr.at_ 6 _ _ _ rfl hS
      ·obtain ⟨rfl, rfl, rfl⟩ : _ = j ∧ _ = d ∧ _ = v := by simpa using hk
       exact no_way hS hSi
      ·obtain ⟨rfl, rfl, rfl⟩ : _ = j ∧ _ = d ∧ _ = v := by simpa using hk
       exact no_way (cA hcl 8 7 rfl hS) hSi
      ·obtain ⟨rfl, rfl, rfl⟩ : _ = j ∧ _ = d ∧ _ = v := by simpa using hk
       exact no_way (cA hcl 9 7 rfl hS) hSi
      · simp at hk)
     exact Or.inr (Or.inr (Or.inl (⟨un rfl hw6, upd_self _ _, un rfl hw10, v7006, v127, hm127.step ht127 h127.fr.defers (h127.fr.at_ 94 _ rfl) 7 rfl rfl rfl rfl, (h127.sh.sel (L' := [.own 101 (⟨v7006, [(⟨(nth thr.l i).pc, v95, v109⟩ : ThV)]⟩ : Ls ThV), .own 139 (⟨v109, ((nth thr.l i).wait).l⟩ : Ls Wt), .own 3 (⟨v95, ((nth thr.l i).regs).l⟩ : Ls Int), .blk b83 101 [.int .i64 ((nth thr.l i).pc), v95, v109], .own 3 (⟨v52, prints.l⟩ : Ls Int), .own 3 (⟨v41, owner.l⟩ : Ls Int), .own 3 (⟨v29, words.l⟩ : Ls Int), .blk b20 104 [cv, pw, .int .i64 locks, .int .i64 nregs, .int .i64 mode, vt, v29, v41, v52, .bool fell], .rblk g 104 [cv, pw, .int .i64 locks, .int .i64 nregs, .int .i64 mode, thr.v, words.v, owner.v, prints.v, .bool fell], .at_ thr, .at_ words, .at_ owner, .at_ prints, .own 101 (⟨v127, (rows.map ThL.toV) ++ ([(⟨(nth thr.l i).pc, v95, v109⟩ : ThV)])⟩ : Ls ThV), .big (rowsA 3 139 rows)]) [0, 1, 2, 3, 4, 5, 6, 7, 8, 9, 10, 11, 12, 13, 14] (by decide) ⟨rfl, rfl, rfl, rfl, rfl, rfl, rfl, rfl, rfl, rfl, rfl, rfl, rfl, rfl, rfl, trivial⟩)⟩)))
    ·
     exact no_way hw7 hSi
    ·
     exact no_way hw7 hSi
   ·
    obtain rfl : _ = o := Option.some.inj ho
    have hd0 : S 0 = true := depAt hdep 0 rfl rfl
    have hd6 : S 6 = true := depAt hdep 7 rfl rfl
    have hd7 : S 7 = true := depAt hdep 8 rfl rfl
    rcases hI with ⟨hw6, hw7, hw10, hfr, hsh⟩ | ⟨hw6, hw7, hw10, v7006, hfr, hsh⟩ | ⟨hw6, hw7, hw10, v7006, v7007, hfr, hsh⟩ | ⟨hw6, hw7, hw10, v7006, v7007, hfr, hsh⟩
    ·
     exact no_way hd6 hw6
    ·
     exact no_way hd7 hw7
    ·
     exact sq hfr (Fr.cons hfr.fr0 (hfr.at_ 0 0 87 _ rfl hd0)) hsh (r_nil rfl rfl) 8 rfl rfl rfl rfl rfl rfl fun a hg => Or.inr (Or.inr (Or.inl (⟨un rfl hw6, un rfl hw7, un rfl hw10, v7006, v7007, hg, hsh⟩)))
    ·
     exact no_way (cA hcl 10 8 rfl hw10) hSi
   ·
    obtain rfl : _ = o := Option.some.inj ho
    have hd8 : S 8 = true := depAt hdep 0 rfl rfl
    have hd6 : S 6 = true := depAt hdep 7 rfl rfl
    have hd7 : S 7 = true := depAt hdep 8 rfl rfl
    rcases hI with ⟨hw6, hw7, hw10, hfr, hsh⟩ | ⟨hw6, hw7, hw10, v7006, hfr, hsh⟩ | ⟨hw6, hw7, hw10, v7006, v7007, hfr, hsh⟩ | ⟨hw6, hw7, hw10, v7006, v7007, hfr, hsh⟩
    ·
     exact no_way hd6 hw6
    ·
     exact no_way hd7 hw7
    ·
     exact sq hfr (Fr.cons hfr.fr0 (hfr.at_ 8 8 95 _ rfl hd8)) hsh (r_fieldB (r := 5) fl_104_2 rfl rfl rfl) 9 rfl rfl rfl rfl rfl rfl fun a hg => Or.inr (Or.inr (Or.inl (⟨un rfl hw6, un rfl hw7, un rfl hw10, v7006, v7007, hg, hsh⟩)))
    ·
     exact no_way (cA hcl 10 9 rfl hw10) hSi
   ·
    obtain rfl : _ = o := Option.some.inj ho
    have hd9 : S 9 = true := depAt hdep 0 rfl rfl
    have hd7 : S 7 = true := depAt hdep 1 rfl rfl
    have hd6 : S 6 = true := depAt hdep 9 rfl rfl
    rcases hI with ⟨hw6, hw7, hw10, hfr, hsh⟩ | ⟨hw6, hw7, hw10, v7006, hfr, hsh⟩ | ⟨hw6, hw7, hw10, v7006, v7007, hfr, hsh⟩ | ⟨hw6, hw7, hw10, v7006, v7007, hfr, hsh⟩
    ·
     exact no_way hd6 hw6
    ·
     exact no_way hd7 hw7
    ·
     have hs := St.mk (Fr.cons (Fr.cons hfr.fr0 (hfr.at_ 7 7 94 _ rfl hd7)) (hfr.at_ 9 9 96 _ rfl hd9)) hsh
     refine step_ex (x_stb (i := 7) (vs := [v7007]) (cs' := [cv, pw, .int .i64 locks, .int .i64 nregs, .int .i64 mode, v7007, v29, v41, v52, .bool fell]) hs ti_102 rfl rfl rfl rfl rfl (cells_oneL ((hs.sh.own 13 rfl)).one) rfl (allOne_cons ((hs.sh.own 13 rfl)).one allOne_nil) (Nat.le_of_ble_eq_true rfl) rfl) (wanted_none rfl _) ?_
     rintro a130 w130 h130 ⟨v0, ht130⟩
     have hm130 : FrI 98 S [(0, .pointer (some ⟨g, 0, none⟩)), (3, .pointer (some ⟨b20, 0, none⟩)), (4, .int .i64 ((i : Nat) : Int)), (5, .pointer (some ⟨b83, 0, none⟩)), (76, v100), (77, .pointer (some ⟨g, 0, none⟩)), (78, .pointer (some ⟨g, 0, none⟩)), (79, .pointer (some ⟨g, 5, none⟩)), (80, thr.v), (81, .int .i64 ((i : Nat) : Int)), (82, .pointer (some (padr thr.v 3 i 0))), (83, .pointer (some (padr thr.v 3 i 2))), (84, ((nth thr.l i).wait).v), (85, v109), (86, .pointer (some ⟨b83, 2, none⟩))] [(0, 87, .pointer (some ⟨b20, 0, none⟩)), (1, 88, .pointer (some ⟨b20, 0, none⟩)), (2, 89, .pointer (some ⟨b20, 0, none⟩)), (3, 90, .pointer (some ⟨b20, 5, none⟩)), (4, 91, vt), (5, 92, .agg #[.int .i64 ((nth thr.l i).pc), v95, v109]), (6, 93, v7006), (7, 94, v7007), (8, 95, .pointer (some ⟨b20, 0, none⟩)), (9, 96, .pointer (some ⟨b20, 5, none⟩))] a := hfr.more (by
      intro k j d v hk hS
      rcases k with _ | _ | _ | _ | _ | _ | _ | _ | _ | _ | k
      ·obtain ⟨rfl, rfl, rfl⟩ : _ = j ∧ _ = d ∧ _ = v := by simpa using hk
       exact hfr.at_ 0 _ _ _ rfl hS
      ·obtain ⟨rfl, rfl, rfl⟩ : _ = j ∧ _ = d ∧ _ = v := by simpa using hk
       exact hfr.at_ 1 _ _ _ rfl hS
      ·obtain ⟨rfl, rfl, rfl⟩ : _ = j ∧ _ = d ∧ _ = v := by simpa using hk
       exact hfr.at_ 2 _ _ _ rfl hS
      ·obtain ⟨rfl, rfl, rfl⟩ : _ = j ∧ _ = d ∧ _ = v := by simpa using hk
       exact hfr.at_ 3 _ _ _ rfl hS
      ·obtain ⟨rfl, rfl, rfl⟩ : _ = j ∧ _ = d ∧ _ = v := by simpa using hk
       exact hfr.at_ 4 _ _ _ rfl hS
      ·obtain ⟨rfl, rfl, rfl⟩ : _ = j ∧ _ = d ∧ _ = v := by simpa using hk
       exact hfr.at_ 5 _ _ _ rfl hS
      ·obtain ⟨rfl, rfl, rfl⟩ : _ = j ∧ _ = d ∧ _ = v := by simpa using hk
       exact hfr.at_ 6 _ _ _ rfl hS
      ·obtain ⟨rfl, rfl, rfl⟩ : _ = j ∧ _ = d ∧ _ = v := by simpa using hk
       exact hfr.at_ 7 _ _ _ rfl hS
      ·obtain ⟨rfl, rfl, rfl⟩ : _ = j ∧ _ = d ∧ _ = v := by simpa using hk
       exact hfr.at_ 8 _ _ _ rfl hS
      ·obtain ⟨rfl, rfl, rfl⟩ : _ = j ∧ _ = d ∧ _ = v := by simpa using hk
       exact hfr.at_ 9 _ _ _ rfl hS
      · simp at hk)
     exact Or.inr (Or.inr (Or.inr (⟨un rfl hw6, un rfl hw7, upd_self _ _, v7006, v7007, hm130.none ht130 h130.fr.defers rfl, (h130.sh.sel (L' := [.own 101 (⟨v7006, [(⟨(nth thr.l i).pc, v95, v109⟩ : ThV)]⟩ : Ls ThV), .own 139 (⟨v109, ((nth thr.l i).wait).l⟩ : Ls Wt), .own 3 (⟨v95, ((nth thr.l i).regs).l⟩ : Ls Int), .blk b83 101 [.int .i64 ((nth thr.l i).pc), v95, v109], .own 3 (⟨v52, prints.l⟩ : Ls Int), .own 3 (⟨v41, owner.l⟩ : Ls Int), .own 3 (⟨v29, words.l⟩ : Ls Int), .blk b20 104 [cv, pw, .int .i64 locks, .int .i64 nregs, .int .i64 mode, v7007, v29, v41, v52, .bool fell], .rblk g 104 [cv, pw, .int .i64 locks, .int .i64 nregs, .int .i64 mode, thr.v, words.v, owner.v, prints.v, .bool fell], .at_ thr, .at_ words, .at_ owner, .at_ prints, .own 101 (⟨v7007, (rows.map ThL.toV) ++ ([(⟨(nth thr.l i).pc, v95, v109⟩ : ThV)])⟩ : Ls ThV), .big (rowsA 3 139 rows)]) [0, 1, 2, 3, 4, 5, 6, 7, 8, 9, 10, 11, 12, 13, 14] (by decide) ⟨rfl, rfl, rfl, rfl, rfl, rfl, rfl, rfl, rfl, rfl, rfl, rfl, rfl, rfl, rfl, trivial⟩)⟩)))
    ·
     exact no_way hw10 hSi
   · simp at ho
  intro S hall a w hI
  clear h112
  rcases hI with ⟨hw6, hw7, hw10, hfr, hsh⟩ | ⟨hw6, hw7, hw10, v7006, hfr, hsh⟩ | ⟨hw6, hw7, hw10, v7006, v7007, hfr, hsh⟩ | ⟨hw6, hw7, hw10, v7006, v7007, hfr, hsh⟩
  · exact no_way (hall 6 (by decide)) hw6
  · exact no_way (hall 7 (by decide)) hw7
  · exact no_way (hall 10 (by decide)) hw10
  have h131 : St 98 (fun _ => False) W a w _ [.own 101 (⟨v7006, [(⟨(nth thr.l i).pc, v95, v109⟩ : ThV)]⟩ : Ls ThV), .own 139 (⟨v109, ((nth thr.l i).wait).l⟩ : Ls Wt), .own 3 (⟨v95, ((nth thr.l i).regs).l⟩ : Ls Int), .blk b83 101 [.int .i64 ((nth thr.l i).pc), v95, v109], .own 3 (⟨v52, prints.l⟩ : Ls Int), .own 3 (⟨v41, owner.l⟩ : Ls Int), .own 3 (⟨v29, words.l⟩ : Ls Int), .blk b20 104 [cv, pw, .int .i64 locks, .int .i64 nregs, .int .i64 mode, v7007, v29, v41, v52, .bool fell], .rblk g 104 [cv, pw, .int .i64 locks, .int .i64 nregs, .int .i64 mode, thr.v, words.v, owner.v, prints.v, .bool fell], .at_ thr, .at_ words, .at_ owner, .at_ prints, .own 101 (⟨v7007, (rows.map ThL.toV) ++ ([(⟨(nth thr.l i).pc, v95, v109⟩ : ThV)])⟩ : Ls ThV), .big (rowsA 3 139 rows)] := ⟨hfr.fr0, hsh⟩
  clear hall hfr hsh hw6 hw7 hw10
  refine hK72 _ _ ?_
  refine wp_region_lit ?_
  refine wms 1 h131 rfl fun a132 h132 => ?_; clear h131
  refine wv h132 (r_addN (p := i) (q := 1) rfl rfl rfl (show i + 1 < 9223372036854775808 from (by omega))) rfl rfl fun a133 h133 => ?_; clear h132
  refine wms 1 h133 rfl fun a134 h134 => ?_; clear h133
  refine wpList_nil ?_
  have h135 := h134.sel (L' := [.own 3 (⟨v95, ((nth thr.l i).regs).l⟩ : Ls Int), .own 139 (⟨v109, ((nth thr.l i).wait).l⟩ : Ls Wt), .big (rowsA 3 139 rows), .own 101 (⟨v7006, [(⟨(nth thr.l i).pc, v95, v109⟩ : ThV)]⟩ : Ls ThV), .blk b83 101 [.int .i64 ((nth thr.l i).pc), v95, v109], .own 3 (⟨v52, prints.l⟩ : Ls Int), .own 3 (⟨v41, owner.l⟩ : Ls Int), .own 3 (⟨v29, words.l⟩ : Ls Int), .blk b20 104 [cv, pw, .int .i64 locks, .int .i64 nregs, .int .i64 mode, v7007, v29, v41, v52, .bool fell], .rblk g 104 [cv, pw, .int .i64 locks, .int .i64 nregs, .int .i64 mode, thr.v, words.v, owner.v, prints.v, .bool fell], .at_ thr, .at_ words, .at_ owner, .at_ prints, .own 101 (⟨v7007, (rows.map ThL.toV) ++ ([(⟨(nth thr.l i).pc, v95, v109⟩ : ThV)])⟩ : Ls ThV)]) [2, 1, 14, 0, 3, 4, 5, 6, 7, 8, 9, 10, 11, 12, 13] (by decide) ⟨rfl, rfl, rfl, rfl, rfl, rfl, rfl, rfl, rfl, rfl, rfl, rfl, rfl, rfl, rfl, trivial⟩
  have h136 := h135.fold (x := (⟨(nth thr.l i).pc, (⟨v95, ((nth thr.l i).regs).l⟩ : Ls Int), (⟨v109, ((nth thr.l i).wait).l⟩ : Ls Wt)⟩ : ThL))
  clear h135
  have h137 := h136.relist (i := 12) (l' := (rows ++ [(⟨(nth thr.l i).pc, (⟨v95, ((nth thr.l i).regs).l⟩ : Ls Int), (⟨v109, ((nth thr.l i).wait).l⟩ : Ls Wt)⟩ : ThL)]).map ThL.toV) rfl (by simp [ThL.toV])
  clear h136
  refine x_again ⟨_, ?_, (i + 1), (rows ++ [(⟨(nth thr.l i).pc, (⟨v95, ((nth thr.l i).regs).l⟩ : Ls Int), (⟨v109, ((nth thr.l i).wait).l⟩ : Ls Wt)⟩ : ThL)]), v7007, ?_, ?_, ?_, h137.nrm ⟨rfl, rfl, rfl, trivial⟩ [3, 4, 5, 6, 7, 8, 9, 10, 11, 12, 0] (by decide) ⟨rfl, rfl, rfl, rfl, rfl, rfl, rfl, rfl, rfl, rfl, rfl, trivial⟩, rfl⟩
  · rw [hm59]; first | omega | (simp only [lens9]; omega)
  · omega
  · simp [hrl]
  · rw [List.map_append, hrw, take_succ_nth _ _ (by omega), List.map_append]; rfl
 have hp71 : ¬ (i < thr.l.length) := of_decide_eq_false hb71
 refine wp_exit ?_
 refine hK56 _ _ ?_
 refine wp_seq_k fun K138 hK138 => wp_region_lit ?_
 refine wms 2 h70 rfl fun a139 h139 => ?_; clear h70
 refine wpList_nil (hK138 _ _ ?_)
 refine wp_ret ?_
 try simp only [Exit.then, Exit.inBlock]
 refine x_ret1 (fn := Try.f106) (t := 2) rfl h139 rfl ?_
 refine ⟨b20, rows, vt, ⟨v29, words.l⟩, ⟨v41, owner.l⟩, ⟨v52, prints.l⟩, rfl, ?_, rfl, rfl, rfl, (h139.sh.sel (L' := [.blk b20 104 [cv, pw, .int .i64 locks, .int .i64 nregs, .int .i64 mode, vt, v29, v41, v52, .bool fell], .own 101 (⟨vt, rows.map ThL.toV⟩ : Ls ThV), .big (rowsA 3 139 rows), .own 3 (⟨v29, words.l⟩ : Ls Int), .own 3 (⟨v41, owner.l⟩ : Ls Int), .own 3 (⟨v52, prints.l⟩ : Ls Int)]) [3, 9, 10, 2, 1, 0] (by decide) ⟨rfl, rfl, rfl, rfl, rfl, rfl, trivial⟩)⟩
 rw [hrw, show i = thr.l.length by omega, List.take_length]

set_option maxRecDepth 100000 in
set_option maxHeartbeats 4000000 in
theorem begin_c (code : Ls (Ls Ins)) (words : Ls Int) (Lk R : Nat) (mode : Int) (W : World) (hcode : code.At W) (hwords : words.At W) (hcl : code.l.length ≤ 4) (hlk : Lk ≤ 4) (hR : R ≤ 200) (hwn : words.l.length ≤ 64) :
    Rets Try.prog 59 [.agg #[code.v, words.v, .int .i64 ((Lk : Nat) : Int), .int .i64 ((R : Nat) : Int)], .int .i64 mode] W (fun v w' => ∃ (g2 : Nat) (rows : List ThL) (vt : Value) (words' owner' prints' : Ls Int), v = .pointer (some ⟨g2, 0, none⟩) ∧ rows.map ThL.th = List.replicate code.l.length ⟨0, List.replicate R 0, []⟩ ∧ words'.l = words.l ∧ owner'.l = List.replicate Lk (-1) ∧ prints'.l = [] ∧ Sh0 W w' [.blk g2 104 [code.v, words.v, .int .i64 (Lk : Int), .int .i64 (R : Int), .int .i64 mode, vt, words'.v, owner'.v, prints'.v, .bool false], .own 101 (⟨vt, rows.map ThL.toV⟩ : Ls ThV), .big (rowsA 3 139 rows), .own 3 words', .own 3 owner', .own 3 prints']) := by
 refine x_enter (N := 55) Try.func59 rfl Try.ntmps59 (Nat.le_of_ble_eq_true rfl) fun a1 hf1 => ?_
 have h1 : St 55 (fun _ => False) W a1 W [(0, .agg #[code.v, words.v, .int .i64 ((Lk : Nat) : Int), .int .i64 ((R : Nat) : Int)]), (1, .int .i64 mode)] [.at_ code, .at_ words] := ⟨hf1.sub ⟨rfl, rfl, trivial⟩, Sh0.ext2 hcode hwords⟩
 clear hf1
 refine wp_seq_k fun K2 hK2 => wp_region_lit ?_
 refine wl_ex (x_box (cs := [code.v, words.v, .int .i64 ((Lk : Nat) : Int), .int .i64 ((R : Nat) : Int)]) h1 rfl rfl rfl rfl rfl) (wanted_none rfl _) ?_
 rintro a3 w3 ⟨b3, h3⟩; clear h1
 refine wms 1 h3 rfl fun a4 h4 => ?_; clear h3
 refine wpList_nil (hK2 _ _ ?_)
 refine wp_seq_k fun K5 hK5 => wp_region_lit ?_
 refine wv h4 (r_ldbw (i := 0) (vs := [code.v, words.v, .int .i64 ((Lk : Nat) : Int), .int .i64 ((R : Nat) : Int)]) ti_28 rfl rfl rfl rfl rfl) rfl rfl fun a6 h6 => ?_; clear h4
 refine wms 1 h6 rfl fun a7 h7 => ?_; clear h6
 refine wv h7 (r_build (cs := [code.v, words.v, .int .i64 ((Lk : Nat) : Int), .int .i64 ((R : Nat) : Int), .int .i64 mode, (.slice none 0 0), (.slice none 0 0), (.slice none 0 0), (.slice none 0 0), .bool false]) rfl rfl (by kernel_rfl)) rfl rfl fun a8 h8 => ?_; clear h7
 refine wl_ex (x_box (cs := [code.v, words.v, .int .i64 ((Lk : Nat) : Int), .int .i64 ((R : Nat) : Int), .int .i64 mode, (.slice none 0 0), (.slice none 0 0), (.slice none 0 0), (.slice none 0 0), .bool false]) h8 rfl rfl rfl rfl rfl) (wanted_none rfl _) ?_
 rintro a9 w9 ⟨b9, h9⟩; clear h8
 refine wms 1 h9 rfl fun a10 h10 => ?_; clear h9
 refine wpList_nil (hK5 _ _ ?_)
 refine wp_seq_k fun K11 hK11 => wp_region_lit ?_
 refine wms 1 h10 rfl fun a12 h12 => ?_; clear h10
 refine wl_ex (x_lit0 (α := Int) h12 sl_24 ti_3 rfl rfl rfl) (wanted_none rfl _) ?_
 rintro a13 w13 ⟨v13, h13⟩; clear h12
 refine wv h13 (r_fieldB (r := 1) fl_28_1 rfl rfl rfl) rfl rfl fun a14 h14 => ?_; clear h13
 refine wv h14 (r_ldb (i := 2) ti_24 rfl rfl rfl rfl) rfl rfl fun a15 h15 => ?_; clear h14
 refine wl_ex (x_app (r := 0) (rm := 4) (s := (⟨v13, []⟩ : Ls Int)) (m := words) h15 sl_24 ti_3 rfl rfl rfl rfl rfl rfl rfl (fun w h => (h.at 4 rfl)) (fun b hb => .inr hb) (fun q hq b hb => .inr ⟨q, hq, hb⟩) rfl rfl rfl inferInstance (show (([]).length + words.l.length) * 8 ≤ 140737488355328 ∧ ([]).length + words.l.length ≤ 140737488355328 from (by first | omega | (simp only [lens9]; omega))) rfl rfl) (wanted_none rfl _) ?_
 rintro a16 w16 ⟨v16, h16⟩; clear h15
 refine wv h16 (r_nil rfl rfl) rfl rfl fun a17 h17 => ?_; clear h16
 refine wv h17 (r_fieldB (r := 6) fl_104_3 rfl rfl rfl) rfl rfl fun a18 h18 => ?_; clear h17
 refine wl_ex (x_stb (i := 1) (vs := [v16]) (cs' := [code.v, words.v, .int .i64 ((Lk : Nat) : Int), .int .i64 ((R : Nat) : Int), .int .i64 mode, (.slice none 0 0), v16, (.slice none 0 0), (.slice none 0 0), .bool false]) h18 ti_24 rfl rfl rfl rfl rfl (cells_oneL ((h18.sh.own 0 rfl)).one) rfl (allOne_cons ((h18.sh.own 0 rfl)).one allOne_nil) (Nat.le_of_ble_eq_true rfl) rfl) (wanted_none rfl _) ?_
 rintro a19 w19 h19
 clear h18
 refine wpList_nil (hK11 _ _ ?_)
 refine wp_seq_k fun K20 hK20 => ?_
 refine wp_seq_k fun K21 hK21 => wp_region_lit ?_
 refine wms 1 h19 rfl fun a22 h22 => ?_; clear h19
 refine wpList_nil (hK21 _ _ ?_)
 refine wp_block ?_
 have h24 := h22.nil (α := Int) 3
 clear h22
 refine x_loop (fun m a w => ∃ (i : Nat) (ol : List Int) (vo : Value), (i ≤ Lk) ∧ (ol = List.replicate i (-1)) ∧ (ol.length = i) ∧ St 55 (fun _ => False) W a w [(2, .pointer (some ⟨b3, 0, none⟩)), (5, .pointer (some ⟨b9, 0, none⟩)), (6, .int .i64 ((i : Nat) : Int))] [.own 3 (⟨v16, words.l⟩ : Ls Int), .blk b9 104 [code.v, words.v, .int .i64 ((Lk : Nat) : Int), .int .i64 ((R : Nat) : Int), .int .i64 mode, (.slice none 0 0), v16, vo, (.slice none 0 0), .bool false], .blk b3 28 [code.v, words.v, .int .i64 ((Lk : Nat) : Int), .int .i64 ((R : Nat) : Int)], .at_ code, .at_ words, .own 3 (⟨vo, ol⟩ : Ls Int)] ∧ m = Lk - i) ⟨_, 0, [], (.slice none 0 0), (by omega), (rfl), (rfl), h24.nrm ⟨rfl, rfl, rfl, trivial⟩ [1, 2, 3, 4, 5, 0] (by decide) ⟨rfl, rfl, rfl, rfl, rfl, rfl, trivial⟩, rfl⟩ ?_
 clear h24
 rintro m23 a23 w23 ⟨i, ol, vo, hi, hol, holl, h23, hm23⟩
 refine wp_seq_k fun K25 hK25 => ?_
 refine wp_seq_k fun K26 hK26 => wp_region_lit ?_
 refine wms 1 h23 rfl fun a27 h27 => ?_; clear h23
 refine wv h27 (r_fieldB (r := 2) fl_28_2 rfl rfl rfl) rfl rfl fun a28 h28 => ?_; clear h27
 refine wv h28 (r_ldb (i := 2) ti_3 rfl rfl rfl rfl) rfl rfl fun a29 h29 => ?_; clear h28
 refine wv h29 (r_lssN (p := i) (q := Lk) rfl rfl rfl) rfl rfl fun a30 h30 => ?_; clear h29
 refine wpList_nil (hK26 _ _ ?_)
 refine x_cond h30 rfl (fun hb31 => ?_) (fun hb31 => ?_)
 ·
  have hp31 : i < Lk := of_decide_eq_true hb31
  refine wp_skip ?_
  refine hK25 _ _ ?_
  refine wp_seq_k fun K32 hK32 => ?_
  refine wp_block ?_
  refine wp_region_lit ?_
  refine wms 2 h30 rfl fun a33 h33 => ?_; clear h30
  refine wv h33 (r_nil rfl rfl) rfl rfl fun a34 h34 => ?_; clear h33
  refine wv h34 (r_fieldB (r := 7) fl_104_4 rfl rfl rfl) rfl rfl fun a35 h35 => ?_; clear h34
  refine wv h35 (r_ldb (i := 1) ti_24 rfl rfl rfl rfl) rfl rfl fun a36 h36 => ?_; clear h35
  refine wl_ex (x_lit (n := 1) (cs := [.int .i64 (-1)]) ([(-1)] : List Int) h36 sl_24 ti_3 rfl rfl rfl (by decide) rfl (by kernel_rfl) rfl (fun q hq w h => Flat.inner _ _) (fun q hq b hb => (Flat.on _ _ hb).elim) rfl rfl) (wanted_none rfl _) ?_
  rintro a37 w37 ⟨v37, h37⟩; clear h36
  refine wl_ex (x_app (r := 6) (rm := 0) (s := (⟨vo, ol⟩ : Ls Int)) (m := (⟨v37, [(-1)]⟩ : Ls Int)) h37 sl_24 ti_3 rfl rfl rfl rfl rfl rfl rfl (fun w h => (h.own 0 rfl)) (fun b hb => own_on (h37.sh.ok _ (List.mem_of_getElem? (i := 0) rfl)) hb) (fun q hq b hb => ⟨q, hq, hb⟩) rfl rfl rfl inferInstance (show (ol.length + ([(-1)]).length) * 8 ≤ 140737488355328 ∧ ol.length + ([(-1)]).length ≤ 140737488355328 from (by first | omega | (simp only [lens9]; omega))) rfl rfl) (wanted_none rfl _) ?_
  rintro a38 w38 ⟨v38, h38⟩; clear h37
  refine wv h38 (r_nil rfl rfl) rfl rfl fun a39 h39 => ?_; clear h38
  refine wv h39 (r_fieldB (r := 7) fl_104_4 rfl rfl rfl) rfl rfl fun a40 h40 => ?_; clear h39
  refine wl_ex (x_stb (i := 2) (vs := [v38]) (cs' := [code.v, words.v, .int .i64 ((Lk : Nat) : Int), .int .i64 ((R : Nat) : Int), .int .i64 mode, (.slice none 0 0), v16, v38, (.slice none 0 0), .bool false]) h40 ti_24 rfl rfl rfl rfl rfl (cells_oneL ((h40.sh.own 6 rfl)).one) rfl (allOne_cons ((h40.sh.own 6 rfl)).one allOne_nil) (Nat.le_of_ble_eq_true rfl) rfl) (wanted_none rfl _) ?_
  rintro a41 w41 h41
  clear h40
  refine wpList_nil (hK32 _ _ ?_)
  refine wp_region_lit ?_
  refine wms 1 h41 rfl fun a42 h42 => ?_; clear h41
  refine wv h42 (r_addN (p := i) (q := 1) rfl rfl rfl (show i + 1 < 9223372036854775808 from (by omega))) rfl rfl fun a43 h43 => ?_; clear h42
  refine wms 1 h43 rfl fun a44 h44 => ?_; clear h43
  refine wpList_nil ?_
  refine x_again ⟨_, ?_, i + 1, ol ++ ([(-1)]), v38, ?_, ?_, ?_, h44.nrm ⟨rfl, rfl, rfl, trivial⟩ [1, 2, 3, 4, 5, 6] (by decide) ⟨rfl, rfl, rfl, rfl, rfl, rfl, trivial⟩, rfl⟩
  · rw [hm23]; first | omega | (simp only [lens9]; omega)
  · omega
  · rw [hol, List.replicate_succ']
  · simp [holl]
 have hp31 : ¬ (i < Lk) := of_decide_eq_false hb31
 refine wp_exit ?_
 refine hK20 _ _ ?_
 have hol2 : ol = List.replicate Lk (-1) := by rw [hol, show i = Lk by omega]
 clear hol hi holl
 refine wp_seq_k fun K45 hK45 => ?_
 refine wp_seq_k fun K46 hK46 => wp_region_lit ?_
 refine wms 1 h30 rfl fun a47 h47 => ?_; clear h30
 refine wpList_nil (hK46 _ _ ?_)
 refine wp_block ?_
 have h49 := h47.nil (α := ThV) 101
 clear h47
 have h50 := h49.big0 3 139
 clear h49
 refine x_loop (fun m a w => ∃ (i : Nat) (rows : List ThL) (vt : Value), (i ≤ code.l.length) ∧ (rows.length = i) ∧ (rows.map ThL.th = List.replicate i ⟨0, List.replicate R 0, []⟩) ∧ St 55 (fun _ => False) W a w [(2, .pointer (some ⟨b3, 0, none⟩)), (5, .pointer (some ⟨b9, 0, none⟩)), (7, .int .i64 ((i : Nat) : Int))] [.own 3 (⟨v16, words.l⟩ : Ls Int), .blk b9 104 [code.v, words.v, .int .i64 ((Lk : Nat) : Int), .int .i64 ((R : Nat) : Int), .int .i64 mode, vt, v16, vo, (.slice none 0 0), .bool false], .blk b3 28 [code.v, words.v, .int .i64 ((Lk : Nat) : Int), .int .i64 ((R : Nat) : Int)], .at_ code, .at_ words, .own 3 (⟨vo, ol⟩ : Ls Int), .own 101 (⟨vt, rows.map ThL.toV⟩ : Ls ThV), .big (rowsA 3 139 rows)] ∧ m = code.l.length - i) ⟨_, 0, [], _, (by omega), (rfl), (rfl), h50.nrm ⟨rfl, rfl, rfl, trivial⟩ [2, 3, 4, 5, 6, 7, 1, 0] (by decide) ⟨rfl, rfl, rfl, rfl, rfl, rfl, rfl, rfl, trivial⟩, rfl⟩ ?_
 clear h50
 rintro m48 a48 w48 ⟨i, rows, vt, hi, hrl, hrw, h48, hm48⟩
 refine wp_seq_k fun K51 hK51 => ?_
 refine wp_seq_k fun K52 hK52 => wp_region_lit ?_
 refine wms 1 h48 rfl fun a53 h53 => ?_; clear h48
 refine wv h53 (r_fieldB (r := 0) fl_28_0 rfl rfl rfl) rfl rfl fun a54 h54 => ?_; clear h53
 refine wv h54 (r_ldb (i := 2) ti_26 rfl rfl rfl rfl) rfl rfl fun a55 h55 => ?_; clear h54
 have hl56 : code.l.length ≤ 140737488355328 := (h55.sh.at 3 rfl).len
 refine wv h55 (r_len (s := code) (n := code.l.length) sl_26 rfl rfl (fun w h => (h.at 3 rfl)) rfl) rfl rfl fun a57 h57 => ?_; clear h55
 refine wv h57 (r_lssN (p := i) (q := code.l.length) rfl rfl rfl) rfl rfl fun a58 h58 => ?_; clear h57
 refine wpList_nil (hK52 _ _ ?_)
 refine x_cond h58 rfl (fun hb59 => ?_) (fun hb59 => ?_)
 ·
  have hp59 : i < code.l.length := of_decide_eq_true hb59
  refine wp_skip ?_
  refine hK51 _ _ ?_
  refine wp_seq_k fun K60 hK60 => ?_
  refine wp_block ?_
  have h61 : St 55 (fun _ => False) W a58 w48 [(2, .pointer (some ⟨b3, 0, none⟩)), (5, .pointer (some ⟨b9, 0, none⟩)), (7, .int .i64 ((i : Nat) : Int)), (34, .int .i64 ((i : Nat) : Int)), (35, .pointer (some ⟨b3, 0, none⟩)), (36, code.v), (37, .int .i64 ((code.l.length : Nat) : Int)), (38, .bool (decide (i < code.l.length)))] [.own 3 (⟨v16, words.l⟩ : Ls Int), .blk b9 104 [code.v, words.v, .int .i64 ((Lk : Nat) : Int), .int .i64 ((R : Nat) : Int), .int .i64 mode, vt, v16, vo, (.slice none 0 0), .bool false], .blk b3 28 [code.v, words.v, .int .i64 ((Lk : Nat) : Int), .int .i64 ((R : Nat) : Int)], .at_ code, .at_ words, .own 3 (⟨vo, ol⟩ : Ls Int), .own 101 (⟨vt, rows.map ThL.toV⟩ : Ls ThV), .big (rowsA 3 139 rows)] := h58.nrm ⟨rfl, rfl, rfl, rfl, rfl, rfl, rfl, rfl, trivial⟩ [0, 1, 2, 3, 4, 5, 6, 7] (by decide) ⟨rfl, rfl, rfl, rfl, rfl, rfl, rfl, rfl, trivial⟩
  clear h58
  refine x_any (fun S a w => (S 7 = false ∧ S 9 = false ∧ S 10 = false ∧ S 13 = false ∧ FrI 55 S [(2, .pointer (some ⟨b3, 0, none⟩)), (5, .pointer (some ⟨b9, 0, none⟩)), (7, .int .i64 ((i : Nat) : Int)), (34, .int .i64 ((i : Nat) : Int)), (35, .pointer (some ⟨b3, 0, none⟩)), (36, code.v), (37, .int .i64 ((code.l.length : Nat) : Int)), (38, .bool (decide (i < code.l.length)))] [(0, 41, .pointer (some ⟨b9, 0, none⟩)), (1, 42, .pointer (some ⟨b9, 0, none⟩)), (2, 43, .pointer (some ⟨b9, 0, none⟩)), (3, 44, .pointer (some ⟨b9, 5, none⟩)), (4, 45, vt), (5, 46, .pointer (some ⟨b3, 3, none⟩)), (6, 47, .int .i64 ((R : Nat) : Int))] a ∧ Sh (fun _ => False) W w [.own 3 (⟨v16, words.l⟩ : Ls Int), .blk b9 104 [code.v, words.v, .int .i64 ((Lk : Nat) : Int), .int .i64 ((R : Nat) : Int), .int .i64 mode, vt, v16, vo, (.slice none 0 0), .bool false], .blk b3 28 [code.v, words.v, .int .i64 ((Lk : Nat) : Int), .int .i64 ((R : Nat) : Int)], .at_ code, .at_ words, .own 3 (⟨vo, ol⟩ : Ls Int), .own 101 (⟨vt, rows.map ThL.toV⟩ : Ls ThV), .big (rowsA 3 139 rows)]) ∨ (S 7 = true ∧ S 9 = false ∧ S 10 = false ∧ S 13 = false ∧ ∃ (v7007 : Value), FrI 55 S [(2, .pointer (some ⟨b3, 0, none⟩)), (5, .pointer (some ⟨b9, 0, none⟩)), (7, .int .i64 ((i : Nat) : Int)), (34, .int .i64 ((i : Nat) : Int)), (35, .pointer (some ⟨b3, 0, none⟩)), (36, code.v), (37, .int .i64 ((code.l.length : Nat) : Int)), (38, .bool (decide (i < code.l.length)))] [(0, 41, .pointer (some ⟨b9, 0, none⟩)), (1, 42, .pointer (some ⟨b9, 0, none⟩)), (2, 43, .pointer (some ⟨b9, 0, none⟩)), (3, 44, .pointer (some ⟨b9, 5, none⟩)), (4, 45, vt), (5, 46, .pointer (some ⟨b3, 3, none⟩)), (6, 47, .int .i64 ((R : Nat) : Int)), (7, 48, v7007), (8, 49, .agg #[.int .i64 0, v7007, (.slice none 0 0)])] a ∧ Sh (fun _ => False) W w [.own 3 (⟨v7007, List.replicate R 0⟩ : Ls Int), .own 3 (⟨v16, words.l⟩ : Ls Int), .blk b9 104 [code.v, words.v, .int .i64 ((Lk : Nat) : Int), .int .i64 ((R : Nat) : Int), .int .i64 mode, vt, v16, vo, (.slice none 0 0), .bool false], .blk b3 28 [code.v, words.v, .int .i64 ((Lk : Nat) : Int), .int .i64 ((R : Nat) : Int)], .at_ code, .at_ words, .own 3 (⟨vo, ol⟩ : Ls Int), .own 101 (⟨vt, rows.map ThL.toV⟩ : Ls ThV), .big (rowsA 3 139 rows)]) ∨ (S 7 = true ∧ S 9 = true ∧ S 10 = false ∧ S 13 = false ∧ ∃ (v7007 : Value) (v7009 : Value), FrI 55 S [(2, .pointer (some ⟨b3, 0, none⟩)), (5, .pointer (some ⟨b9, 0, none⟩)), (7, .int .i64 ((i : Nat) : Int)), (34, .int .i64 ((i : Nat) : Int)), (35, .pointer (some ⟨b3, 0, none⟩)), (36, code.v), (37, .int .i64 ((code.l.length : Nat) : Int)), (38, .bool (decide (i < code.l.length)))] [(0, 41, .pointer (some ⟨b9, 0, none⟩)), (1, 42, .pointer (some ⟨b9, 0, none⟩)), (2, 43, .pointer (some ⟨b9, 0, none⟩)), (3, 44, .pointer (some ⟨b9, 5, none⟩)), (4, 45, vt), (5, 46, .pointer (some ⟨b3, 3, none⟩)), (6, 47, .int .i64 ((R : Nat) : Int)), (7, 48, v7007), (8, 49, .agg #[.int .i64 0, v7007, (.slice none 0 0)]), (9, 50, v7009)] a ∧ Sh (fun _ => False) W w [.own 101 (⟨v7009, [(⟨0, v7007, (.slice none 0 0)⟩ : ThV)]⟩ : Ls ThV), .own 3 (⟨v7007, List.replicate R 0⟩ : Ls Int), .own 3 (⟨v16, words.l⟩ : Ls Int), .blk b9 104 [code.v, words.v, .int .i64 ((Lk : Nat) : Int), .int .i64 ((R : Nat) : Int), .int .i64 mode, vt, v16, vo, (.slice none 0 0), .bool false], .blk b3 28 [code.v, words.v, .int .i64 ((Lk : Nat) : Int), .int .i64 ((R : Nat) : Int)], .at_ code, .at_ words, .own 3 (⟨vo, ol⟩ : Ls Int), .own 101 (⟨vt, rows.map ThL.toV⟩ : Ls ThV), .big (rowsA 3 139 rows)]) ∨ (S 7 = true ∧ S 9 = true ∧ S 10 = true ∧ S 13 = false ∧ ∃ (v7007 : Value) (v7009 : Value) (v7010 : Value), FrI 55 S [(2, .pointer (some ⟨b3, 0, none⟩)), (5, .pointer (some ⟨b9, 0, none⟩)), (7, .int .i64 ((i : Nat) : Int)), (34, .int .i64 ((i : Nat) : Int)), (35, .pointer (some ⟨b3, 0, none⟩)), (36, code.v), (37, .int .i64 ((code.l.length : Nat) : Int)), (38, .bool (decide (i < code.l.length)))] [(0, 41, .pointer (some ⟨b9, 0, none⟩)), (1, 42, .pointer (some ⟨b9, 0, none⟩)), (2, 43, .pointer (some ⟨b9, 0, none⟩)), (3, 44, .pointer (some ⟨b9, 5, none⟩)), (4, 45, vt), (5, 46, .pointer (some ⟨b3, 3, none⟩)), (6, 47, .int .i64 ((R : Nat) : Int)), (7, 48, v7007), (8, 49, .agg #[.int .i64 0, v7007, (.slice none 0 0)]), (9, 50, v7009), (10, 51, v7010), (11, 52, .pointer (some ⟨b9, 0, none⟩)), (12, 53, .pointer (some ⟨b9, 5, none⟩))] a ∧ Sh (fun _ => False) W w [.own 101 (⟨v7009, [(⟨0, v7007, (.slice none 0 0)⟩ : ThV)]⟩ : Ls ThV), .own 3 (⟨v7007, List.replicate R 0⟩ : Ls Int), .own 3 (⟨v16, words.l⟩ : Ls Int), .blk b9 104 [code.v, words.v, .int .i64 ((Lk : Nat) : Int), .int .i64 ((R : Nat) : Int), .int .i64 mode, vt, v16, vo, (.slice none 0 0), .bool false], .blk b3 28 [code.v, words.v, .int .i64 ((Lk : Nat) : Int), .int .i64 ((R : Nat) : Int)], .at_ code, .at_ words, .own 3 (⟨vo, ol⟩ : Ls Int), .own 101 (⟨v7010, (rows.map ThL.toV) ++ ([(⟨0, v7007, (.slice none 0 0)⟩ : ThV)])⟩ : Ls ThV), .big (rowsA 3 139 rows)]) ∨ (S 7 = true ∧ S 9 = true ∧ S 10 = true ∧ S 13 = true ∧ ∃ (v7007 : Value) (v7009 : Value) (v7010 : Value), FrI 55 S [(2, .pointer (some ⟨b3, 0, none⟩)), (5, .pointer (some ⟨b9, 0, none⟩)), (7, .int .i64 ((i : Nat) : Int)), (34, .int .i64 ((i : Nat) : Int)), (35, .pointer (some ⟨b3, 0, none⟩)), (36, code.v), (37, .int .i64 ((code.l.length : Nat) : Int)), (38, .bool (decide (i < code.l.length)))] [(0, 41, .pointer (some ⟨b9, 0, none⟩)), (1, 42, .pointer (some ⟨b9, 0, none⟩)), (2, 43, .pointer (some ⟨b9, 0, none⟩)), (3, 44, .pointer (some ⟨b9, 5, none⟩)), (4, 45, vt), (5, 46, .pointer (some ⟨b3, 3, none⟩)), (6, 47, .int .i64 ((R : Nat) : Int)), (7, 48, v7007), (8, 49, .agg #[.int .i64 0, v7007, (.slice none 0 0)]), (9, 50, v7009), (10, 51, v7010), (11, 52, .pointer (some ⟨b9, 0, none⟩)), (12, 53, .pointer (some ⟨b9, 5, none⟩))] a ∧ Sh (fun _ => False) W w [.own 101 (⟨v7009, [(⟨0, v7007, (.slice none 0 0)⟩ : ThV)]⟩ : Ls ThV), .own 3 (⟨v7007, List.replicate R 0⟩ : Ls Int), .own 3 (⟨v16, words.l⟩ : Ls Int), .blk b9 104 [code.v, words.v, .int .i64 ((Lk : Nat) : Int), .int .i64 ((R : Nat) : Int), .int .i64 mode, v7010, v16, vo, (.slice none 0 0), .bool false], .blk b3 28 [code.v, words.v, .int .i64 ((Lk : Nat) : Int), .int .i64 ((R : Nat) : Int)], .at_ code, .at_ words, .own 3 (⟨vo, ol⟩ : Ls Int), .own 101 (⟨v7010, (rows.map ThL.toV) ++ ([(⟨0, v7007, (.slice none 0 0)⟩ : ThV)])⟩ : Ls ThV), .big (rowsA 3 139 rows)])) (by kernel_rfl) (by kernel_rfl) (Or.inl (⟨rfl, rfl, rfl, rfl, FrI.start h61.fr, h61.sh.drew⟩)) ?_ ?_
  ·intro S i o ho hSi hcl hdep a w hI
   clear h61
   rcases i with _ | _ | _ | _ | _ | _ | _ | _ | _ | _ | _ | _ | _ | _ | i
   ·
    obtain rfl : _ = o := Option.some.inj ho
    rcases hI with ⟨hw7, hw9, hw10, hw13, hfr, hsh⟩ | ⟨hw7, hw9, hw10, hw13, v7007, hfr, hsh⟩ | ⟨hw7, hw9, hw10, hw13, v7007, v7009, hfr, hsh⟩ | ⟨hw7, hw9, hw10, hw13, v7007, v7009, v7010, hfr, hsh⟩ | ⟨hw7, hw9, hw10, hw13, v7007, v7009, v7010, hfr, hsh⟩
    ·
     exact sq hfr hfr.fr0 hsh (r_move rfl rfl) 0 rfl rfl rfl rfl rfl rfl fun a hg => Or.inl (⟨un rfl hw7, un rfl hw9, un rfl hw10, un rfl hw13, hg, hsh⟩)
    ·
     exact sq hfr hfr.fr0 hsh (r_move rfl rfl) 0 rfl rfl rfl rfl rfl rfl fun a hg => Or.inr (Or.inl (⟨un rfl hw7, un rfl hw9, un rfl hw10, un rfl hw13, v7007, hg, hsh⟩))
    ·
     exact sq hfr hfr.fr0 hsh (r_move rfl rfl) 0 rfl rfl rfl rfl rfl rfl fun a hg => Or.inr (Or.inr (Or.inl (⟨un rfl hw7, un rfl hw9, un rfl hw10, un rfl hw13, v7007, v7009, hg, hsh⟩)))
    ·
     exact sq hfr hfr.fr0 hsh (r_move rfl rfl) 0 rfl rfl rfl rfl rfl rfl fun a hg => Or.inr (Or.inr (Or.inr (Or.inl (⟨un rfl hw7, un rfl hw9, un rfl hw10, un rfl hw13, v7007, v7009, v7010, hg, hsh⟩))))
    ·
     exact no_way (cA hcl 13 0 rfl hw13) hSi
   ·
    obtain rfl : _ = o := Option.some.inj ho
    rcases hI with ⟨hw7, hw9, hw10, hw13, hfr, hsh⟩ | ⟨hw7, hw9, hw10, hw13, v7007, hfr, hsh⟩ | ⟨hw7, hw9, hw10, hw13, v7007, v7009, hfr, hsh⟩ | ⟨hw7, hw9, hw10, hw13, v7007, v7009, v7010, hfr, hsh⟩ | ⟨hw7, hw9, hw10, hw13, v7007, v7009, v7010, hfr, hsh⟩
    ·
     exact sq hfr hfr.fr0 hsh (r_move rfl rfl) 1 rfl rfl rfl rfl rfl rfl fun a hg => Or.inl (⟨un rfl hw7, un rfl hw9, un rfl hw10, un rfl hw13, hg, hsh⟩)
    ·
     exact sq hfr hfr.fr0 hsh (r_move rfl rfl) 1 rfl rfl rfl rfl rfl rfl fun a hg => Or.inr (Or.inl (⟨un rfl hw7, un rfl hw9, un rfl hw10, un rfl hw13, v7007, hg, hsh⟩))
    ·
     exact sq hfr hfr.fr0 hsh (r_move rfl rfl) 1 rfl rfl rfl rfl rfl rfl fun a hg => Or.inr (Or.inr (Or.inl (⟨un rfl hw7, un rfl hw9, un rfl hw10, un rfl hw13, v7007, v7009, hg, hsh⟩)))
    ·
     exact no_way (cA hcl 10 1 rfl hw10) hSi
    ·
     exact no_way (cA hcl 10 1 rfl hw10) hSi
   ·
    obtain rfl : _ = o := Option.some.inj ho
    have hd1 : S 1 = true := depAt hdep 0 rfl rfl
    rcases hI with ⟨hw7, hw9, hw10, hw13, hfr, hsh⟩ | ⟨hw7, hw9, hw10, hw13, v7007, hfr, hsh⟩ | ⟨hw7, hw9, hw10, hw13, v7007, v7009, hfr, hsh⟩ | ⟨hw7, hw9, hw10, hw13, v7007, v7009, v7010, hfr, hsh⟩ | ⟨hw7, hw9, hw10, hw13, v7007, v7009, v7010, hfr, hsh⟩
    ·
     exact sq hfr (Fr.cons hfr.fr0 (hfr.at_ 1 1 42 _ rfl hd1)) hsh (r_nil rfl rfl) 2 rfl rfl rfl rfl rfl rfl fun a hg => Or.inl (⟨un rfl hw7, un rfl hw9, un rfl hw10, un rfl hw13, hg, hsh⟩)
    ·
     exact sq hfr (Fr.cons hfr.fr0 (hfr.at_ 1 1 42 _ rfl hd1)) hsh (r_nil rfl rfl) 2 rfl rfl rfl rfl rfl rfl fun a hg => Or.inr (Or.inl (⟨un rfl hw7, un rfl hw9, un rfl hw10, un rfl hw13, v7007, hg, hsh⟩))
    ·
     exact sq hfr (Fr.cons hfr.fr0 (hfr.at_ 1 1 42 _ rfl hd1)) hsh (r_nil rfl rfl) 2 rfl rfl rfl rfl rfl rfl fun a hg => Or.inr (Or.inr (Or.inl (⟨un rfl hw7, un rfl hw9, un rfl hw10, un rfl hw13, v7007, v7009, hg, hsh⟩)))
    ·
     exact no_way (cA hcl 10 2 rfl hw10) hSi
    ·
     exact no_way (cA hcl 10 2 rfl hw10) hSi
   ·
    obtain rfl : _ = o := Option.some.inj ho
    have hd2 : S 2 = true := depAt hdep 0 rfl rfl
    rcases hI with ⟨hw7, hw9, hw10, hw13, hfr, hsh⟩ | ⟨hw7, hw9, hw10, hw13, v7007, hfr, hsh⟩ | ⟨hw7, hw9, hw10, hw13, v7007, v7009, hfr, hsh⟩ | ⟨hw7, hw9, hw10, hw13, v7007, v7009, v7010, hfr, hsh⟩ | ⟨hw7, hw9, hw10, hw13, v7007, v7009, v7010, hfr, hsh⟩
    ·
     exact sq hfr (Fr.cons hfr.fr0 (hfr.at_ 2 2 43 _ rfl hd2)) hsh (r_fieldB (r := 5) fl_104_2 rfl rfl rfl) 3 rfl rfl rfl rfl rfl rfl fun a hg => Or.inl (⟨un rfl hw7, un rfl hw9, un rfl hw10, un rfl hw13, hg, hsh⟩)
    ·
     exact sq hfr (Fr.cons hfr.fr0 (hfr.at_ 2 2 43 _ rfl hd2)) hsh (r_fieldB (r := 5) fl_104_2 rfl rfl rfl) 3 rfl rfl rfl rfl rfl rfl fun a hg => Or.inr (Or.inl (⟨un rfl hw7, un rfl hw9, un rfl hw10, un rfl hw13, v7007, hg, hsh⟩))
    ·
     exact sq hfr (Fr.cons hfr.fr0 (hfr.at_ 2 2 43 _ rfl hd2)) hsh (r_fieldB (r := 5) fl_104_2 rfl rfl rfl) 3 rfl rfl rfl rfl rfl rfl fun a hg => Or.inr (Or.inr (Or.inl (⟨un rfl hw7, un rfl hw9, un rfl hw10, un rfl hw13, v7007, v7009, hg, hsh⟩)))
    ·
     exact no_way (cA hcl 10 3 rfl hw10) hSi
    ·
     exact no_way (cA hcl 10 3 rfl hw10) hSi
   ·
    obtain rfl : _ = o := Option.some.inj ho
    have hd3 : S 3 = true := depAt hdep 0 rfl rfl
    rcases hI with ⟨hw7, hw9, hw10, hw13, hfr, hsh⟩ | ⟨hw7, hw9, hw10, hw13, v7007, hfr, hsh⟩ | ⟨hw7, hw9, hw10, hw13, v7007, v7009, hfr, hsh⟩ | ⟨hw7, hw9, hw10, hw13, v7007, v7009, v7010, hfr, hsh⟩ | ⟨hw7, hw9, hw10, hw13, v7007, v7009, v7010, hfr, hsh⟩
    ·
     exact sq hfr (Fr.cons hfr.fr0 (hfr.at_ 3 3 44 _ rfl hd3)) hsh (r_ldb (i := 1) ti_102 rfl rfl rfl rfl) 4 rfl rfl rfl rfl rfl rfl fun a hg => Or.inl (⟨un rfl hw7, un rfl hw9, un rfl hw10, un rfl hw13, hg, hsh⟩)
    ·
     exact sq hfr (Fr.cons hfr.fr0 (hfr.at_ 3 3 44 _ rfl hd3)) hsh (r_ldb (i := 2) ti_102 rfl rfl rfl rfl) 4 rfl rfl rfl rfl rfl rfl fun a hg => Or.inr (Or.inl (⟨un rfl hw7, un rfl hw9, un rfl hw10, un rfl hw13, v7007, hg, hsh⟩))
    ·
     exact sq hfr (Fr.cons hfr.fr0 (hfr.at_ 3 3 44 _ rfl hd3)) hsh (r_ldb (i := 3) ti_102 rfl rfl rfl rfl) 4 rfl rfl rfl rfl rfl rfl fun a hg => Or.inr (Or.inr (Or.inl (⟨un rfl hw7, un rfl hw9, un rfl hw10, un rfl hw13, v7007, v7009, hg, hsh⟩)))
    ·
     exact no_way (cA hcl 10 4 rfl hw10) hSi
    ·
     exact no_way (cA hcl 10 4 rfl hw10) hSi
   ·
    obtain rfl : _ = o := Option.some.inj ho
    rcases hI with ⟨hw7, hw9, hw10, hw13, hfr, hsh⟩ | ⟨hw7, hw9, hw10, hw13, v7007, hfr, hsh⟩ | ⟨hw7, hw9, hw10, hw13, v7007, v7009, hfr, hsh⟩ | ⟨hw7, hw9, hw10, hw13, v7007, v7009, v7010, hfr, hsh⟩ | ⟨hw7, hw9, hw10, hw13, v7007, v7009, v7010, hfr, hsh⟩
    ·
     exact sq hfr hfr.fr0 hsh (r_fieldB (r := 3) fl_28_3 rfl rfl rfl) 5 rfl rfl rfl rfl rfl rfl fun a hg => Or.inl (⟨un rfl hw7, un rfl hw9, un rfl hw10, un rfl hw13, hg, hsh⟩)
    ·
     exact no_way (cA hcl 7 5 rfl hw7) hSi
    ·
     exact no_way (cA hcl 7 5 rfl hw7) hSi
    ·
     exact no_way (cA hcl 7 5 rfl hw7) hSi
    ·
     exact no_way (cA hcl 7 5 rfl hw7) hSi
   ·
    obtain rfl : _ = o := Option.some.inj ho
    have hd5 : S 5 = true := depAt hdep 0 rfl rfl
    rcases hI with ⟨hw7, hw9, hw10, hw13, hfr, hsh⟩ | ⟨hw7, hw9, hw10, hw13, v7007, hfr, hsh⟩ | ⟨hw7, hw9, hw10, hw13, v7007, v7009, hfr, hsh⟩ | ⟨hw7, hw9, hw10, hw13, v7007, v7009, v7010, hfr, hsh⟩ | ⟨hw7, hw9, hw10, hw13, v7007, v7009, v7010, hfr, hsh⟩
    ·
     exact sq hfr (Fr.cons hfr.fr0 (hfr.at_ 5 5 46 _ rfl hd5)) hsh (r_ldb (i := 2) ti_3 rfl rfl rfl rfl) 6 rfl rfl rfl rfl rfl rfl fun a hg => Or.inl (⟨un rfl hw7, un rfl hw9, un rfl hw10, un rfl hw13, hg, hsh⟩)
    ·
     exact no_way (cA hcl 7 6 rfl hw7) hSi
    ·
     exact no_way (cA hcl 7 6 rfl hw7) hSi
    ·
     exact no_way (cA hcl 7 6 rfl hw7) hSi
    ·
     exact no_way (cA hcl 7 6 rfl hw7) hSi
   ·
    obtain rfl : _ = o := Option.some.inj ho
    have hd6 : S 6 = true := depAt hdep 0 rfl rfl
    rcases hI with ⟨hw7, hw9, hw10, hw13, hfr, hsh⟩ | ⟨hw7, hw9, hw10, hw13, v7007, hfr, hsh⟩ | ⟨hw7, hw9, hw10, hw13, v7007, v7009, hfr, hsh⟩ | ⟨hw7, hw9, hw10, hw13, v7007, v7009, v7010, hfr, hsh⟩ | ⟨hw7, hw9, hw10, hw13, v7007, v7009, v7010, hfr, hsh⟩
    ·
     have hs := St.mk (Fr.cons hfr.fr0 (hfr.at_ 6 6 47 _ rfl hd6)) hsh
     refine step_ex (x_make (n := R) (0 : Int) hs sl_24 ti_3 rfl rfl rfl rfl rfl (show 8 * R ≤ 140737488355328 ∧ R ≤ 140737488355328 from (by omega)) (fun w => Flat.inner _ _) (fun b => Flat.on _ _) rfl rfl) (wanted_none rfl _) ?_
     rintro a85 w85 ⟨v85, h85⟩ ⟨v0, ht85⟩
     have hm85 : FrI 55 S [(2, .pointer (some ⟨b3, 0, none⟩)), (5, .pointer (some ⟨b9, 0, none⟩)), (7, .int .i64 ((i : Nat) : Int)), (34, .int .i64 ((i : Nat) : Int)), (35, .pointer (some ⟨b3, 0, none⟩)), (36, code.v), (37, .int .i64 ((code.l.length : Nat) : Int)), (38, .bool (decide (i < code.l.length)))] [(0, 41, .pointer (some ⟨b9, 0, none⟩)), (1, 42, .pointer (some ⟨b9, 0, none⟩)), (2, 43, .pointer (some ⟨b9, 0, none⟩)), (3, 44, .pointer (some ⟨b9, 5, none⟩)), (4, 45, vt), (5, 46, .pointer (some ⟨b3, 3, none⟩)), (6, 47, .int .i64 ((R : Nat) : Int)), (7, 48, v85), (8, 49, .agg #[.int .i64 0, v85, (.slice none 0 0)])] a := hfr.more (by
      intro k j d v hk hS
      rcases k with _ | _ | _ | _ | _ | _ | _ | _ | _ | k
      ·obtain ⟨rfl, rfl, rfl⟩ : _ = j ∧ _ = d ∧ _ = v := by simpa using hk
       exact hfr.at_ 0 _ _ _ rfl hS
      ·obtain ⟨rfl, rfl, rfl⟩ : _ = j ∧ _ = d ∧ _ = v := by simpa using hk
       exact hfr.at_ 1 _ _ _ rfl hS
      ·obtain ⟨rfl, rfl, rfl⟩ : _ = j ∧ _ = d ∧ _ = v := by simpa using hk
       exact hfr.at_ 2 _ _ _ rfl hS
      ·obtain ⟨rfl, rfl, rfl⟩ : _ = j ∧ _ = d ∧ _ = v := by simpa using hk
       exact hfr.at_ 3 _ _ _ rfl hS
      ·obtain ⟨rfl, rfl, rfl⟩ : _ = j ∧ _ = d ∧ _ = v := by simpa using hk
       exact hfr.at_ 4 _ _ _ rfl hS
      ·obtain ⟨rfl, rfl, rfl⟩ : _ = j ∧ _ = d ∧ _ = v := by simpa using hk
       exact hfr.at_ 5 _ _ _ rfl hS
      ·obtain ⟨rfl, rfl, rfl⟩ : _ = j ∧ _ = d ∧ _ = v := by simpa using hk
       exact hfr.at_ 6 _ _ _ rfl hS
      ·obtain ⟨rfl, rfl, rfl⟩ : _ = j ∧ _ = d ∧ _ = v := by simpa using hk
       exact no_way hS hSi
      ·obtain ⟨rfl, rfl, rfl⟩ : _ = j ∧ _ = d ∧ _ = v := by simpa using hk
       exact no_way (cA hcl 8 7 rfl hS) hSi
      · simp at hk)
     exact Or.inr (Or.inl (⟨upd_self _ _, un rfl hw9, un rfl hw10, un rfl hw13, v85, hm85.step ht85 h85.fr.defers (h85.fr.at_ 48 _ rfl) 7 rfl rfl rfl rfl, (h85.sh.sel (L' := [.own 3 (⟨v85, List.replicate R 0⟩ : Ls Int), .own 3 (⟨v16, words.l⟩ : Ls Int), .blk b9 104 [code.v, words.v, .int .i64 ((Lk : Nat) : Int), .int .i64 ((R : Nat) : Int), .int .i64 mode, vt, v16, vo, (.slice none 0 0), .bool false], .blk b3 28 [code.v, words.v, .int .i64 ((Lk : Nat) : Int), .int .i64 ((R : Nat) : Int)], .at_ code, .at_ words, .own 3 (⟨vo, ol⟩ : Ls Int), .own 101 (⟨vt, rows.map ThL.toV⟩ : Ls ThV), .big (rowsA 3 139 rows)]) [0, 1, 2, 3, 4, 5, 6, 7, 8] (by decide) ⟨rfl, rfl, rfl, rfl, rfl, rfl, rfl, rfl, rfl, trivial⟩)⟩))
    ·
     exact no_way hw7 hSi
    ·
     exact no_way hw7 hSi
    ·
     exact no_way hw7 hSi
    ·
     exact no_way hw7 hSi
   ·
    obtain rfl : _ = o := Option.some.inj ho
    have hd7 : S 7 = true := depAt hdep 0 rfl rfl
    rcases hI with ⟨hw7, hw9, hw10, hw13, hfr, hsh⟩ | ⟨hw7, hw9, hw10, hw13, v7007, hfr, hsh⟩ | ⟨hw7, hw9, hw10, hw13, v7007, v7009, hfr, hsh⟩ | ⟨hw7, hw9, hw10, hw13, v7007, v7009, v7010, hfr, hsh⟩ | ⟨hw7, hw9, hw10, hw13, v7007, v7009, v7010, hfr, hsh⟩
    ·
     exact no_way hd7 hw7
    ·
     have hs := St.mk (Fr.cons hfr.fr0 (hfr.at_ 7 7 48 _ rfl hd7)) hsh
     exact sq hfr (Fr.cons hfr.fr0 (hfr.at_ 7 7 48 _ rfl hd7)) hsh (r_build (cs := [.int .i64 0, v7007, (.slice none 0 0)]) rfl rfl (by obtain ⟨A86, n86, c86, (e86 : v7007 = _)⟩ := ((hs.sh.own 0 rfl)).form; rw [e86]; kernel_rfl)) 8 rfl rfl rfl rfl rfl rfl fun a hg => Or.inr (Or.inl (⟨un rfl hw7, un rfl hw9, un rfl hw10, un rfl hw13, v7007, hg, hsh⟩))
    ·
     exact no_way (cA hcl 9 8 rfl hw9) hSi
    ·
     exact no_way (cA hcl 9 8 rfl hw9) hSi
    ·
     exact no_way (cA hcl 9 8 rfl hw9) hSi
   ·
    obtain rfl : _ = o := Option.some.inj ho
    have hd8 : S 8 = true := depAt hdep 0 rfl rfl
    rcases hI with ⟨hw7, hw9, hw10, hw13, hfr, hsh⟩ | ⟨hw7, hw9, hw10, hw13, v7007, hfr, hsh⟩ | ⟨hw7, hw9, hw10, hw13, v7007, v7009, hfr, hsh⟩ | ⟨hw7, hw9, hw10, hw13, v7007, v7009, v7010, hfr, hsh⟩ | ⟨hw7, hw9, hw10, hw13, v7007, v7009, v7010, hfr, hsh⟩
    ·
     exact no_way (cA hcl 8 7 rfl hd8) hw7
    ·
     have hs := St.mk (Fr.cons hfr.fr0 (hfr.at_ 8 8 49 _ rfl hd8)) hsh
     refine step_ex (x_lit (n := 1) (cs := [.int .i64 0, v7007, (.slice none 0 0)]) ([(⟨0, v7007, (.slice none 0 0)⟩ : ThV)] : List ThV) hs sl_102 ti_101 rfl rfl rfl (by decide) rfl (by kernel_rfl) rfl (fun q hq w h => Flat.inner _ _) (fun q hq b hb => (Flat.on _ _ hb).elim) rfl rfl) (wanted_none rfl _) ?_
     rintro a88 w88 ⟨v88, h88⟩ ⟨v0, ht88⟩
     have hm88 : FrI 55 S [(2, .pointer (some ⟨b3, 0, none⟩)), (5, .pointer (some ⟨b9, 0, none⟩)), (7, .int .i64 ((i : Nat) : Int)), (34, .int .i64 ((i : Nat) : Int)), (35, .pointer (some ⟨b3, 0, none⟩)), (36, code.v), (37, .int .i64 ((code.l.length : Nat) : Int)), (38, .bool (decide (i < code.l.length)))] [(0, 41, .pointer (some ⟨b9, 0, none⟩)), (1, 42, .pointer (some ⟨b9, 0, none⟩)), (2, 43, .pointer (some ⟨b9, 0, none⟩)), (3, 44, .pointer (some ⟨b9, 5, none⟩)), (4, 45, vt), (5, 46, .pointer (some ⟨b3, 3, none⟩)), (6, 47, .int .i64 ((R : Nat) : Int)), (7, 48, v7007), (8, 49, .agg #[.int .i64 0, v7007, (.slice none 0 0)]), (9, 50, v88)] a := hfr.more (by
      intro k j d v hk hS
      rcases k with _ | _ | _ | _ | _ | _ | _ | _ | _ | _ | k
      ·obtain ⟨rfl, rfl, rfl⟩ : _ = j ∧ _ = d ∧ _ = v := by simpa using hk
       exact hfr.at_ 0 _ _ _ rfl hS
      ·obtain ⟨rfl, rfl, rfl⟩ : _ = j ∧ _ = d ∧ _ = v := by simpa using hk
       exact hfr.at_ 1 _ _ _ rfl hS
      ·obtain ⟨rfl, rfl, rfl⟩ : _ = j ∧ _ = d ∧ _ = v := by simpa using hk
       exact hfr.at_ 2 _ _ _ rfl hS
      ·obtain ⟨rfl, rfl, rfl⟩ : _ = j ∧ _ = d ∧ _ = v := by simpa using hk
       exact hfr.at_ 3 _ _ _ rfl hS
      ·obtain ⟨rfl, rfl, rfl⟩ : _ = j ∧ _ = d ∧ _ = v := by simpa using hk
       exact hfr.at_ 4 _ _ _ rfl hS
      ·obtain ⟨rfl, rfl, rfl⟩ : _ = j ∧ _ = d ∧ _ = v := by simpa using hk
       exact hfr.at_ 5 _ _ _ rfl hS
      ·obtain ⟨rfl, rfl, rfl⟩ : _ = j ∧ _ = d ∧ _ = v := by simpa using hk
       exact hfr.at_ 6 _ _ _ rfl hS
      ·obtain ⟨rfl, rfl, rfl⟩ : _ = j ∧ _ = d ∧ _ = v := by simpa using hk
       exact hfr.at_ 7 _ _ _ rfl hS
      ·obtain ⟨rfl, rfl, rfl⟩ : _ = j ∧ _ = d ∧ _ = v := by simpa using hk
       exact hfr.at_ 8 _ _ _ rfl hS
      ·obtain ⟨rfl, rfl, rfl⟩ : _ = j ∧ _ = d ∧ _ = v := by simpa using hk
       exact no_way hS hSi
      · simp at hk)
     exact Or.inr (Or.inr (Or.inl (⟨un rfl hw7, upd_self _ _, un rfl hw10, un rfl hw13, v7007, v88, hm88.step ht88 h88.fr.defers (h88.fr.at_ 50 _ rfl) 9 rfl rfl rfl rfl, (h88.sh.sel (L' := [.own 101 (⟨v88, [(⟨0, v7007, (.slice none 0 0)⟩ : ThV)]⟩ : Ls ThV), .own 3 (⟨v7007, List.replicate R 0⟩ : Ls Int), .own 3 (⟨v16, words.l⟩ : Ls Int), .blk b9 104 [code.v, words.v, .int .i64 ((Lk : Nat) : Int), .int .i64 ((R : Nat) : Int), .int .i64 mode, vt, v16, vo, (.slice none 0 0), .bool false], .blk b3 28 [code.v, words.v, .int .i64 ((Lk : Nat) : Int), .int .i64 ((R : Nat) : Int)], .at_ code, .at_ words, .own 3 (⟨vo, ol⟩ : Ls Int), .own 101 (⟨vt, rows.map ThL.toV⟩ : Ls ThV), .big (rowsA 3 139 rows)]) [0, 1, 2, 3, 4, 5, 6, 7, 8, 9] (by decide) ⟨rfl, rfl, rfl, rfl, rfl, rfl, rfl, rfl, rfl, rfl, trivial⟩)⟩)))
    ·
     exact no_way hw9 hSi
    ·
     exact no_way hw9 hSi
    ·
     exact no_way hw9 hSi
   ·
    obtain rfl : _ = o := Option.some.inj ho
    have hd4 : S 4 = true := depAt hdep 0 rfl rfl
    have hd9 : S 9 = true := depAt hdep 1 rfl rfl
    rcases hI with ⟨hw7, hw9, hw10, hw13, hfr, hsh⟩ | ⟨hw7, hw9, hw10, hw13, v7007, hfr, hsh⟩ | ⟨hw7, hw9, hw10, hw13, v7007, v7009, hfr, hsh⟩ | ⟨hw7, hw9, hw10, hw13, v7007, v7009, v7010, hfr, hsh⟩ | ⟨hw7, hw9, hw10, hw13, v7007, v7009, v7010, hfr, hsh⟩
    ·
     exact no_way (cA hcl 9 7 rfl hd9) hw7
    ·
     exact no_way hd9 hw9
    ·
     have hs := St.mk (Fr.cons (Fr.cons hfr.fr0 (hfr.at_ 4 4 45 _ rfl hd4)) (hfr.at_ 9 9 50 _ rfl hd9)) hsh
     refine step_ex (x_app1 (r := 8) (rm := 0) (s := (⟨vt, rows.map ThL.toV⟩ : Ls ThV)) (m := (⟨v7009, [(⟨0, v7007, (.slice none 0 0)⟩ : ThV)]⟩ : Ls ThV)) hs sl_102 ti_101 rfl rfl rfl rfl rfl rfl rfl (fun w h => (h.own 0 rfl)) (fun b hb => own_on (hs.sh.ok _ (List.mem_of_getElem? (i := 0) rfl)) hb) (fun q hq b hb => ⟨q, hq, hb⟩) rfl rfl rfl (fun w h q hq j hj => by obtain rfl : q = 0 := (by simpa using hq); rcases j with _ | _ | _ | j; exact rfl; exact ((h.own 1 rfl)).one; exact rfl; exact absurd hj (by show ¬ (j + 3 < 3); omega)) (show ((rows.map ThL.toV).length + ([(⟨0, v7007, (.slice none 0 0)⟩ : ThV)]).length) * 56 ≤ 140737488355328 ∧ (rows.map ThL.toV).length + ([(⟨0, v7007, (.slice none 0 0)⟩ : ThV)]).length ≤ 140737488355328 from (by first | omega | (simp only [lens9]; omega))) rfl rfl) (wanted_none rfl _) ?_
     rintro a89 w89 ⟨v89, h89⟩ ⟨v0, ht89⟩
     have hm89 : FrI 55 S [(2, .pointer (some ⟨b3, 0, none⟩)), (5, .pointer (some ⟨b9, 0, none⟩)), (7, .int .i64 ((i : Nat) : Int)), (34, .int .i64 ((i : Nat) : Int)), (35, .pointer (some ⟨b3, 0, none⟩)), (36, code.v), (37, .int .i64 ((code.l.length : Nat) : Int)), (38, .bool (decide (i < code.l.length)))] [(0, 41, .pointer (some ⟨b9, 0, none⟩)), (1, 42, .pointer (some ⟨b9, 0, none⟩)), (2, 43, .pointer (some ⟨b9, 0, none⟩)), (3, 44, .pointer (some ⟨b9, 5, none⟩)), (4, 45, vt), (5, 46, .pointer (some ⟨b3, 3, none⟩)), (6, 47, .int .i64 ((R : Nat) : Int)), (7, 48, v7007), (8, 49, .agg #[.int .i64 0, v7007, (.slice none 0 0)]), (9, 50, v7009), (10, 51, v89), (11, 52, .pointer (some ⟨b9, 0, none⟩)), (12, 53, .pointer (some ⟨b9, 5, none⟩))] a := hfr.more (by
      intro k j d v hk hS
      rcases k with _ | _ | _ | _ | _ | _ | _ | _ | _ | _ | _ | _ | _ | k
      ·obtain ⟨rfl, rfl, rfl⟩ : _ = j ∧ _ = d ∧ _ = v := by simpa using hk
       exact hfr.at_ 0 _ _ _ rfl hS
      ·obtain ⟨rfl, rfl, rfl⟩ : _ = j ∧ _ = d ∧ _ = v := by simpa using hk
       exact hfr.at_ 1 _ _ _ rfl hS
      ·obtain ⟨rfl, rfl, rfl⟩ : _ = j ∧ _ = d ∧ _ = v := by simpa using hk
       exact hfr.at_ 2 _ _ _ rfl hS
      ·obtain ⟨rfl, rfl, rfl⟩ : _ = j ∧ _ = d ∧ _ = v := by simpa using hk
       exact hfr.at_ 3 _ _ _ rfl hS
      ·obtain ⟨rfl, rfl, rfl⟩ : _ = j ∧ _ = d ∧ _ = v := by simpa using hk
       exact hfr.at_ 4 _ _ _ rfl hS
      ·obtain ⟨rfl, rfl, rfl⟩ : _ = j ∧ _ = d ∧ _ = v := by simpa using hk
       exact hfr.at_ 5 _ _ _ rfl hS
      ·obtain ⟨rfl, rfl, rfl⟩ : _ = j ∧ _ = d ∧ _ = v := by simpa using hk
       exact hfr.at_ 6 _ _ _ rfl hS
      ·obtain ⟨rfl, rfl, rfl⟩ : _ = j ∧ _ = d ∧ _ = v := by simpa using hk
       exact hfr.at_ 7 _ _ _ rfl hS
      ·obtain ⟨rfl, rfl, rfl⟩ : _ = j ∧ _ = d ∧ _ = v := by simpa using hk
       exact hfr.at_ 8 _ _ _ rfl hS
      ·obtain ⟨rfl, rfl, rfl⟩ : _ = j ∧ _ = d ∧ _ = v := by simpa using hk
       exact hfr.at_ 9 _ _ _ rfl hS
      ·obtain ⟨rfl, rfl, rfl⟩ : _ = j ∧ _ = d ∧ _ = v := by simpa using hk
       exact no_way hS hSi
      ·obtain ⟨rfl, rfl, rfl⟩ : _ = j ∧ _ = d ∧ _ = v := by simpa using hk
       exact no_way (cA hcl 11 10 rfl hS) hSi
      ·obtain ⟨rfl, rfl, rfl⟩ : _ = j ∧ _ = d ∧ _ = v := by simpa using hk
       exact no_way (cA hcl 12 10 rfl hS) hSi
      · simp at hk)
     exact Or.inr (Or.inr (Or.inr (Or.inl (⟨un rfl hw7, un rfl hw9, upd_self _ _, un rfl hw13, v7007, v7009, v89, hm89.step ht89 h89.fr.defers (h89.fr.at_ 51 _ rfl) 10 rfl rfl rfl rfl, (h89.sh.sel (L' := [.own 101 (⟨v7009, [(⟨0, v7007, (.slice none 0 0)⟩ : ThV)]⟩ : Ls ThV), .own 3 (⟨v7007, List.replicate R 0⟩ : Ls Int), .own 3 (⟨v16, words.l⟩ : Ls Int), .blk b9 104 [code.v, words.v, .int .i64 ((Lk : Nat) : Int), .int .i64 ((R : Nat) : Int), .int .i64 mode, vt, v16, vo, (.slice none 0 0), .bool false], .blk b3 28 [code.v, words.v, .int .i64 ((Lk : Nat) : Int), .int .i64 ((R : Nat) : Int)], .at_ code, .at_ words, .own 3 (⟨vo, ol⟩ : Ls Int), .own 101 (⟨v89, (rows.map ThL.toV) ++ ([(⟨0, v7007, (.slice none 0 0)⟩ : ThV)])⟩ : Ls ThV), .big (rowsA 3 139 rows)]) [0, 1, 2, 3, 4, 5, 6, 7, 8, 9] (by decide) ⟨rfl, rfl, rfl, rfl, rfl, rfl, rfl, rfl, rfl, rfl, trivial⟩)⟩))))
    ·
     exact no_way hw10 hSi
    ·
     exact no_way hw10 hSi
   ·
    obtain rfl : _ = o := Option.some.inj ho
    have hd0 : S 0 = true := depAt hdep 0 rfl rfl
    have hd7 : S 7 = true := depAt hdep 8 rfl rfl
    have hd9 : S 9 = true := depAt hdep 10 rfl rfl
    have hd10 : S 10 = true := depAt hdep 11 rfl rfl
    rcases hI with ⟨hw7, hw9, hw10, hw13, hfr, hsh⟩ | ⟨hw7, hw9, hw10, hw13, v7007, hfr, hsh⟩ | ⟨hw7, hw9, hw10, hw13, v7007, v7009, hfr, hsh⟩ | ⟨hw7, hw9, hw10, hw13, v7007, v7009, v7010, hfr, hsh⟩ | ⟨hw7, hw9, hw10, hw13, v7007, v7009, v7010, hfr, hsh⟩
    ·
     exact no_way hd7 hw7
    ·
     exact no_way hd9 hw9
    ·
     exact no_way hd10 hw10
    ·
     exact sq hfr (Fr.cons hfr.fr0 (hfr.at_ 0 0 41 _ rfl hd0)) hsh (r_nil rfl rfl) 11 rfl rfl rfl rfl rfl rfl fun a hg => Or.inr (Or.inr (Or.inr (Or.inl (⟨un rfl hw7, un rfl hw9, un rfl hw10, un rfl hw13, v7007, v7009, v7010, hg, hsh⟩))))
    ·
     exact no_way (cA hcl 13 11 rfl hw13) hSi
   ·
    obtain rfl : _ = o := Option.some.inj ho
    have hd11 : S 11 = true := depAt hdep 0 rfl rfl
    have hd7 : S 7 = true := depAt hdep 8 rfl rfl
    have hd9 : S 9 = true := depAt hdep 10 rfl rfl
    have hd10 : S 10 = true := depAt hdep 11 rfl rfl
    rcases hI with ⟨hw7, hw9, hw10, hw13, hfr, hsh⟩ | ⟨hw7, hw9, hw10, hw13, v7007, hfr, hsh⟩ | ⟨hw7, hw9, hw10, hw13, v7007, v7009, hfr, hsh⟩ | ⟨hw7, hw9, hw10, hw13, v7007, v7009, v7010, hfr, hsh⟩ | ⟨hw7, hw9, hw10, hw13, v7007, v7009, v7010, hfr, hsh⟩
    ·
     exact no_way hd7 hw7
    ·
     exact no_way hd9 hw9
    ·
     exact no_way hd10 hw10
    ·
     exact sq hfr (Fr.cons hfr.fr0 (hfr.at_ 11 11 52 _ rfl hd11)) hsh (r_fieldB (r := 5) fl_104_2 rfl rfl rfl) 12 rfl rfl rfl rfl rfl rfl fun a hg => Or.inr (Or.inr (Or.inr (Or.inl (⟨un rfl hw7, un rfl hw9, un rfl hw10, un rfl hw13, v7007, v7009, v7010, hg, hsh⟩))))
    ·
     exact no_way (cA hcl 13 12 rfl hw13) hSi
   ·
    obtain rfl : _ = o := Option.some.inj ho
    have hd12 : S 12 = true := depAt hdep 0 rfl rfl
    have hd10 : S 10 = true := depAt hdep 1 rfl rfl
    have hd7 : S 7 = true := depAt hdep 10 rfl rfl
    have hd9 : S 9 = true := depAt hdep 12 rfl rfl
    rcases hI with ⟨hw7, hw9, hw10, hw13, hfr, hsh⟩ | ⟨hw7, hw9, hw10, hw13, v7007, hfr, hsh⟩ | ⟨hw7, hw9, hw10, hw13, v7007, v7009, hfr, hsh⟩ | ⟨hw7, hw9, hw10, hw13, v7007, v7009, v7010, hfr, hsh⟩ | ⟨hw7, hw9, hw10, hw13, v7007, v7009, v7010, hfr, hsh⟩
    ·
     exact no_way hd7 hw7
    ·
     exact no_way hd9 hw9
    ·
     exact no_way hd10 hw10
    ·
     have hs := St.mk (Fr.cons (Fr.cons hfr.fr0 (hfr.at_ 10 10 51 _ rfl hd10)) (hfr.at_ 12 12 53 _ rfl hd12)) hsh
     refine step_ex (x_stb (i := 3) (vs := [v7010]) (cs' := [code.v, words.v, .int .i64 ((Lk : Nat) : Int), .int .i64 ((R : Nat) : Int), .int .i64 mode, v7010, v16, vo, (.slice none 0 0), .bool false]) hs ti_102 rfl rfl rfl rfl rfl (cells_oneL ((hs.sh.own 8 rfl)).one) rfl (allOne_cons ((hs.sh.own 8 rfl)).one allOne_nil) (Nat.le_of_ble_eq_true rfl) rfl) (wanted_none rfl _) ?_
     rintro a92 w92 h92 ⟨v0, ht92⟩
     have hm92 : FrI 55 S [(2, .pointer (some ⟨b3, 0, none⟩)), (5, .pointer (some ⟨b9, 0, none⟩)), (7, .int .i64 ((i : Nat) : Int)), (34, .int .i64 ((i : Nat) : Int)), (35, .pointer (some ⟨b3, 0, none⟩)), (36, code.v), (37, .int .i64 ((code.l.length : Nat) : Int)), (38, .bool (decide (i < code.l.length)))] [(0, 41, .pointer (some ⟨b9, 0, none⟩)), (1, 42, .pointer (some ⟨b9, 0, none⟩)), (2, 43, .pointer (some ⟨b9, 0, none⟩)), (3, 44, .pointer (some ⟨b9, 5, none⟩)), (4, 45, vt), (5, 46, .pointer (some ⟨b3, 3, none⟩)), (6, 47, .int .i64 ((R : Nat) : Int)), (7, 48, v7007), (8, 49, .agg #[.int .i64 0, v7007, (.slice none 0 0)]), (9, 50, v7009), (10, 51, v7010), (11, 52, .pointer (some ⟨b9, 0, none⟩)), (12, 53, .pointer (some ⟨b9, 5, none⟩))] a := hfr.more (by
      intro k j d v hk hS
      rcases k with _ | _ | _ | _ | _ | _ | _ | _ | _ | _ | _ | _ | _ | k
      ·obtain ⟨rfl, rfl, rfl⟩ : _ = j ∧ _ = d ∧ _ = v := by simpa using hk
       exact hfr.at_ 0 _ _ _ rfl hS
      ·obtain ⟨rfl, rfl, rfl⟩ : _ = j ∧ _ = d ∧ _ = v := by simpa using hk
       exact hfr.at_ 1 _ _ _ rfl hS
      ·obtain ⟨rfl, rfl, rfl⟩ : _ = j ∧ _ = d ∧ _ = v := by simpa using hk
       exact hfr.at_ 2 _ _ _ rfl hS
      ·obtain ⟨rfl, rfl, rfl⟩ : _ = j ∧ _ = d ∧ _ = v := by simpa using hk
       exact hfr.at_ 3 _ _ _ rfl hS
      ·obtain ⟨rfl, rfl, rfl⟩ : _ = j ∧ _ = d ∧ _ = v := by simpa using hk
       exact hfr.at_ 4 _ _ _ rfl hS
      ·obtain ⟨rfl, rfl, rfl⟩ : _ = j ∧ _ = d ∧ _ = v := by simpa using hk
       exact hfr.at_ 5 _ _ _ rfl hS
      ·obtain ⟨rfl, rfl, rfl⟩ : _ = j ∧ _ = d ∧ _ = v := by simpa using hk
       exact hfr.at_ 6 _ _ _ rfl hS
      ·obtain ⟨rfl, rfl, rfl⟩ : _ = j ∧ _ = d ∧ _ = v := by simpa using hk
       exact hfr.at_ 7 _ _ _ rfl hS
      ·obtain ⟨rfl, rfl, rfl⟩ : _ = j ∧ _ = d ∧ _ = v := by simpa using hk
       exact hfr.at_ 8 _ _ _ rfl hS
      ·obtain ⟨rfl, rfl, rfl⟩ : _ = j ∧ _ = d ∧ _ = v := by simpa using hk
       exact hfr.at_ 9 _ _ _ rfl hS
      ·obtain ⟨rfl, rfl, rfl⟩ : _ = j ∧ _ = d ∧ _ = v := by simpa using hk
       exact hfr.at_ 10 _ _ _ rfl hS
      ·obtain ⟨rfl, rfl, rfl⟩ : _ = j ∧ _ = d ∧ _ = v := by simpa using hk
       exact hfr.at_ 11 _ _ _ rfl hS
      ·obtain ⟨rfl, rfl, rfl⟩ : _ = j ∧ _ = d ∧ _ = v := by simpa using hk
       exact hfr.at_ 12 _ _ _ rfl hS
      · simp at hk)
     exact Or.inr (Or.inr (Or.inr (Or.inr (⟨un rfl hw7, un rfl hw9, un rfl hw10, upd_self _ _, v7007, v7009, v7010, hm92.none ht92 h92.fr.defers rfl, (h92.sh.sel (L' := [.own 101 (⟨v7009, [(⟨0, v7007, (.slice none 0 0)⟩ : ThV)]⟩ : Ls ThV), .own 3 (⟨v7007, List.replicate R 0⟩ : Ls Int), .own 3 (⟨v16, words.l⟩ : Ls Int), .blk b9 104 [code.v, words.v, .int .i64 ((Lk : Nat) : Int), .int .i64 ((R : Nat) : Int), .int .i64 mode, v7010, v16, vo, (.slice none 0 0), .bool false], .blk b3 28 [code.v, words.v, .int .i64 ((Lk : Nat) : Int), .int .i64 ((R : Nat) : Int)], .at_ code, .at_ words, .own 3 (⟨vo, ol⟩ : Ls Int), .own 101 (⟨v7010, (rows.map ThL.toV) ++ ([(⟨0, v7007, (.slice none 0 0)⟩ : ThV)])⟩ : Ls ThV), .big (rowsA 3 139 rows)]) [0, 1, 2, 3, 4, 5, 6, 7, 8, 9] (by decide) ⟨rfl, rfl, rfl, rfl, rfl, rfl, rfl, rfl, rfl, rfl, trivial⟩)⟩))))
    ·
     exact no_way hw13 hSi
   · simp at ho
  intro S hall a w hI
  clear h61
  rcases hI with ⟨hw7, hw9, hw10, hw13, hfr, hsh⟩ | ⟨hw7, hw9, hw10, hw13, v7007, hfr, hsh⟩ | ⟨hw7, hw9, hw10, hw13, v7007, v7009, hfr, hsh⟩ | ⟨hw7, hw9, hw10, hw13, v7007, v7009, v7010, hfr, hsh⟩ | ⟨hw7, hw9, hw10, hw13, v7007, v7009, v7010, hfr, hsh⟩
  · exact no_way (hall 7 (by decide)) hw7
  · exact no_way (hall 9 (by decide)) hw9
  · exact no_way (hall 10 (by decide)) hw10
  · exact no_way (hall 13 (by decide)) hw13
  have h93 : St 55 (fun _ => False) W a w _ [.own 101 (⟨v7009, [(⟨0, v7007, (.slice none 0 0)⟩ : ThV)]⟩ : Ls ThV), .own 3 (⟨v7007, List.replicate R 0⟩ : Ls Int), .own 3 (⟨v16, words.l⟩ : Ls Int), .blk b9 104 [code.v, words.v, .int .i64 ((Lk : Nat) : Int), .int .i64 ((R : Nat) : Int), .int .i64 mode, v7010, v16, vo, (.slice none 0 0), .bool false], .blk b3 28 [code.v, words.v, .int .i64 ((Lk : Nat) : Int), .int .i64 ((R : Nat) : Int)], .at_ code, .at_ words, .own 3 (⟨vo, ol⟩ : Ls Int), .own 101 (⟨v7010, (rows.map ThL.toV) ++ ([(⟨0, v7007, (.slice none 0 0)⟩ : ThV)])⟩ : Ls ThV), .big (rowsA 3 139 rows)] := ⟨hfr.fr0, hsh⟩
  clear hall hfr hsh hw7 hw9 hw10 hw13
  refine hK60 _ _ ?_
  refine wp_region_lit ?_
  refine wms 1 h93 rfl fun a94 h94 => ?_; clear h93
  refine wv h94 (r_addN (p := i) (q := 1) rfl rfl rfl (show i + 1 < 9223372036854775808 from (by omega))) rfl rfl fun a95 h95 => ?_; clear h94
  refine wms 1 h95 rfl fun a96 h96 => ?_; clear h95
  refine wpList_nil ?_
  have h97 := h96.nil (α := Wt) 139
  clear h96
  have h98 := h97.sel (L' := [.own 3 (⟨v7007, List.replicate R 0⟩ : Ls Int), .own 139 (⟨.slice none 0 0, []⟩ : Ls Wt), .big (rowsA 3 139 rows), .own 101 (⟨v7009, [(⟨0, v7007, (.slice none 0 0)⟩ : ThV)]⟩ : Ls ThV), .own 3 (⟨v16, words.l⟩ : Ls Int), .blk b9 104 [code.v, words.v, .int .i64 ((Lk : Nat) : Int), .int .i64 ((R : Nat) : Int), .int .i64 mode, v7010, v16, vo, (.slice none 0 0), .bool false], .blk b3 28 [code.v, words.v, .int .i64 ((Lk : Nat) : Int), .int .i64 ((R : Nat) : Int)], .at_ code, .at_ words, .own 3 (⟨vo, ol⟩ : Ls Int), .own 101 (⟨v7010, (rows.map ThL.toV) ++ ([(⟨0, v7007, (.slice none 0 0)⟩ : ThV)])⟩ : Ls ThV)]) [2, 0, 10, 1, 3, 4, 5, 6, 7, 8, 9] (by decide) ⟨rfl, rfl, rfl, rfl, rfl, rfl, rfl, rfl, rfl, rfl, rfl, trivial⟩
  have h99 := h98.fold (x := (⟨0, (⟨v7007, List.replicate R 0⟩ : Ls Int), (⟨.slice none 0 0, []⟩ : Ls Wt)⟩ : ThL))
  clear h98
  have h100 := h99.relist (i := 8) (l' := (rows ++ [(⟨0, (⟨v7007, List.replicate R 0⟩ : Ls Int), (⟨.slice none 0 0, []⟩ : Ls Wt)⟩ : ThL)]).map ThL.toV) rfl (by simp [ThL.toV])
  clear h99
  refine x_again ⟨_, ?_, (i + 1), (rows ++ [(⟨0, (⟨v7007, List.replicate R 0⟩ : Ls Int), (⟨.slice none 0 0, []⟩ : Ls Wt)⟩ : ThL)]), v7010, ?_, ?_, ?_, h100.nrm ⟨rfl, rfl, rfl, trivial⟩ [2, 3, 4, 5, 6, 7, 8, 0] (by decide) ⟨rfl, rfl, rfl, rfl, rfl, rfl, rfl, rfl, trivial⟩, rfl⟩
  · rw [hm48]; first | omega | (simp only [lens9]; omega)
  · omega
  · simp [hrl]
  · rw [List.map_append, hrw, List.replicate_succ']; rfl
 have hp59 : ¬ (i < code.l.length) := of_decide_eq_false hb59
 refine wp_exit ?_
 refine hK45 _ _ ?_
 refine wp_seq_k fun K101 hK101 => wp_region_lit ?_
 refine wms 2 h58 rfl fun a102 h102 => ?_; clear h58
 refine wpList_nil (hK101 _ _ ?_)
 refine wp_ret ?_
 try simp only [Exit.then, Exit.inBlock]
 refine x_ret1 (fn := Try.f59) (t := 4) rfl h102 rfl ?_
 have h104 := h102.nil (α := Int) 3
 clear h102
 refine ⟨b9, rows, vt, ⟨v16, words.l⟩, ⟨vo, ol⟩, ⟨.slice none 0 0, []⟩, rfl, ?_, rfl, hol2, rfl, (h104.sh.sel (L' := [.blk b9 104 [code.v, words.v, .int .i64 ((Lk : Nat) : Int), .int .i64 ((R : Nat) : Int), .int .i64 mode, vt, v16, vo, (.slice none 0 0), .bool false], .own 101 (⟨vt, rows.map ThL.toV⟩ : Ls ThV), .big (rowsA 3 139 rows), .own 3 (⟨v16, words.l⟩ : Ls Int), .own 3 (⟨vo, ol⟩ : Ls Int), .own 3 (⟨.slice none 0 0, []⟩ : Ls Int)]) [2, 7, 8, 1, 6, 0] (by decide) ⟨rfl, rfl, rfl, rfl, rfl, rfl, trivial⟩)⟩
 rw [hrw, show i = code.l.length by omega]

end Go.Proofs.Ytanhbpofhebbaaa
