/-
  Contracts of functions of this program and of the references, each walked once.
-/
import Derived.Test.YtfpaahkleienoaaX16
import Derived.Test.YtfpaahkleienoaaS8
namespace Go.Proofs.Ytfpaahkleienoaa
open Go.RowKit
set_option linter.unusedSimpArgs false
set_option linter.unusedVariables false


theorem set_same {l : List ThV} {t : Nat} {v : Value} (h : t < l.length) (e : (nth l t).wv = v) : l.set t { nth l t with wv := v } = l := by
  subst e
  refine ext_nth _ _ (by simp) fun i hi => ?_
  rw [nth_set]
  split
  · rename_i hh; rw [← hh.1]
  · rfl

set_option maxRecDepth 100000 in
set_option maxHeartbeats 1000000 in
theorem done_c (K : Nat → Prop) (g : Nat) (x : Wt) (words owner : Ls Int) (cv pw : Value) (locks regs mode : Int) (tv pv : Value) (fell : Bool) (W : World) (hS : Sh K W W [.blk g 125 [cv, pw, .int .i64 locks, .int .i64 regs, .int .i64 mode, tv, words.v, owner.v, pv, .bool fell], .own 3 words, .own 3 owner]) (hx : if x.lock = true then 0 ≤ x.wh ∧ x.wh < owner.l.length else 0 ≤ x.wh ∧ x.wh < words.l.length) :
    Rets Try.prog 127 [.pointer (some ⟨g, 0, none⟩), .agg #[.bool x.lock, .int .i64 x.wh, .int .i64 x.what]] W (fun v w' => v = .tuple #[] ∧ Sh K W w' [.blk g 125 [cv, pw, .int .i64 locks, .int .i64 regs, .int .i64 mode, tv, words.v, owner.v, pv, .bool fell], .own 3 (⟨words.v, if x.lock = true then words.l else words.l.set x.wh.toNat x.what⟩ : Ls Int), .own 3 (⟨owner.v, if x.lock = true then owner.l.set x.wh.toNat (-1) else owner.l⟩ : Ls Int)]) := by
 refine x_enter (N := 22) Try.func127 rfl Try.ntmps127 (Nat.le_of_ble_eq_true rfl) fun a1 hf1 => ?_
 have h1 : St 22 K W a1 W [(0, .pointer (some ⟨g, 0, none⟩)), (1, .agg #[.bool x.lock, .int .i64 x.wh, .int .i64 x.what])] [.blk g 125 [cv, pw, .int .i64 locks, .int .i64 regs, .int .i64 mode, tv, words.v, owner.v, pv, .bool fell], .own 3 words, .own 3 owner] := ⟨hf1.sub ⟨rfl, rfl, trivial⟩, hS⟩
 clear hf1
 refine wp_seq_k fun K2 hK2 => wp_region_lit <| wl_ex (x_box (cs := [.bool x.lock, .int .i64 x.wh, .int .i64 x.what]) h1 rfl rfl rfl rfl rfl) (wanted_none rfl _) ?_
 rintro a3 w3 ⟨b3, h3⟩; clear h1
 refine wpList_nil <| hK2 _ _ <| wp_seq_k fun K4 hK4 => wp_region_lit <| wv h3 (r_fieldB (r := 0) fl_210_0 rfl rfl rfl) rfl rfl fun a5 h5 => wv h5 (r_ldb (i := 0) ti_4 rfl rfl rfl rfl) rfl rfl fun a6 h6 => wpList_nil <| hK4 _ _ <| x_cond h6 rfl (fun hb7 => ?_) (fun hb7 => ?_); clear h3 h5
 ·skip
  rw [if_pos (by assumption)] at hx
  rw [if_pos (by assumption), if_pos (by assumption)]
  refine x_tail 7 [] (by kernel_rfl) (by kernel_rfl) h6 fun Z8 hZ8 => ?_
  have hq8 := h6.fr
  refine wq_val hq8 (r_move rfl rfl) (wanted_none rfl _) rfl rfl fun a9 hq9 => wq_val hq9 (r_nil rfl rfl) (wanted_none rfl _) rfl rfl fun a10 hq10 => wq_val hq10 (r_fieldB (r := 7) fl_125_4 rfl rfl rfl) (wanted_none rfl _) rfl rfl fun a11 hq11 => wq_val hq11 (r_ldb (i := 1) ti_23 rfl rfl rfl rfl) (wanted_none rfl _) rfl rfl fun a12 hq12 => wq_val hq12 (r_fieldB (r := 1) fl_210_1 rfl rfl rfl) (wanted_none rfl _) rfl rfl fun a13 hq13 => wq_val hq13 (r_ldb (i := 0) ti_3 rfl rfl rfl rfl) (wanted_none rfl _) rfl rfl fun a14 hq14 => ?_; clear hq8 hq9 hq10 hq11 hq12 hq13
  have hl15 : owner.l.length ≤ 140737488355328 := (h6.sh.own 3 rfl).len
  refine wq_val hq14 (r_ixI (s := owner) (q := x.wh) sl_23 ti_3 rfl rfl rfl (fun w h => (h.own 3 rfl)) (show 0 ≤ x.wh ∧ x.wh < owner.l.length from (by omega))) (wanted_none rfl _) rfl rfl fun a16 hq16 => wpQuiet_nil (hZ8 _ fun w17 hw17 => ?_); clear hq14
  have h17 : St 22 K W a16 w17 _ _ := ⟨hq16, hw17⟩
  clear hq16 hw17 h6
  refine wl_ex (x_ste (r := 3) (i := x.wh.toNat) (j := 0) (x' := ((-1) : Int)) h17 ti_3 rfl rfl rfl rfl rfl (show x.wh.toNat < owner.l.length from (by omega)) (Nat.le_of_ble_eq_true rfl) rfl rfl rfl (by intro q hq; obtain rfl : q = 0 := (by omega); rfl) (fun w h => Flat.inner _ _) (fun b hb => (Flat.on _ _ hb).elim)) (wanted_none rfl _) ?_
  rintro a18 w18 h18
  clear h17
  refine wpList_nil ?_
  try simp only [Exit.then, Exit.inBlock, if_true]
  refine x_end0 (fn := Try.f127) rfl h18 ?_
  exact ⟨rfl, (h18.sh.sel (L' := [.blk g 125 [cv, pw, .int .i64 locks, .int .i64 regs, .int .i64 mode, tv, words.v, owner.v, pv, .bool fell], .own 3 words, .own 3 (⟨owner.v, owner.l.set x.wh.toNat (-1)⟩ : Ls Int)]) [1, 2, 3] (by decide) ⟨rfl, rfl, rfl, trivial⟩)⟩
 rw [if_neg (by rw [show x.lock = false by assumption]; decide)] at hx
 rw [if_neg (by rw [show x.lock = false by assumption]; decide), if_neg (by rw [show x.lock = false by assumption]; decide)]
 refine x_tail 9 [] (by kernel_rfl) (by kernel_rfl) h6 fun Z19 hZ19 => ?_
 have hq19 := h6.fr
 refine wq_val hq19 (r_move rfl rfl) (wanted_none rfl _) rfl rfl fun a20 hq20 => wq_val hq20 (r_nil rfl rfl) (wanted_none rfl _) rfl rfl fun a21 hq21 => wq_val hq21 (r_fieldB (r := 6) fl_125_3 rfl rfl rfl) (wanted_none rfl _) rfl rfl fun a22 hq22 => wq_val hq22 (r_ldb (i := 1) ti_23 rfl rfl rfl rfl) (wanted_none rfl _) rfl rfl fun a23 hq23 => wq_val hq23 (r_fieldB (r := 1) fl_210_1 rfl rfl rfl) (wanted_none rfl _) rfl rfl fun a24 hq24 => wq_val hq24 (r_ldb (i := 0) ti_3 rfl rfl rfl rfl) (wanted_none rfl _) rfl rfl fun a25 hq25 => wq_val hq25 (r_fieldB (r := 2) fl_210_2 rfl rfl rfl) (wanted_none rfl _) rfl rfl fun a26 hq26 => wq_val hq26 (r_ldb (i := 0) ti_3 rfl rfl rfl rfl) (wanted_none rfl _) rfl rfl fun a27 hq27 => ?_; clear hq19 hq20 hq21 hq22 hq23 hq24 hq25 hq26
 have hl28 : words.l.length ≤ 140737488355328 := (h6.sh.own 2 rfl).len
 refine wq_val hq27 (r_ixI (s := words) (q := x.wh) sl_23 ti_3 rfl rfl rfl (fun w h => (h.own 2 rfl)) (show 0 ≤ x.wh ∧ x.wh < words.l.length from (by omega))) (wanted_none rfl _) rfl rfl fun a29 hq29 => wpQuiet_nil (hZ19 _ fun w30 hw30 => ?_); clear hq27
 have h30 : St 22 K W a29 w30 _ _ := ⟨hq29, hw30⟩
 clear hq29 hw30 h6
 refine wl_ex (x_ste (r := 2) (i := x.wh.toNat) (j := 0) (x' := (x.what : Int)) h30 ti_3 rfl rfl rfl rfl rfl (show x.wh.toNat < words.l.length from (by omega)) (Nat.le_of_ble_eq_true rfl) rfl rfl rfl (by intro q hq; obtain rfl : q = 0 := (by omega); rfl) (fun w h => Flat.inner _ _) (fun b hb => (Flat.on _ _ hb).elim)) (wanted_none rfl _) ?_
 rintro a31 w31 h31
 clear h30
 refine wpList_nil ?_
 try simp only [Exit.then, Exit.inBlock, if_true]
 refine x_end0 (fn := Try.f127) rfl h31 ?_
 exact ⟨rfl, (h31.sh.sel (L' := [.blk g 125 [cv, pw, .int .i64 locks, .int .i64 regs, .int .i64 mode, tv, words.v, owner.v, pv, .bool fell], .own 3 (⟨words.v, words.l.set x.wh.toNat x.what⟩ : Ls Int), .own 3 owner]) [1, 2, 3] (by decide) ⟨rfl, rfl, rfl, trivial⟩)⟩

set_option maxRecDepth 100000 in
set_option maxHeartbeats 1000000 in
theorem word_c (K : Nat → Prop) (g : Nat) (n : Int) (words : Ls Int) (cv pw : Value) (locks regs mode : Int) (tv ov pv : Value) (fell : Bool) (W : World) (hS : Sh K W W [.blk g 125 [cv, pw, .int .i64 locks, .int .i64 regs, .int .i64 mode, tv, words.v, ov, pv, .bool fell], .own 3 words]) :
    Rets Try.prog 131 [.pointer (some ⟨g, 0, none⟩), .int .i64 n] W (fun v w' => v = .bool (decide (0 ≤ n ∧ n < (words.l.length : Int))) ∧ Sh K W w' [.blk g 125 [cv, pw, .int .i64 locks, .int .i64 regs, .int .i64 mode, tv, words.v, ov, pv, .bool (fell || !decide (0 ≤ n ∧ n < (words.l.length : Int)))], .own 3 words]) := by
 refine x_enter (N := 19) Try.func131 rfl Try.ntmps131 (Nat.le_of_ble_eq_true rfl) fun a1 hf1 => ?_
 have h1 : St 19 K W a1 W [(0, .pointer (some ⟨g, 0, none⟩)), (1, .int .i64 n)] [.blk g 125 [cv, pw, .int .i64 locks, .int .i64 regs, .int .i64 mode, tv, words.v, ov, pv, .bool fell], .own 3 words] := ⟨hf1.sub ⟨rfl, rfl, trivial⟩, hS⟩
 clear hf1
 refine wp_seq_k fun K2 hK2 => wp_region_lit <| wms 1 h1 rfl fun a3 h3 => wpList_nil <| hK2 _ _ <| wp_seq_k fun K4 hK4 => wp_seq_k fun K5 hK5 => wp_region_lit <| wms 1 h3 rfl fun a6 h6 => wv h6 (r_lssI (p := n) (q := 0) rfl rfl rfl) rfl rfl fun a7 h7 => wms 1 h7 rfl fun a8 h8 => ?_; clear h1 h3 h6 h7
 rcases Bool.eq_false_or_eq_true (decide (n < 0)) with hb9 | hb9
 ·have hp9 : n < 0 := of_decide_eq_true hb9
  refine wl_skip h8 (wanted_no h8.fr rfl rfl rfl rfl hb9) rfl rfl fun a10 h10 => wl_skip h10 (wanted_no h10.fr rfl rfl rfl rfl hb9) rfl rfl fun a11 h11 => wl_skip h11 (wanted_no h11.fr rfl rfl rfl rfl hb9) rfl rfl fun a12 h12 => wl_skip h12 (wanted_no h12.fr rfl rfl rfl rfl hb9) rfl rfl fun a13 h13 => wl_skip h13 (wanted_no h13.fr rfl rfl rfl rfl hb9) rfl rfl fun a14 h14 => wl_skip h14 (wanted_no h14.fr rfl rfl rfl rfl hb9) rfl rfl fun a15 h15 => wl_skip h15 (wanted_no h15.fr rfl rfl rfl rfl hb9) rfl rfl fun a16 h16 => wv h16 (r_pickT rfl rfl hb9 rfl) rfl rfl fun a17 h17 => wpList_nil <| hK5 _ _ <| x_condT h17 rfl rfl <| wp_seq_k fun K18 hK18 => wp_region_lit <| wms 1 h17 rfl fun a19 h19 => ?_; clear h8 h10 h11 h12 h13 h14 h15 h16 h17
  refine wv h19 (r_nil rfl rfl) rfl rfl fun a20 h20 => wv h20 (r_fieldB (r := 9) fl_125_6 rfl rfl rfl) rfl rfl fun a21 h21 => wl_ex (x_stb (i := 0) (vs := [.bool true]) (cs' := [cv, pw, .int .i64 locks, .int .i64 regs, .int .i64 mode, tv, words.v, ov, pv, .bool true]) h21 ti_4 rfl rfl rfl rfl rfl rfl rfl (allOne_cons rfl allOne_nil) (Nat.le_of_ble_eq_true rfl) rfl) (wanted_none rfl _) ?_; clear h19 h20
  rintro a22 w22 h22
  clear h21
  refine wpList_nil <| hK18 _ _ <| wp_seq_k fun K23 hK23 => wp_region_lit <| wms 1 h22 rfl fun a24 h24 => wpList_nil <| hK23 _ _ <| wp_ret ?_; clear h22
  try simp only [Exit.then, Exit.inBlock]
  refine x_ret1 (fn := Try.f131) (t := 4) rfl h24 rfl ?_
  first | (have e9 : decide (0 ≤ n ∧ n < (words.l.length : Int)) = true := decide_eq_true (by omega)) | (have e9 : decide (0 ≤ n ∧ n < (words.l.length : Int)) = false := decide_eq_false (by omega))
  rw [e9]
  refine ⟨rfl, ?_⟩
  first | (simp only [Bool.not_true, Bool.or_false]; exact (h24.sh.sel (L' := [.blk g 125 [cv, pw, .int .i64 locks, .int .i64 regs, .int .i64 mode, tv, words.v, ov, pv, .bool true], .own 3 words]) [0, 1] (by decide) ⟨rfl, rfl, trivial⟩)) | (simp only [Bool.not_false, Bool.or_true]; exact (h24.sh.sel (L' := [.blk g 125 [cv, pw, .int .i64 locks, .int .i64 regs, .int .i64 mode, tv, words.v, ov, pv, .bool true], .own 3 words]) [0, 1] (by decide) ⟨rfl, rfl, trivial⟩))
 have hp9 : ¬ (n < 0) := of_decide_eq_false hb9
 refine wl_val h8 (r_move rfl rfl) (wanted_yes h8.fr rfl rfl rfl rfl hb9) rfl rfl fun a25 h25 => wl_val h25 (r_move rfl rfl) (wanted_yes h25.fr rfl rfl rfl rfl hb9) rfl rfl fun a26 h26 => wl_val h26 (r_nil rfl rfl) (wanted_yes h26.fr rfl rfl rfl rfl hb9) rfl rfl fun a27 h27 => wl_val h27 (r_fieldB (r := 6) fl_125_3 rfl rfl rfl) (wanted_yes h27.fr rfl rfl rfl rfl hb9) rfl rfl fun a28 h28 => wl_val h28 (r_ldb (i := 0) ti_23 rfl rfl rfl rfl) (wanted_yes h28.fr rfl rfl rfl rfl hb9) rfl rfl fun a29 h29 => ?_; clear h8 h25 h26 h27 h28
 have hl30 : words.l.length ≤ 140737488355328 := (h29.sh.own 1 rfl).len
 refine wl_val h29 (r_len (s := words) (n := words.l.length) sl_23 rfl rfl (fun w h => (h.own 1 rfl)) rfl) (wanted_yes h29.fr rfl rfl rfl rfl hb9) rfl rfl fun a31 h31 => wl_val h31 (r_geqI (p := n) (q := ((words.l.length : Nat) : Int)) rfl rfl rfl) (wanted_yes h31.fr rfl rfl rfl rfl hb9) rfl rfl fun a32 h32 => wv h32 (r_pickF rfl rfl hb9 rfl) rfl rfl fun a33 h33 => wpList_nil <| hK5 _ _ <| x_cond h33 rfl (fun hb34 => ?_) (fun hb34 => ?_); clear h29 h31 h32
 ·have hp34 : ((words.l.length : Nat) : Int) ≤ n := of_decide_eq_true hb34
  refine wp_seq_k fun K35 hK35 => wp_region_lit <| wms 1 h33 rfl fun a36 h36 => wv h36 (r_nil rfl rfl) rfl rfl fun a37 h37 => wv h37 (r_fieldB (r := 9) fl_125_6 rfl rfl rfl) rfl rfl fun a38 h38 => wl_ex (x_stb (i := 0) (vs := [.bool true]) (cs' := [cv, pw, .int .i64 locks, .int .i64 regs, .int .i64 mode, tv, words.v, ov, pv, .bool true]) h38 ti_4 rfl rfl rfl rfl rfl rfl rfl (allOne_cons rfl allOne_nil) (Nat.le_of_ble_eq_true rfl) rfl) (wanted_none rfl _) ?_; clear h33 h36 h37
  rintro a39 w39 h39
  clear h38
  refine wpList_nil <| hK35 _ _ <| wp_seq_k fun K40 hK40 => wp_region_lit <| wms 1 h39 rfl fun a41 h41 => wpList_nil <| hK40 _ _ <| wp_ret ?_; clear h39
  try simp only [Exit.then, Exit.inBlock]
  refine x_ret1 (fn := Try.f131) (t := 4) rfl h41 rfl ?_
  first | (have e9 : decide (0 ≤ n ∧ n < (words.l.length : Int)) = true := decide_eq_true (by omega)) | (have e9 : decide (0 ≤ n ∧ n < (words.l.length : Int)) = false := decide_eq_false (by omega))
  rw [e9]
  refine ⟨rfl, ?_⟩
  first | (simp only [Bool.not_true, Bool.or_false]; exact (h41.sh.sel (L' := [.blk g 125 [cv, pw, .int .i64 locks, .int .i64 regs, .int .i64 mode, tv, words.v, ov, pv, .bool true], .own 3 words]) [0, 1] (by decide) ⟨rfl, rfl, trivial⟩)) | (simp only [Bool.not_false, Bool.or_true]; exact (h41.sh.sel (L' := [.blk g 125 [cv, pw, .int .i64 locks, .int .i64 regs, .int .i64 mode, tv, words.v, ov, pv, .bool true], .own 3 words]) [0, 1] (by decide) ⟨rfl, rfl, trivial⟩))
 have hp34 : ¬ (((words.l.length : Nat) : Int) ≤ n) := of_decide_eq_false hb34
 refine wp_skip <| hK4 _ _ <| wp_seq_k fun K42 hK42 => wp_region_lit <| wms 1 h33 rfl fun a43 h43 => wpList_nil <| hK42 _ _ <| wp_ret ?_; clear h33
 try simp only [Exit.then, Exit.inBlock]
 refine x_ret1 (fn := Try.f131) (t := 4) rfl h43 rfl ?_
 first | (have e9 : decide (0 ≤ n ∧ n < (words.l.length : Int)) = true := decide_eq_true (by omega)) | (have e9 : decide (0 ≤ n ∧ n < (words.l.length : Int)) = false := decide_eq_false (by omega))
 rw [e9]
 refine ⟨rfl, ?_⟩
 first | (simp only [Bool.not_true, Bool.or_false]; exact (h43.sh.sel (L' := [.blk g 125 [cv, pw, .int .i64 locks, .int .i64 regs, .int .i64 mode, tv, words.v, ov, pv, .bool fell], .own 3 words]) [0, 1] (by decide) ⟨rfl, rfl, trivial⟩)) | (simp only [Bool.not_false, Bool.or_true]; exact (h43.sh.sel (L' := [.blk g 125 [cv, pw, .int .i64 locks, .int .i64 regs, .int .i64 mode, tv, words.v, ov, pv, .bool fell], .own 3 words]) [0, 1] (by decide) ⟨rfl, rfl, trivial⟩))

set_option maxRecDepth 100000 in
set_option maxHeartbeats 4000000 in
theorem store_c (K : Nat → Prop) (g t : Nat) (x : Wt) (thr : Ls ThV) (wait : Ls Wt) (words owner : Ls Int) (cv pw : Value) (locks regs mode : Int) (pv : Value) (fell : Bool) (W : World) (hS : Sh K W W [.blk g 125 [cv, pw, .int .i64 locks, .int .i64 regs, .int .i64 mode, thr.v, words.v, owner.v, pv, .bool fell], .own 147 thr, .own 210 wait, .own 3 words, .own 3 owner]) (hx : if x.lock = true then 0 ≤ x.wh ∧ x.wh < owner.l.length else 0 ≤ x.wh ∧ x.wh < words.l.length) (ht : t < thr.l.length) (hwv : (nth thr.l t).wv = wait.v) (hwl : wait.l.length ≤ 100) :
    Rets Try.prog 130 [.pointer (some ⟨g, 0, none⟩), .int .i64 ((t : Nat) : Int), .agg #[.bool x.lock, .int .i64 x.wh, .int .i64 x.what]] W (fun v w' => v = .tuple #[] ∧ ∃ (wait' : Ls Wt) (words' owner' : Ls Int), (if 0 < mode then wait'.l = wait.l ++ [x] ∧ words' = words ∧ owner' = owner else wait' = wait ∧ words' = (⟨words.v, if x.lock = true then words.l else words.l.set x.wh.toNat x.what⟩ : Ls Int) ∧ owner' = (⟨owner.v, if x.lock = true then owner.l.set x.wh.toNat (-1) else owner.l⟩ : Ls Int)) ∧ Sh K W w' [.blk g 125 [cv, pw, .int .i64 locks, .int .i64 regs, .int .i64 mode, thr.v, words'.v, owner'.v, pv, .bool fell], .own 147 (⟨thr.v, thr.l.set t { nth thr.l t with wv := wait'.v }⟩ : Ls ThV), .own 210 wait', .own 3 words', .own 3 owner']) := by
 refine x_enter (N := 32) Try.func130 rfl Try.ntmps130 (Nat.le_of_ble_eq_true rfl) fun a1 hf1 => ?_
 have h1 : St 32 K W a1 W [(0, .pointer (some ⟨g, 0, none⟩)), (1, .int .i64 ((t : Nat) : Int)), (2, .agg #[.bool x.lock, .int .i64 x.wh, .int .i64 x.what])] [.blk g 125 [cv, pw, .int .i64 locks, .int .i64 regs, .int .i64 mode, thr.v, words.v, owner.v, pv, .bool fell], .own 147 thr, .own 210 wait, .own 3 words, .own 3 owner] := ⟨hf1.sub ⟨rfl, rfl, rfl, trivial⟩, hS⟩
 clear hf1
 refine wp_seq_k fun K2 hK2 => wp_region_lit <| wl_ex (x_box (cs := [.bool x.lock, .int .i64 x.wh, .int .i64 x.what]) h1 rfl rfl rfl rfl rfl) (wanted_none rfl _) ?_
 rintro a3 w3 ⟨b3, h3⟩; clear h1
 refine wpList_nil <| hK2 _ _ <| wp_seq_k fun K4 hK4 => wp_region_lit <| wms 1 h3 rfl fun a5 h5 => wv h5 (r_nil rfl rfl) rfl rfl fun a6 h6 => wv h6 (r_fieldB (r := 4) fl_125_1 rfl rfl rfl) rfl rfl fun a7 h7 => wv h7 (r_ldb (i := 1) ti_3 rfl rfl rfl rfl) rfl rfl fun a8 h8 => wv h8 (r_gtrI (p := mode) (q := 0) rfl rfl rfl) rfl rfl fun a9 h9 => wpList_nil <| hK4 _ _ <| x_cond h9 rfl (fun hb10 => ?_) (fun hb10 => ?_); clear h3 h5 h6 h7 h8
 ·have hp10 : 0 < mode := of_decide_eq_true hb10
  have h11 : St 32 K W a9 w3 [(0, .pointer (some ⟨g, 0, none⟩)), (1, .int .i64 ((t : Nat) : Int)), (2, .agg #[.bool x.lock, .int .i64 x.wh, .int .i64 x.what]), (5, .pointer (some ⟨b3, 0, none⟩)), (6, .pointer (some ⟨g, 0, none⟩)), (7, .pointer (some ⟨g, 0, none⟩)), (8, .pointer (some ⟨g, 4, none⟩)), (9, .int .i64 mode), (10, .bool (decide (0 < mode)))] [.blk b3 210 [.bool x.lock, .int .i64 x.wh, .int .i64 x.what], .blk g 125 [cv, pw, .int .i64 locks, .int .i64 regs, .int .i64 mode, thr.v, words.v, owner.v, pv, .bool fell], .own 147 thr, .own 210 wait, .own 3 words, .own 3 owner] := h9.nrm ⟨rfl, rfl, rfl, rfl, rfl, rfl, rfl, rfl, rfl, trivial⟩ [0, 1, 2, 3, 4, 5] (by decide) ⟨rfl, rfl, rfl, rfl, rfl, rfl, trivial⟩
  clear h9
  refine x_any ((fun Φ Ψ S a w => (S 14 = false ∧ S 15 = false ∧ S 18 = false ∧ FrI 32 S Φ Ψ a ∧ Sh K W w [.blk b3 210 [.bool x.lock, .int .i64 x.wh, .int .i64 x.what], .blk g 125 [cv, pw, .int .i64 locks, .int .i64 regs, .int .i64 mode, thr.v, words.v, owner.v, pv, .bool fell], .own 147 thr, .own 210 wait, .own 3 words, .own 3 owner]) ∨ (S 14 = true ∧ S 15 = false ∧ S 18 = false ∧ ∃ (v7014 : Value), FrI 32 S Φ (Ψ ++ [(14, 25, v7014)]) a ∧ Sh K W w [.own 210 (⟨v7014, [x]⟩ : Ls Wt), .blk b3 210 [.bool x.lock, .int .i64 x.wh, .int .i64 x.what], .blk g 125 [cv, pw, .int .i64 locks, .int .i64 regs, .int .i64 mode, thr.v, words.v, owner.v, pv, .bool fell], .own 147 thr, .own 210 wait, .own 3 words, .own 3 owner]) ∨ (S 14 = true ∧ S 15 = true ∧ S 18 = false ∧ ∃ (v7014 : Value) (v7015 : Value), FrI 32 S Φ (Ψ ++ [(14, 25, v7014), (15, 26, v7015), (16, 27, .pointer (some (padr thr.v 3 t 0))), (17, 28, .pointer (some (padr thr.v 3 t 2)))]) a ∧ Sh K W w [.own 210 (⟨v7014, [x]⟩ : Ls Wt), .blk b3 210 [.bool x.lock, .int .i64 x.wh, .int .i64 x.what], .blk g 125 [cv, pw, .int .i64 locks, .int .i64 regs, .int .i64 mode, thr.v, words.v, owner.v, pv, .bool fell], .own 147 thr, .own 210 (⟨v7015, wait.l ++ ([x])⟩ : Ls Wt), .own 3 words, .own 3 owner]) ∨ (S 14 = true ∧ S 15 = true ∧ S 18 = true ∧ ∃ (v7014 : Value) (v7015 : Value), FrI 32 S Φ (Ψ ++ [(14, 25, v7014), (15, 26, v7015), (16, 27, .pointer (some (padr thr.v 3 t 0))), (17, 28, .pointer (some (padr thr.v 3 t 2)))]) a ∧ Sh K W w [.own 210 (⟨v7014, [x]⟩ : Ls Wt), .blk b3 210 [.bool x.lock, .int .i64 x.wh, .int .i64 x.what], .blk g 125 [cv, pw, .int .i64 locks, .int .i64 regs, .int .i64 mode, thr.v, words.v, owner.v, pv, .bool fell], .own 147 (⟨thr.v, thr.l.set t ({ nth thr.l t with wv := v7015 })⟩ : Ls ThV), .own 210 (⟨v7015, wait.l ++ ([x])⟩ : Ls Wt), .own 3 words, .own 3 owner])) [(0, .pointer (some ⟨g, 0, none⟩)), (1, .int .i64 ((t : Nat) : Int)), (2, .agg #[.bool x.lock, .int .i64 x.wh, .int .i64 x.what]), (5, .pointer (some ⟨b3, 0, none⟩)), (6, .pointer (some ⟨g, 0, none⟩)), (7, .pointer (some ⟨g, 0, none⟩)), (8, .pointer (some ⟨g, 4, none⟩)), (9, .int .i64 mode), (10, .bool (decide (0 < mode)))] [(0, 11, .pointer (some ⟨g, 0, none⟩)), (1, 12, .pointer (some ⟨g, 0, none⟩)), (2, 13, .pointer (some ⟨g, 5, none⟩)), (3, 14, thr.v), (4, 15, .int .i64 ((t : Nat) : Int)), (5, 16, .pointer (some ⟨g, 0, none⟩)), (6, 17, .pointer (some ⟨g, 0, none⟩)), (7, 18, .pointer (some ⟨g, 5, none⟩)), (8, 19, thr.v), (9, 20, .int .i64 ((t : Nat) : Int)), (10, 21, .pointer (some (padr thr.v 3 t 0))), (11, 22, .pointer (some (padr thr.v 3 t 2))), (12, 23, wait.v), (13, 24, .agg #[.bool x.lock, .int .i64 x.wh, .int .i64 x.what])]) (by kernel_rfl) (by kernel_rfl) (Or.inl (⟨rfl, rfl, rfl, FrI.start h11.fr, h11.sh.drew⟩)) ?_ ?_
  ·intro S i o ho hSi hcl hdep a w hI
   clear h11
   rcases i with _ | _ | _ | _ | _ | _ | _ | _ | _ | _ | _ | _ | _ | _ | _ | _ | _ | _ | _ | i
   ·obtain rfl : _ = o := Option.some.inj ho
    rcases hI with ⟨ν14, ν15, ν18, φ, ς⟩ | ⟨ν14, ν15, ν18, v7014, φ, ς⟩ | ⟨ν14, ν15, ν18, v7014, v7015, φ, ς⟩ | ⟨_, _, ν18, _⟩
    ·exact sq φ φ.fr0 ς (r_move rfl rfl) 0 rfl rfl rfl rfl rfl rfl fun a hg => Or.inl (⟨un rfl ν14, un rfl ν15, un rfl ν18, hg, ς⟩)
    ·exact sq φ φ.fr0 ς (r_move rfl rfl) 0 rfl rfl rfl rfl rfl rfl fun a hg => Or.inr (Or.inl (⟨un rfl ν14, un rfl ν15, un rfl ν18, v7014, hg, ς⟩))
    ·exact sq φ φ.fr0 ς (r_move rfl rfl) 0 rfl rfl rfl rfl rfl rfl fun a hg => Or.inr (Or.inr (Or.inl (⟨un rfl ν14, un rfl ν15, un rfl ν18, v7014, v7015, hg, ς⟩)))
    ·exact no_way (cA hcl 18 0 rfl ν18) hSi
   ·obtain rfl : _ = o := Option.some.inj ho
    have hd0 : S 0 = true := depAt hdep 0 rfl rfl
    rcases hI with ⟨ν14, ν15, ν18, φ, ς⟩ | ⟨ν14, ν15, ν18, v7014, φ, ς⟩ | ⟨ν14, ν15, ν18, v7014, v7015, φ, ς⟩ | ⟨_, _, ν18, _⟩
    ·exact sq φ (Fr.cons φ.fr0 (φ.at_ 0 0 11 _ rfl hd0)) ς (r_nil rfl rfl) 1 rfl rfl rfl rfl rfl rfl fun a hg => Or.inl (⟨un rfl ν14, un rfl ν15, un rfl ν18, hg, ς⟩)
    ·exact sq φ (Fr.cons φ.fr0 (φ.at_ 0 0 11 _ rfl hd0)) ς (r_nil rfl rfl) 1 rfl rfl rfl rfl rfl rfl fun a hg => Or.inr (Or.inl (⟨un rfl ν14, un rfl ν15, un rfl ν18, v7014, hg, ς⟩))
    ·exact sq φ (Fr.cons φ.fr0 (φ.at_ 0 0 11 _ rfl hd0)) ς (r_nil rfl rfl) 1 rfl rfl rfl rfl rfl rfl fun a hg => Or.inr (Or.inr (Or.inl (⟨un rfl ν14, un rfl ν15, un rfl ν18, v7014, v7015, hg, ς⟩)))
    ·exact no_way (cA hcl 18 1 rfl ν18) hSi
   ·obtain rfl : _ = o := Option.some.inj ho
    have hd1 : S 1 = true := depAt hdep 0 rfl rfl
    rcases hI with ⟨ν14, ν15, ν18, φ, ς⟩ | ⟨ν14, ν15, ν18, v7014, φ, ς⟩ | ⟨ν14, ν15, ν18, v7014, v7015, φ, ς⟩ | ⟨_, _, ν18, _⟩
    ·exact sq φ (Fr.cons φ.fr0 (φ.at_ 1 1 12 _ rfl hd1)) ς (r_fieldB (r := 5) fl_125_2 rfl rfl rfl) 2 rfl rfl rfl rfl rfl rfl fun a hg => Or.inl (⟨un rfl ν14, un rfl ν15, un rfl ν18, hg, ς⟩)
    ·exact sq φ (Fr.cons φ.fr0 (φ.at_ 1 1 12 _ rfl hd1)) ς (r_fieldB (r := 5) fl_125_2 rfl rfl rfl) 2 rfl rfl rfl rfl rfl rfl fun a hg => Or.inr (Or.inl (⟨un rfl ν14, un rfl ν15, un rfl ν18, v7014, hg, ς⟩))
    ·exact sq φ (Fr.cons φ.fr0 (φ.at_ 1 1 12 _ rfl hd1)) ς (r_fieldB (r := 5) fl_125_2 rfl rfl rfl) 2 rfl rfl rfl rfl rfl rfl fun a hg => Or.inr (Or.inr (Or.inl (⟨un rfl ν14, un rfl ν15, un rfl ν18, v7014, v7015, hg, ς⟩)))
    ·exact no_way (cA hcl 18 2 rfl ν18) hSi
   ·obtain rfl : _ = o := Option.some.inj ho
    have hd2 : S 2 = true := depAt hdep 0 rfl rfl
    rcases hI with ⟨ν14, ν15, ν18, φ, ς⟩ | ⟨ν14, ν15, ν18, v7014, φ, ς⟩ | ⟨ν14, ν15, ν18, v7014, v7015, φ, ς⟩ | ⟨_, _, ν18, _⟩
    ·exact sq φ (Fr.cons φ.fr0 (φ.at_ 2 2 13 _ rfl hd2)) ς (r_ldb (i := 1) ti_123 rfl rfl rfl rfl) 3 rfl rfl rfl rfl rfl rfl fun a hg => Or.inl (⟨un rfl ν14, un rfl ν15, un rfl ν18, hg, ς⟩)
    ·exact sq φ (Fr.cons φ.fr0 (φ.at_ 2 2 13 _ rfl hd2)) ς (r_ldb (i := 2) ti_123 rfl rfl rfl rfl) 3 rfl rfl rfl rfl rfl rfl fun a hg => Or.inr (Or.inl (⟨un rfl ν14, un rfl ν15, un rfl ν18, v7014, hg, ς⟩))
    ·exact sq φ (Fr.cons φ.fr0 (φ.at_ 2 2 13 _ rfl hd2)) ς (r_ldb (i := 2) ti_123 rfl rfl rfl rfl) 3 rfl rfl rfl rfl rfl rfl fun a hg => Or.inr (Or.inr (Or.inl (⟨un rfl ν14, un rfl ν15, un rfl ν18, v7014, v7015, hg, ς⟩)))
    ·exact no_way (cA hcl 18 3 rfl ν18) hSi
   ·obtain rfl : _ = o := Option.some.inj ho
    rcases hI with ⟨ν14, ν15, ν18, φ, ς⟩ | ⟨ν14, ν15, ν18, v7014, φ, ς⟩ | ⟨ν14, ν15, ν18, v7014, v7015, φ, ς⟩ | ⟨_, _, ν18, _⟩
    ·exact sq φ φ.fr0 ς (r_move rfl rfl) 4 rfl rfl rfl rfl rfl rfl fun a hg => Or.inl (⟨un rfl ν14, un rfl ν15, un rfl ν18, hg, ς⟩)
    ·exact sq φ φ.fr0 ς (r_move rfl rfl) 4 rfl rfl rfl rfl rfl rfl fun a hg => Or.inr (Or.inl (⟨un rfl ν14, un rfl ν15, un rfl ν18, v7014, hg, ς⟩))
    ·exact sq φ φ.fr0 ς (r_move rfl rfl) 4 rfl rfl rfl rfl rfl rfl fun a hg => Or.inr (Or.inr (Or.inl (⟨un rfl ν14, un rfl ν15, un rfl ν18, v7014, v7015, hg, ς⟩)))
    ·exact no_way (cA hcl 18 4 rfl ν18) hSi
   ·obtain rfl : _ = o := Option.some.inj ho
    rcases hI with ⟨ν14, ν15, ν18, φ, ς⟩ | ⟨ν14, ν15, ν18, v7014, φ, ς⟩ | ⟨_, ν15, _⟩ | ⟨_, ν15, _⟩
    ·exact sq φ φ.fr0 ς (r_move rfl rfl) 5 rfl rfl rfl rfl rfl rfl fun a hg => Or.inl (⟨un rfl ν14, un rfl ν15, un rfl ν18, hg, ς⟩)
    ·exact sq φ φ.fr0 ς (r_move rfl rfl) 5 rfl rfl rfl rfl rfl rfl fun a hg => Or.inr (Or.inl (⟨un rfl ν14, un rfl ν15, un rfl ν18, v7014, hg, ς⟩))
    ·exact no_way (cA hcl 15 5 rfl ν15) hSi
    ·exact no_way (cA hcl 15 5 rfl ν15) hSi
   ·obtain rfl : _ = o := Option.some.inj ho
    have hd5 : S 5 = true := depAt hdep 0 rfl rfl
    rcases hI with ⟨ν14, ν15, ν18, φ, ς⟩ | ⟨ν14, ν15, ν18, v7014, φ, ς⟩ | ⟨_, ν15, _⟩ | ⟨_, ν15, _⟩
    ·exact sq φ (Fr.cons φ.fr0 (φ.at_ 5 5 16 _ rfl hd5)) ς (r_nil rfl rfl) 6 rfl rfl rfl rfl rfl rfl fun a hg => Or.inl (⟨un rfl ν14, un rfl ν15, un rfl ν18, hg, ς⟩)
    ·exact sq φ (Fr.cons φ.fr0 (φ.at_ 5 5 16 _ rfl hd5)) ς (r_nil rfl rfl) 6 rfl rfl rfl rfl rfl rfl fun a hg => Or.inr (Or.inl (⟨un rfl ν14, un rfl ν15, un rfl ν18, v7014, hg, ς⟩))
    ·exact no_way (cA hcl 15 6 rfl ν15) hSi
    ·exact no_way (cA hcl 15 6 rfl ν15) hSi
   ·obtain rfl : _ = o := Option.some.inj ho
    have hd6 : S 6 = true := depAt hdep 0 rfl rfl
    rcases hI with ⟨ν14, ν15, ν18, φ, ς⟩ | ⟨ν14, ν15, ν18, v7014, φ, ς⟩ | ⟨_, ν15, _⟩ | ⟨_, ν15, _⟩
    ·exact sq φ (Fr.cons φ.fr0 (φ.at_ 6 6 17 _ rfl hd6)) ς (r_fieldB (r := 5) fl_125_2 rfl rfl rfl) 7 rfl rfl rfl rfl rfl rfl fun a hg => Or.inl (⟨un rfl ν14, un rfl ν15, un rfl ν18, hg, ς⟩)
    ·exact sq φ (Fr.cons φ.fr0 (φ.at_ 6 6 17 _ rfl hd6)) ς (r_fieldB (r := 5) fl_125_2 rfl rfl rfl) 7 rfl rfl rfl rfl rfl rfl fun a hg => Or.inr (Or.inl (⟨un rfl ν14, un rfl ν15, un rfl ν18, v7014, hg, ς⟩))
    ·exact no_way (cA hcl 15 7 rfl ν15) hSi
    ·exact no_way (cA hcl 15 7 rfl ν15) hSi
   ·obtain rfl : _ = o := Option.some.inj ho
    have hd7 : S 7 = true := depAt hdep 0 rfl rfl
    rcases hI with ⟨ν14, ν15, ν18, φ, ς⟩ | ⟨ν14, ν15, ν18, v7014, φ, ς⟩ | ⟨_, ν15, _⟩ | ⟨_, ν15, _⟩
    ·exact sq φ (Fr.cons φ.fr0 (φ.at_ 7 7 18 _ rfl hd7)) ς (r_ldb (i := 1) ti_123 rfl rfl rfl rfl) 8 rfl rfl rfl rfl rfl rfl fun a hg => Or.inl (⟨un rfl ν14, un rfl ν15, un rfl ν18, hg, ς⟩)
    ·exact sq φ (Fr.cons φ.fr0 (φ.at_ 7 7 18 _ rfl hd7)) ς (r_ldb (i := 2) ti_123 rfl rfl rfl rfl) 8 rfl rfl rfl rfl rfl rfl fun a hg => Or.inr (Or.inl (⟨un rfl ν14, un rfl ν15, un rfl ν18, v7014, hg, ς⟩))
    ·exact no_way (cA hcl 15 8 rfl ν15) hSi
    ·exact no_way (cA hcl 15 8 rfl ν15) hSi
   ·obtain rfl : _ = o := Option.some.inj ho
    rcases hI with ⟨ν14, ν15, ν18, φ, ς⟩ | ⟨ν14, ν15, ν18, v7014, φ, ς⟩ | ⟨_, ν15, _⟩ | ⟨_, ν15, _⟩
    ·exact sq φ φ.fr0 ς (r_move rfl rfl) 9 rfl rfl rfl rfl rfl rfl fun a hg => Or.inl (⟨un rfl ν14, un rfl ν15, un rfl ν18, hg, ς⟩)
    ·exact sq φ φ.fr0 ς (r_move rfl rfl) 9 rfl rfl rfl rfl rfl rfl fun a hg => Or.inr (Or.inl (⟨un rfl ν14, un rfl ν15, un rfl ν18, v7014, hg, ς⟩))
    ·exact no_way (cA hcl 15 9 rfl ν15) hSi
    ·exact no_way (cA hcl 15 9 rfl ν15) hSi
   ·obtain rfl : _ = o := Option.some.inj ho
    have hd8 : S 8 = true := depAt hdep 0 rfl rfl
    have hd9 : S 9 = true := depAt hdep 1 rfl rfl
    rcases hI with ⟨ν14, ν15, ν18, φ, ς⟩ | ⟨ν14, ν15, ν18, v7014, φ, ς⟩ | ⟨_, ν15, _⟩ | ⟨_, ν15, _⟩
    ·have hs := St.mk (Fr.cons (Fr.cons φ.fr0 (φ.at_ 8 8 19 _ rfl hd8)) (φ.at_ 9 9 20 _ rfl hd9)) ς
     have hl42 : thr.l.length ≤ 140737488355328 := (hs.sh.own 2 rfl).len
     exact sq φ (Fr.cons (Fr.cons φ.fr0 (φ.at_ 8 8 19 _ rfl hd8)) (φ.at_ 9 9 20 _ rfl hd9)) ς (r_ixN (s := thr) (q := t) sl_123 ti_147 rfl rfl rfl (fun w h => (h.own 2 rfl)) (show t < thr.l.length from (by omega))) 10 rfl rfl rfl rfl rfl rfl fun a hg => Or.inl (⟨un rfl ν14, un rfl ν15, un rfl ν18, hg, ς⟩)
    ·have hs := St.mk (Fr.cons (Fr.cons φ.fr0 (φ.at_ 8 8 19 _ rfl hd8)) (φ.at_ 9 9 20 _ rfl hd9)) ς
     have hl44 : thr.l.length ≤ 140737488355328 := (hs.sh.own 3 rfl).len
     exact sq φ (Fr.cons (Fr.cons φ.fr0 (φ.at_ 8 8 19 _ rfl hd8)) (φ.at_ 9 9 20 _ rfl hd9)) ς (r_ixN (s := thr) (q := t) sl_123 ti_147 rfl rfl rfl (fun w h => (h.own 3 rfl)) (show t < thr.l.length from (by omega))) 10 rfl rfl rfl rfl rfl rfl fun a hg => Or.inr (Or.inl (⟨un rfl ν14, un rfl ν15, un rfl ν18, v7014, hg, ς⟩))
    ·exact no_way (cA hcl 15 10 rfl ν15) hSi
    ·exact no_way (cA hcl 15 10 rfl ν15) hSi
   ·obtain rfl : _ = o := Option.some.inj ho
    have hd10 : S 10 = true := depAt hdep 0 rfl rfl
    rcases hI with ⟨ν14, ν15, ν18, φ, ς⟩ | ⟨ν14, ν15, ν18, v7014, φ, ς⟩ | ⟨_, ν15, _⟩ | ⟨_, ν15, _⟩
    ·exact sq φ (Fr.cons φ.fr0 (φ.at_ 10 10 21 _ rfl hd10)) ς (r_fieldE (r := 2) fl_147_2 rfl rfl rfl) 11 rfl rfl rfl rfl rfl rfl fun a hg => Or.inl (⟨un rfl ν14, un rfl ν15, un rfl ν18, hg, ς⟩)
    ·exact sq φ (Fr.cons φ.fr0 (φ.at_ 10 10 21 _ rfl hd10)) ς (r_fieldE (r := 2) fl_147_2 rfl rfl rfl) 11 rfl rfl rfl rfl rfl rfl fun a hg => Or.inr (Or.inl (⟨un rfl ν14, un rfl ν15, un rfl ν18, v7014, hg, ς⟩))
    ·exact no_way (cA hcl 15 11 rfl ν15) hSi
    ·exact no_way (cA hcl 15 11 rfl ν15) hSi
   ·obtain rfl : _ = o := Option.some.inj ho
    have hd11 : S 11 = true := depAt hdep 0 rfl rfl
    rcases hI with ⟨ν14, ν15, ν18, φ, ς⟩ | ⟨ν14, ν15, ν18, v7014, φ, ς⟩ | ⟨_, ν15, _⟩ | ⟨_, ν15, _⟩
    ·exact sq φ (Fr.cons φ.fr0 (φ.at_ 11 11 22 _ rfl hd11)) ς (Rn.same (r_lde (s := thr) (i := t) (v := ((nth thr.l t).wv)) ti_145 rfl rfl rfl (fun w h => (h.own 2 rfl)) (show t < thr.l.length from (by omega)) (Nat.le_of_ble_eq_true rfl) rfl) hwv) 12 rfl rfl rfl rfl rfl rfl fun a hg => Or.inl (⟨un rfl ν14, un rfl ν15, un rfl ν18, hg, ς⟩)
    ·exact sq φ (Fr.cons φ.fr0 (φ.at_ 11 11 22 _ rfl hd11)) ς (Rn.same (r_lde (s := thr) (i := t) (v := ((nth thr.l t).wv)) ti_145 rfl rfl rfl (fun w h => (h.own 3 rfl)) (show t < thr.l.length from (by omega)) (Nat.le_of_ble_eq_true rfl) rfl) hwv) 12 rfl rfl rfl rfl rfl rfl fun a hg => Or.inr (Or.inl (⟨un rfl ν14, un rfl ν15, un rfl ν18, v7014, hg, ς⟩))
    ·exact no_way (cA hcl 15 12 rfl ν15) hSi
    ·exact no_way (cA hcl 15 12 rfl ν15) hSi
   ·obtain rfl : _ = o := Option.some.inj ho
    rcases hI with ⟨ν14, ν15, ν18, φ, ς⟩ | ⟨ν14, _⟩ | ⟨ν14, _⟩ | ⟨ν14, _⟩
    ·exact sq φ φ.fr0 ς (r_ldbw (i := 0) (vs := [.bool x.lock, .int .i64 x.wh, .int .i64 x.what]) ti_210 rfl rfl rfl rfl rfl) 13 rfl rfl rfl rfl rfl rfl fun a hg => Or.inl (⟨un rfl ν14, un rfl ν15, un rfl ν18, hg, ς⟩)
    ·exact no_way (cA hcl 14 13 rfl ν14) hSi
    ·exact no_way (cA hcl 14 13 rfl ν14) hSi
    ·exact no_way (cA hcl 14 13 rfl ν14) hSi
   ·obtain rfl : _ = o := Option.some.inj ho
    have hd13 : S 13 = true := depAt hdep 0 rfl rfl
    rcases hI with ⟨ν14, ν15, ν18, φ, ς⟩ | ⟨ν14, _⟩ | ⟨ν14, _⟩ | ⟨ν14, _⟩
    ·have hs := St.mk (Fr.cons φ.fr0 (φ.at_ 13 13 24 _ rfl hd13)) ς
     refine step_ex (x_lit (n := 1) (cs := [.bool x.lock, .int .i64 x.wh, .int .i64 x.what]) ([x] : List Wt) hs sl_145 ti_210 rfl rfl rfl (by decide) rfl (by kernel_rfl) rfl (fun q hq w h => Flat.inner _ _) (fun q hq b hb => (Flat.on _ _ hb).elim) rfl rfl) (wanted_none rfl _) ?_
     rintro a51 w51 ⟨v51, h51⟩ ⟨v0, ht51⟩
     exact Or.inr (Or.inl (⟨upd_self _ _, un rfl ν15, un rfl ν18, v51, φ.stepW hcl hSi [0, 1, 2, 3, 4, 5, 6, 7, 8, 9, 10, 11, 12, 13] (by kernel_rfl) (by kernel_rfl) ht51 h51.fr.defers (h51.fr.at_ 25 _ rfl) 14 rfl rfl rfl rfl, (h51.sh.sel (L' := [.own 210 (⟨v51, [x]⟩ : Ls Wt), .blk b3 210 [.bool x.lock, .int .i64 x.wh, .int .i64 x.what], .blk g 125 [cv, pw, .int .i64 locks, .int .i64 regs, .int .i64 mode, thr.v, words.v, owner.v, pv, .bool fell], .own 147 thr, .own 210 wait, .own 3 words, .own 3 owner]) [0, 1, 2, 3, 4, 5, 6] (by decide) ⟨rfl, rfl, rfl, rfl, rfl, rfl, rfl, trivial⟩)⟩))
    ·exact no_way ν14 hSi
    ·exact no_way ν14 hSi
    ·exact no_way ν14 hSi
   ·obtain rfl : _ = o := Option.some.inj ho
    have hd12 : S 12 = true := depAt hdep 0 rfl rfl
    have hd14 : S 14 = true := depAt hdep 1 rfl rfl
    rcases hI with ⟨ν14, _⟩ | ⟨ν14, ν15, ν18, v7014, φ, ς⟩ | ⟨_, ν15, _⟩ | ⟨_, ν15, _⟩
    ·exact no_way hd14 ν14
    ·have hs := St.mk (Fr.cons (Fr.cons φ.fr0 (φ.at_ 12 12 23 _ rfl hd12)) (φ.at_ 14 14 25 _ rfl hd14)) ς
     refine step_ex (x_app (r := 4) (rm := 0) (s := wait) (m := (⟨v7014, [x]⟩ : Ls Wt)) hs sl_145 ti_210 rfl rfl rfl rfl rfl rfl rfl (fun w h => (h.own 0 rfl)) (fun b hb => own_on (hs.sh.ok _ (List.mem_of_getElem? (i := 0) rfl)) hb) (fun q hq b hb => ⟨q, hq, hb⟩) rfl rfl rfl inferInstance (show (wait.l.length + ([x]).length) * 24 ≤ 140737488355328 ∧ wait.l.length + ([x]).length ≤ 140737488355328 from (by first | omega | (simp only [lens9]; omega))) rfl rfl) (wanted_none rfl _) ?_
     rintro a52 w52 ⟨v52, h52⟩ ⟨v0, ht52⟩
     exact Or.inr (Or.inr (Or.inl (⟨un rfl ν14, upd_self _ _, un rfl ν18, v7014, v52, φ.stepW hcl hSi [0, 1, 2, 3, 4, 5, 6, 7, 8, 9, 10, 11, 12, 13, 14] (by kernel_rfl) (by kernel_rfl) ht52 h52.fr.defers (h52.fr.at_ 26 _ rfl) 15 rfl rfl rfl rfl, (h52.sh.sel (L' := [.own 210 (⟨v7014, [x]⟩ : Ls Wt), .blk b3 210 [.bool x.lock, .int .i64 x.wh, .int .i64 x.what], .blk g 125 [cv, pw, .int .i64 locks, .int .i64 regs, .int .i64 mode, thr.v, words.v, owner.v, pv, .bool fell], .own 147 thr, .own 210 (⟨v52, wait.l ++ ([x])⟩ : Ls Wt), .own 3 words, .own 3 owner]) [0, 1, 2, 3, 4, 5, 6] (by decide) ⟨rfl, rfl, rfl, rfl, rfl, rfl, rfl, trivial⟩)⟩)))
    ·exact no_way ν15 hSi
    ·exact no_way ν15 hSi
   ·obtain rfl : _ = o := Option.some.inj ho
    have hd3 : S 3 = true := depAt hdep 0 rfl rfl
    have hd4 : S 4 = true := depAt hdep 1 rfl rfl
    have hd14 : S 14 = true := depAt hdep 16 rfl rfl
    have hd15 : S 15 = true := depAt hdep 17 rfl rfl
    rcases hI with ⟨ν14, _⟩ | ⟨_, ν15, _⟩ | ⟨ν14, ν15, ν18, v7014, v7015, φ, ς⟩ | ⟨_, _, ν18, _⟩
    ·exact no_way hd14 ν14
    ·exact no_way hd15 ν15
    ·have hs := St.mk (Fr.cons (Fr.cons φ.fr0 (φ.at_ 3 3 14 _ rfl hd3)) (φ.at_ 4 4 15 _ rfl hd4)) ς
     have hl53 : thr.l.length ≤ 140737488355328 := (hs.sh.own 3 rfl).len
     exact sq φ (Fr.cons (Fr.cons φ.fr0 (φ.at_ 3 3 14 _ rfl hd3)) (φ.at_ 4 4 15 _ rfl hd4)) ς (r_ixN (s := thr) (q := t) sl_123 ti_147 rfl rfl rfl (fun w h => (h.own 3 rfl)) (show t < thr.l.length from (by omega))) 16 rfl rfl rfl rfl rfl rfl fun a hg => Or.inr (Or.inr (Or.inl (⟨un rfl ν14, un rfl ν15, un rfl ν18, v7014, v7015, hg, ς⟩)))
    ·exact no_way (cA hcl 18 16 rfl ν18) hSi
   ·obtain rfl : _ = o := Option.some.inj ho
    have hd16 : S 16 = true := depAt hdep 0 rfl rfl
    have hd14 : S 14 = true := depAt hdep 15 rfl rfl
    have hd15 : S 15 = true := depAt hdep 16 rfl rfl
    rcases hI with ⟨ν14, _⟩ | ⟨_, ν15, _⟩ | ⟨ν14, ν15, ν18, v7014, v7015, φ, ς⟩ | ⟨_, _, ν18, _⟩
    ·exact no_way hd14 ν14
    ·exact no_way hd15 ν15
    ·exact sq φ (Fr.cons φ.fr0 (φ.at_ 16 16 27 _ rfl hd16)) ς (r_fieldE (r := 2) fl_147_2 rfl rfl rfl) 17 rfl rfl rfl rfl rfl rfl fun a hg => Or.inr (Or.inr (Or.inl (⟨un rfl ν14, un rfl ν15, un rfl ν18, v7014, v7015, hg, ς⟩)))
    ·exact no_way (cA hcl 18 17 rfl ν18) hSi
   ·obtain rfl : _ = o := Option.some.inj ho
    have hd17 : S 17 = true := depAt hdep 0 rfl rfl
    have hd15 : S 15 = true := depAt hdep 1 rfl rfl
    have hd14 : S 14 = true := depAt hdep 17 rfl rfl
    rcases hI with ⟨ν14, _⟩ | ⟨_, ν15, _⟩ | ⟨ν14, ν15, ν18, v7014, v7015, φ, ς⟩ | ⟨_, _, ν18, _⟩
    ·exact no_way hd14 ν14
    ·exact no_way hd15 ν15
    ·have hs := St.mk (Fr.cons (Fr.cons φ.fr0 (φ.at_ 15 15 26 _ rfl hd15)) (φ.at_ 17 17 28 _ rfl hd17)) ς
     refine step_ex (x_ste (r := 3) (i := t) (j := 2) (x' := ({ nth thr.l t with wv := v7015 } : ThV)) hs ti_145 rfl rfl rfl rfl rfl (show t < thr.l.length from (by omega)) (Nat.le_of_ble_eq_true rfl) rfl (cells_oneL ((hs.sh.own 4 rfl)).one) ((hs.sh.own 4 rfl)).one (by intro q hq; rcases q with _ | _ | _ | q <;> first | rfl | omega) (fun w h => Flat.inner _ _) (fun b hb => (Flat.on _ _ hb).elim)) (wanted_none rfl _) ?_
     rintro a56 w56 h56 ⟨v0, ht56⟩
     exact Or.inr (Or.inr (Or.inr (⟨un rfl ν14, un rfl ν15, upd_self _ _, v7014, v7015, φ.noneW hcl hSi [0, 1, 2, 3, 4, 5, 6, 7, 8, 9, 10, 11, 12, 13, 14, 15, 16, 17] (by kernel_rfl) (by kernel_rfl) ht56 h56.fr.defers rfl, (h56.sh.sel (L' := [.own 210 (⟨v7014, [x]⟩ : Ls Wt), .blk b3 210 [.bool x.lock, .int .i64 x.wh, .int .i64 x.what], .blk g 125 [cv, pw, .int .i64 locks, .int .i64 regs, .int .i64 mode, thr.v, words.v, owner.v, pv, .bool fell], .own 147 (⟨thr.v, thr.l.set t ({ nth thr.l t with wv := v7015 })⟩ : Ls ThV), .own 210 (⟨v7015, wait.l ++ ([x])⟩ : Ls Wt), .own 3 words, .own 3 owner]) [0, 1, 2, 3, 4, 5, 6] (by decide) ⟨rfl, rfl, rfl, rfl, rfl, rfl, rfl, trivial⟩)⟩)))
    ·exact no_way ν18 hSi
   · simp at ho
  intro S hall a w hI
  clear h11
  rcases hI with ⟨ν14, ν15, ν18, φ, ς⟩ | ⟨ν14, ν15, ν18, v7014, φ, ς⟩ | ⟨ν14, ν15, ν18, v7014, v7015, φ, ς⟩ | ⟨ν14, ν15, ν18, v7014, v7015, φ, ς⟩
  · exact no_way (hall 14 (by decide)) ν14
  · exact no_way (hall 15 (by decide)) ν15
  · exact no_way (hall 18 (by decide)) ν18
  have h57 : St 32 K W a w _ [.own 210 (⟨v7014, [x]⟩ : Ls Wt), .blk b3 210 [.bool x.lock, .int .i64 x.wh, .int .i64 x.what], .blk g 125 [cv, pw, .int .i64 locks, .int .i64 regs, .int .i64 mode, thr.v, words.v, owner.v, pv, .bool fell], .own 147 (⟨thr.v, thr.l.set t ({ nth thr.l t with wv := v7015 })⟩ : Ls ThV), .own 210 (⟨v7015, wait.l ++ ([x])⟩ : Ls Wt), .own 3 words, .own 3 owner] := ⟨φ.fr0, ς⟩
  clear hall φ ς ν14 ν15 ν18
  try simp only [Exit.then, Exit.inBlock, if_true]
  refine x_end0 (fn := Try.f130) rfl h57 <| ⟨rfl, ⟨v7015, wait.l ++ ([x])⟩, words, owner, ?_⟩
  first | (rw [if_pos (by omega)]; exact ⟨⟨rfl, rfl, rfl⟩, (h57.sh.sel (L' := [.blk g 125 [cv, pw, .int .i64 locks, .int .i64 regs, .int .i64 mode, thr.v, words.v, owner.v, pv, .bool fell], .own 147 (⟨thr.v, thr.l.set t ({ nth thr.l t with wv := v7015 })⟩ : Ls ThV), .own 210 (⟨v7015, wait.l ++ ([x])⟩ : Ls Wt), .own 3 words, .own 3 owner]) [2, 3, 4, 5, 6] (by decide) ⟨rfl, rfl, rfl, rfl, rfl, trivial⟩)⟩) | (rw [if_neg (by omega)]; refine ⟨⟨rfl, rfl, rfl⟩, ?_⟩; rw [set_same (by omega) hwv]; exact (h57.sh.sel (L' := [.blk g 125 [cv, pw, .int .i64 locks, .int .i64 regs, .int .i64 mode, thr.v, words.v, owner.v, pv, .bool fell], .own 147 (⟨thr.v, thr.l.set t ({ nth thr.l t with wv := v7015 })⟩ : Ls ThV), .own 210 (⟨v7015, wait.l ++ ([x])⟩ : Ls Wt), .own 3 words, .own 3 owner]) [2, 3, 4, 5, 6] (by decide) ⟨rfl, rfl, rfl, rfl, rfl, trivial⟩))
 have hp10 : ¬ (0 < mode) := of_decide_eq_false hb10
 refine wp_region_lit <| wms 1 h9 rfl fun a58 h58 => wv h58 (r_ldbw (i := 0) (vs := [.bool x.lock, .int .i64 x.wh, .int .i64 x.what]) ti_210 rfl rfl rfl rfl rfl) rfl rfl fun a59 h59 => ?_; clear h9 h58
 have h60 := h59.sel (L' := [.blk g 125 [cv, pw, .int .i64 locks, .int .i64 regs, .int .i64 mode, thr.v, words.v, owner.v, pv, .bool fell], .own 3 words, .own 3 owner, .blk b3 210 [.bool x.lock, .int .i64 x.wh, .int .i64 x.what], .own 147 thr, .own 210 wait]) [1, 4, 5, 0, 2, 3] (by decide) ⟨rfl, rfl, rfl, rfl, rfl, rfl, trivial⟩
 have hp61 := h60.sh.passL (Lp := [.blk g 125 [cv, pw, .int .i64 locks, .int .i64 regs, .int .i64 mode, thr.v, words.v, owner.v, pv, .bool fell], .own 3 words, .own 3 owner])
 refine wl_ex (x_call h60 bd_127 rfl rfl rfl rfl rfl (done_c _ _ x words owner _ _ _ _ _ _ _ _ _ hp61 hx)) (wanted_none rfl _) ?_
 rintro a62 w62 ⟨_, ⟨rfl, hs62⟩, hf62⟩
 have h62 : St 32 K W a62 w62 _ [.blk g 125 [cv, pw, .int .i64 locks, .int .i64 regs, .int .i64 mode, thr.v, words.v, owner.v, pv, .bool fell], .own 3 (⟨words.v, if x.lock = true then words.l else words.l.set x.wh.toNat x.what⟩ : Ls Int), .own 3 (⟨owner.v, if x.lock = true then owner.l.set x.wh.toNat (-1) else owner.l⟩ : Ls Int), .blk b3 210 [.bool x.lock, .int .i64 x.wh, .int .i64 x.what], .own 147 thr, .own 210 wait] := ⟨hf62, h60.sh.backL (Lp := [.blk g 125 [cv, pw, .int .i64 locks, .int .i64 regs, .int .i64 mode, thr.v, words.v, owner.v, pv, .bool fell], .own 3 words, .own 3 owner]) hs62 (by intro A hA b hb; simp only [List.mem_cons, List.not_mem_nil, or_false] at hA; rcases hA with rfl | rfl | rfl <;> first | exact (hb : False).elim | exact Flat.noRd hb | exact .inl ⟨_, List.mem_cons_self .., .inr hb⟩ | exact .inl ⟨_, by simp, .inr hb⟩)⟩
 clear hf62 hs62
 clear h60
 refine wpList_nil ?_
 try simp only [Exit.then, Exit.inBlock, if_true]
 refine x_end0 (fn := Try.f130) rfl h62 <| ⟨rfl, wait, ⟨words.v, if x.lock = true then words.l else words.l.set x.wh.toNat x.what⟩, ⟨owner.v, if x.lock = true then owner.l.set x.wh.toNat (-1) else owner.l⟩, ?_⟩
 first | (rw [if_pos (by omega)]; exact ⟨⟨rfl, rfl, rfl⟩, (h62.sh.sel (L' := [.blk g 125 [cv, pw, .int .i64 locks, .int .i64 regs, .int .i64 mode, thr.v, words.v, owner.v, pv, .bool fell], .own 147 thr, .own 210 wait, .own 3 (⟨words.v, if x.lock = true then words.l else words.l.set x.wh.toNat x.what⟩ : Ls Int), .own 3 (⟨owner.v, if x.lock = true then owner.l.set x.wh.toNat (-1) else owner.l⟩ : Ls Int)]) [0, 4, 5, 1, 2] (by decide) ⟨rfl, rfl, rfl, rfl, rfl, trivial⟩)⟩) | (rw [if_neg (by omega)]; refine ⟨⟨rfl, rfl, rfl⟩, ?_⟩; rw [set_same (by omega) hwv]; exact (h62.sh.sel (L' := [.blk g 125 [cv, pw, .int .i64 locks, .int .i64 regs, .int .i64 mode, thr.v, words.v, owner.v, pv, .bool fell], .own 147 thr, .own 210 wait, .own 3 (⟨words.v, if x.lock = true then words.l else words.l.set x.wh.toNat x.what⟩ : Ls Int), .own 3 (⟨owner.v, if x.lock = true then owner.l.set x.wh.toNat (-1) else owner.l⟩ : Ls Int)]) [0, 4, 5, 1, 2] (by decide) ⟨rfl, rfl, rfl, rfl, rfl, trivial⟩))

end Go.Proofs.Ytfpaahkleienoaa
