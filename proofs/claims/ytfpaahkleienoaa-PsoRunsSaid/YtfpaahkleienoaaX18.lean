/-
  Contracts of functions of this program and of the references, each walked once.
-/
import Derived.Test.YtfpaahkleienoaaX17
namespace Go.Proofs.Ytfpaahkleienoaa
open Go.RowKit
set_option linter.unusedSimpArgs false
set_option linter.unusedVariables false


/-- An order's numbers are what they may be: of R registers, W words, L locks. -/
structure InsR (R W L : Nat) (i : Ins) : Prop where
  o1 : i.op = 1 → 0 ≤ i.a ∧ i.a < R
  o2 : i.op = 2 → (0 ≤ i.a ∧ i.a < R) ∧ 0 ≤ i.b ∧ i.b < R
  o3 : i.op = 3 ∨ i.op = 4 ∨ i.op = 5 ∨ i.op = 6 ∨ i.op = 7 → (0 ≤ i.a ∧ i.a < R) ∧ (0 ≤ i.b ∧ i.b < R) ∧ 0 ≤ i.c ∧ i.c < R
  o8 : i.op = 8 → (0 ≤ i.a ∧ i.a < R) ∧ 0 ≤ i.b ∧ i.b < W
  o9 : i.op = 9 → (0 ≤ i.a ∧ i.a < W) ∧ 0 ≤ i.b ∧ i.b < R
  o10 : i.op = 10 ∨ i.op = 11 → (0 ≤ i.a ∧ i.a < R) ∧ 0 ≤ i.b ∧ i.b < R
  o13 : i.op = 13 → (0 ≤ i.a ∧ i.a < W) ∧ (0 ≤ i.b ∧ i.b < R) ∧ 0 ≤ i.c ∧ i.c < R
  o15 : i.op = 15 ∨ i.op = 16 → 0 ≤ i.a ∧ i.a < R
  o17 : i.op = 17 ∨ i.op = 18 → 0 ≤ i.a ∧ i.a < L
theorem thset_pc {l tl : List ThV} {n : Nat} {p q : Int} {r v : Value} (h : n < l.length) (e : tl = l.set n ⟨p, r, v⟩) : tl.set n { nth tl n with pc := q } = l.set n ⟨q, r, v⟩ := by
  subst e
  rw [nth_set, if_pos ⟨rfl, h⟩, List.set_set]
theorem thset_wv {l tl : List ThV} {n : Nat} {p : Int} {r v v' : Value} (h : n < l.length) (e : tl = l.set n ⟨p, r, v⟩) : tl.set n { nth tl n with wv := v' } = l.set n ⟨p, r, v'⟩ := by
  subst e
  rw [nth_set, if_pos ⟨rfl, h⟩, List.set_set]
theorem thset_0 {l : List ThV} {n : Nat} {q : Int} {r v : Value} (hr : (nth l n).rv = r) (hv : (nth l n).wv = v) : l.set n { nth l n with pc := q } = l.set n ⟨q, r, v⟩ := by
  subst hr; subst hv; rfl
theorem thset_w0 {l : List ThV} {n : Nat} {r v : Value} (hr : (nth l n).rv = r) : l.set n { nth l n with wv := v } = l.set n ⟨(nth l n).pc, r, v⟩ := by
  subst hr; rfl
/-- What a move leaves of the resources of one thread. -/
def DoPost (K : Nat → Prop) (W : World) (ST TH WT INT : Nat) (g n k : Nat) (mode : Int) (c : List Ins) (thr : Ls ThV) (hd : List Value) (x : TS) (code : Ls (Ls Ins)) (w' : World) : Prop :=
  ∃ (regs' : Ls Int) (wait' : Ls Wt) (words' owner' prints' : Ls Int) (pc' : Int) (fell' : Bool), (⟨pc', regs'.l, wait'.l, words'.l, owner'.l, prints'.l, fell'⟩ : TS) = doT mode n c k x ∧
    Sh K W w' [.blk g ST (hd ++ [thr.v, words'.v, owner'.v, prints'.v, .bool fell']), .own TH (⟨thr.v, thr.l.set n ⟨pc', regs'.v, wait'.v⟩⟩ : Ls ThV), .own INT regs', .own WT wait', .own INT words', .own INT owner', .own INT prints', .at_ code]
section
variable {m : Int} {n : Nat} {i : Ins} {x : TS}
theorem execT_1 (h : i.op = 1) : execT m n i x = x.put i.a i.b := by simp [execT, h]
theorem execT_2 (h : i.op = 2) : execT m n i x = x.put i.a (x.reg i.b) := by simp [execT, h]
theorem execT_3 (h : i.op = 3) : execT m n i x = x.put i.a (wrap64 (x.reg i.b + x.reg i.c)) := by simp [execT, h]
theorem execT_4 (h : i.op = 4) : execT m n i x = x.put i.a (wrap64 (x.reg i.b - x.reg i.c)) := by simp [execT, h]
theorem execT_5 (h : i.op = 5) : execT m n i x = x.put i.a (wrap64 (x.reg i.b * x.reg i.c)) := by simp [execT, h]
theorem execT_6 (h : i.op = 6) : execT m n i x = x.put i.a (bit (decide (x.reg i.b < x.reg i.c))) := by simp [execT, h]
theorem execT_7 (h : i.op = 7) : execT m n i x = x.put i.a (bit (decide (x.reg i.b = x.reg i.c))) := by simp [execT, h]
theorem execT_8 (h : i.op = 8) : execT m n i x = x.put i.a (x.finds i.b) := by simp [execT, h]
theorem execT_9 (h : i.op = 9) : execT m n i x = x.store m ⟨false, i.a, x.reg i.b⟩ := by simp [execT, h]
theorem execT_10t (h : i.op = 10) (h1 : 0 ≤ x.reg i.b ∧ x.reg i.b < (x.words.length : Int)) : execT m n i x = x.put i.a (x.finds (x.reg i.b)) := by simp [execT, h, TS.isWord, h1]
theorem execT_10f (h : i.op = 10) (h1 : ¬ (0 ≤ x.reg i.b ∧ x.reg i.b < (x.words.length : Int))) : execT m n i x = { x with fell := true } := by
  have e : x.isWord (x.reg i.b) = false := decide_eq_false h1
  simp [execT, h, e]
theorem execT_11t (h : i.op = 11) (h1 : 0 ≤ x.reg i.a ∧ x.reg i.a < (x.words.length : Int)) : execT m n i x = x.store m ⟨false, x.reg i.a, x.reg i.b⟩ := by simp [execT, h, TS.isWord, h1]
theorem execT_11f (h : i.op = 11) (h1 : ¬ (0 ≤ x.reg i.a ∧ x.reg i.a < (x.words.length : Int))) : execT m n i x = { x with fell := true } := by
  have e : x.isWord (x.reg i.a) = false := decide_eq_false h1
  simp [execT, h, e]
theorem execT_13t (h : i.op = 13) (h1 : nth x.words i.a.toNat = x.reg i.b) : execT m n i x = { x with words := x.words.set i.a.toNat (x.reg i.c), regs := x.regs.set i.b.toNat 1 } := by simp [execT, h, h1]
theorem execT_13f (h : i.op = 13) (h1 : ¬ nth x.words i.a.toNat = x.reg i.b) : execT m n i x = x.put i.b 0 := by simp [execT, h, h1]
theorem execT_14 (h : i.op = 14) : execT m n i x = { x with pc := i.a } := by simp [execT, h]
theorem execT_15t (h : i.op = 15) (h1 : x.reg i.a = 0) : execT m n i x = { x with pc := i.b } := by simp [execT, h, h1]
theorem execT_15f (h : i.op = 15) (h1 : ¬ x.reg i.a = 0) : execT m n i x = x := by simp [execT, h, h1]
theorem execT_16 (h : i.op = 16) : execT m n i x = { x with prints := x.prints ++ [(n : Int), x.reg i.a] } := by simp [execT, h]
theorem execT_17 (h : i.op = 17) : execT m n i x = { x with owner := x.owner.set i.a.toNat n } := by simp [execT, h]
theorem execT_18a (h : i.op = 18) (h1 : nth x.owner i.a.toNat ≠ n) : execT m n i x = { x with fell := true } := by simp [execT, h, h1]
theorem execT_18b (h : i.op = 18) (h1 : ¬ nth x.owner i.a.toNat ≠ n) (j : Nat) (hj : j < x.wait.length) (hl : (nth x.wait j).lock = true) (hw : (nth x.wait j).wh = i.a) : execT m n i x = { x with fell := true } := by
  have e : x.holds i.a = true := List.any_eq_true.2 ⟨_, nth_mem _ _ hj, by simp [hl, hw]⟩
  simp [execT, h, e]
theorem execT_18c (h : i.op = 18) (h1 : ¬ nth x.owner i.a.toNat ≠ n) (hall : ∀ q, q < x.wait.length → ¬ ((nth x.wait q).lock = true ∧ (nth x.wait q).wh = i.a)) : execT m n i x = x.store m ⟨true, i.a, 0⟩ := by
  have e : x.holds i.a = false := by
    unfold TS.holds
    rw [List.any_eq_false]
    intro y hy
    obtain ⟨k, hk, rfl⟩ := List.mem_iff_getElem.1 hy
    have := hall k hk
    rw [show nth x.wait k = x.wait[k] from nth_lt _ _ hk] at this
    simpa using this
  have h1' : nth x.owner i.a.toNat = n := Decidable.not_not.1 h1
  simp [execT, h, h1', e]
theorem execT_no (h : ¬ i.op = 1 ∧ ¬ i.op = 2 ∧ ¬ i.op = 3 ∧ ¬ i.op = 4 ∧ ¬ i.op = 5 ∧ ¬ i.op = 6 ∧ ¬ i.op = 7 ∧ ¬ i.op = 8 ∧ ¬ i.op = 9 ∧ ¬ i.op = 10 ∧ ¬ i.op = 11 ∧ ¬ i.op = 13 ∧ ¬ i.op = 14 ∧ ¬ i.op = 15 ∧ ¬ i.op = 16 ∧ ¬ i.op = 17 ∧ ¬ i.op = 18) : execT m n i x = x := by
  obtain ⟨h1, h2, h3, h4, h5, h6, h7, h8, h9, h10, h11, h13, h14, h15, h16, h17, h18⟩ := h
  simp [execT, h1, h2, h3, h4, h5, h6, h7, h8, h9, h10, h11, h13, h14, h15, h16, h17, h18]
theorem store_eq {pc : Int} {regs prints : List Int} {fell : Bool} {wait wait' : Ls Wt} {words words' owner owner' : Ls Int} {y : Wt} (hst : if 0 < m then wait'.l = wait.l ++ [y] ∧ words' = words ∧ owner' = owner else wait' = wait ∧ words' = (⟨words.v, if y.lock = true then words.l else words.l.set y.wh.toNat y.what⟩ : Ls Int) ∧ owner' = (⟨owner.v, if y.lock = true then owner.l.set y.wh.toNat (-1) else owner.l⟩ : Ls Int)) :
    (⟨pc, regs, wait'.l, words'.l, owner'.l, prints, fell⟩ : TS) = TS.store m ⟨pc, regs, wait.l, words.l, owner.l, prints, fell⟩ y := by
  unfold TS.store TS.done
  split at hst
  · rename_i h
    obtain ⟨h1, rfl, rfl⟩ := hst
    rw [if_pos h, h1]
  · rename_i h
    obtain ⟨rfl, rfl, rfl⟩ := hst
    rw [if_neg h]
theorem doT_k {c : List Ins} {k : Nat} (hk : 0 < k) : doT m n c k x = { x.done (nth x.wait (k - 1)) with wait := x.wait.take (k - 1) ++ x.wait.drop k } := by
  unfold doT
  rw [if_pos hk, List.eraseIdx_eq_take_drop_succ, show k - 1 + 1 = k by omega]
theorem or_f {b : Bool} {p : Prop} [Decidable p] (h : decide p = true) : (b || !decide p) = b := by rw [h]; simp
theorem or_t {b : Bool} {p : Prop} [Decidable p] (h : decide p = false) : (b || !decide p) = true := by rw [h]; simp
end
theorem doT_0 {m : Int} {n : Nat} {c : List Ins} {k : Nat} {x : TS} (hk : k = 0) : doT m n c k x = execT m n (nextIns c x.pc) { x with pc := x.pc + 1 } := by subst hk; rfl

set_option maxRecDepth 100000 in
set_option maxHeartbeats 20000000 in
theorem do_c (K : Nat → Prop) (g mv : Nat) (code : Ls (Ls Ins)) (thr : Ls ThV) (regs : Ls Int) (wait : Ls Wt) (words owner prints : Ls Int) (pw : Value) (locks nregs mode : Int) (fell : Bool) (W : World) (hS : Sh K W W [.blk g 125 [code.v, pw, .int .i64 locks, .int .i64 nregs, .int .i64 mode, thr.v, words.v, owner.v, prints.v, .bool fell], .own 147 thr, .own 3 regs, .own 210 wait, .own 3 words, .own 3 owner, .own 3 prints, .at_ code]) (ht : mv / 8 < thr.l.length) (htc : mv / 8 < code.l.length) (hmv : mv < 1000000) (hrv : (nth thr.l (mv / 8)).rv = regs.v) (hwv : (nth thr.l (mv / 8)).wv = wait.v) (hpc : 0 ≤ (nth thr.l (mv / 8)).pc ∧ (nth thr.l (mv / 8)).pc < 1000000) (hwl : wait.l.length ≤ 3) (hkw : mv % 8 ≤ wait.l.length) (hpl : prints.l.length ≤ 100000000) (hol : owner.l.length ≤ 100) (hwt : ∀ j, j < wait.l.length → if (nth wait.l j).lock = true then 0 ≤ (nth wait.l j).wh ∧ (nth wait.l j).wh < owner.l.length else 0 ≤ (nth wait.l j).wh ∧ (nth wait.l j).wh < words.l.length) (hio : mv % 8 = 0 → InsR regs.l.length words.l.length owner.l.length (nextIns (nth code.l (mv / 8)).l (nth thr.l (mv / 8)).pc)) :
    Rets Try.prog 80 [.pointer (some ⟨g, 0, none⟩), .int .i64 ((mv : Nat) : Int)] W (fun v w' => v = .tuple #[] ∧ DoPost K W 125 147 210 3 g (mv / 8) (mv % 8) mode (nth code.l (mv / 8)).l thr [code.v, pw, .int .i64 locks, .int .i64 nregs, .int .i64 mode] (⟨(nth thr.l (mv / 8)).pc, regs.l, wait.l, words.l, owner.l, prints.l, fell⟩ : TS) code w') := by
 refine x_enter (N := 384) Try.func80 rfl Try.ntmps80 (Nat.le_of_ble_eq_true rfl) fun a1 hf1 => ?_
 have h1 : St 384 K W a1 W [(0, .pointer (some ⟨g, 0, none⟩)), (1, .int .i64 ((mv : Nat) : Int))] [.blk g 125 [code.v, pw, .int .i64 locks, .int .i64 nregs, .int .i64 mode, thr.v, words.v, owner.v, prints.v, .bool fell], .own 147 thr, .own 3 regs, .own 210 wait, .own 3 words, .own 3 owner, .own 3 prints, .at_ code] := ⟨hf1.sub ⟨rfl, rfl, trivial⟩, hS⟩
 clear hf1
 refine wp_seq_k fun K2 hK2 => wp_region_lit <| wms 1 h1 rfl fun a3 h3 => wv h3 (r_quoN (p := mv) (q := 8) rfl rfl rfl (show 0 < 8 ∧ mv < 9223372036854775808 from (by omega))) rfl rfl fun a4 h4 => wms 1 h4 rfl fun a5 h5 => wpList_nil <| hK2 _ _ <| wp_seq_k fun K6 hK6 => wp_region_lit <| wms 1 h5 rfl fun a7 h7 => wv h7 (r_nil rfl rfl) rfl rfl fun a8 h8 => wv h8 (r_fieldB (r := 5) fl_125_2 rfl rfl rfl) rfl rfl fun a9 h9 => wv h9 (r_ldb (i := 0) ti_123 rfl rfl rfl rfl) rfl rfl fun a10 h10 => wms 1 h10 rfl fun a11 h11 => ?_; clear h1 h3 h4 h5 h7 h8 h9 h10
 have hl12 : thr.l.length ≤ 140737488355328 := (h11.sh.own 1 rfl).len
 refine wv h11 (r_ixN (s := thr) (q := mv / 8) sl_123 ti_147 rfl rfl rfl (fun w h => (h.own 1 rfl)) (show mv / 8 < thr.l.length from (by omega))) rfl rfl fun a13 h13 => wms 1 h13 rfl fun a14 h14 => wpList_nil <| hK6 _ _ <| wp_seq_k fun K15 hK15 => wp_region_lit <| wms 1 h14 rfl fun a16 h16 => wv h16 (r_remN (p := mv) (q := 8) rfl rfl rfl (show 0 < 8 ∧ mv < 9223372036854775808 from (by omega))) rfl rfl fun a17 h17 => wms 1 h17 rfl fun a18 h18 => wpList_nil <| hK15 _ _ <| wp_seq_k fun K19 hK19 => wp_seq_k fun K20 hK20 => wp_region_lit ?_; clear h11 h13 h14 h16 h17
 refine wms 1 h18 rfl fun a21 h21 => wv h21 (r_gtrN (p := mv % 8) (q := 0) rfl rfl rfl) rfl rfl fun a22 h22 => wpList_nil <| hK20 _ _ <| x_cond h22 rfl (fun hb23 => ?_) (fun hb23 => ?_); clear h18 h21
 ·have hp23 : 0 < mv % 8 := of_decide_eq_true hb23
  have hwk := hwt (mv % 8 - 1) (by omega)
  refine wp_seq_k fun K24 hK24 => wp_region_lit <| wms 2 h22 rfl fun a25 h25 => wv h25 (r_nil rfl rfl) rfl rfl fun a26 h26 => wv h26 (r_fieldE (r := 2) fl_147_2 rfl rfl rfl) rfl rfl fun a27 h27 => wv h27 (Rn.same (r_lde (s := thr) (i := mv / 8) (v := ((nth thr.l (mv / 8)).wv)) ti_145 rfl rfl rfl (fun w h => (h.own 1 rfl)) (show mv / 8 < thr.l.length from (by omega)) (Nat.le_of_ble_eq_true rfl) rfl) hwv) rfl rfl fun a28 h28 => wms 1 h28 rfl fun a29 h29 => wv h29 (r_subN (p := mv % 8) (q := 1) rfl rfl rfl (show 1 ≤ mv % 8 ∧ mv % 8 < 9223372036854775808 from (by omega))) rfl rfl fun a30 h30 => ?_; clear h22 h25 h26 h27 h28 h29
  have hl31 : wait.l.length ≤ 140737488355328 := (h30.sh.own 3 rfl).len
  refine wv h30 (r_ixN (s := wait) (q := (mv % 8) - 1) sl_145 ti_210 rfl rfl rfl (fun w h => (h.own 3 rfl)) (show (mv % 8) - 1 < wait.l.length from (by omega))) rfl rfl fun a32 h32 => wv h32 (r_ldew (s := wait) (i := (mv % 8) - 1) (vs := [.bool ((nth wait.l ((mv % 8) - 1)).lock), .int .i64 ((nth wait.l ((mv % 8) - 1)).wh), .int .i64 ((nth wait.l ((mv % 8) - 1)).what)]) ti_210 rfl rfl rfl (fun w h => (h.own 3 rfl)) (show (mv % 8) - 1 < wait.l.length from (by omega)) (Nat.le_of_ble_eq_true rfl) rfl) rfl rfl fun a33 h33 => ?_; clear h30 h32
  have h34 := h33.sel (L' := [.blk g 125 [code.v, pw, .int .i64 locks, .int .i64 nregs, .int .i64 mode, thr.v, words.v, owner.v, prints.v, .bool fell], .own 3 words, .own 3 owner, .own 147 thr, .own 3 regs, .own 210 wait, .own 3 prints, .at_ code]) [0, 4, 5, 1, 2, 3, 6, 7] (by decide) ⟨rfl, rfl, rfl, rfl, rfl, rfl, rfl, rfl, trivial⟩
  have hp35 := h34.sh.passL (Lp := [.blk g 125 [code.v, pw, .int .i64 locks, .int .i64 nregs, .int .i64 mode, thr.v, words.v, owner.v, prints.v, .bool fell], .own 3 words, .own 3 owner])
  refine wl_ex (x_call h34 bd_127 rfl rfl rfl rfl rfl (done_c _ _ (nth wait.l ((mv % 8) - 1)) words owner _ _ _ _ _ _ _ _ _ hp35 hwk)) (wanted_none rfl _) ?_
  rintro a36 w36 ⟨_, ⟨rfl, hs36⟩, hf36⟩
  have h36 : St 384 K W a36 w36 _ [.blk g 125 [code.v, pw, .int .i64 locks, .int .i64 nregs, .int .i64 mode, thr.v, words.v, owner.v, prints.v, .bool fell], .own 3 (⟨words.v, if (nth wait.l ((mv % 8) - 1)).lock = true then words.l else words.l.set (nth wait.l ((mv % 8) - 1)).wh.toNat (nth wait.l ((mv % 8) - 1)).what⟩ : Ls Int), .own 3 (⟨owner.v, if (nth wait.l ((mv % 8) - 1)).lock = true then owner.l.set (nth wait.l ((mv % 8) - 1)).wh.toNat (-1) else owner.l⟩ : Ls Int), .own 147 thr, .own 3 regs, .own 210 wait, .own 3 prints, .at_ code] := ⟨hf36, h34.sh.backL (Lp := [.blk g 125 [code.v, pw, .int .i64 locks, .int .i64 nregs, .int .i64 mode, thr.v, words.v, owner.v, prints.v, .bool fell], .own 3 words, .own 3 owner]) hs36 (by intro A hA b hb; simp only [List.mem_cons, List.not_mem_nil, or_false] at hA; rcases hA with rfl | rfl | rfl <;> first | exact (hb : False).elim | exact Flat.noRd hb | exact .inl ⟨_, List.mem_cons_self .., .inr hb⟩ | exact .inl ⟨_, by simp, .inr hb⟩)⟩
  clear hf36 hs36
  clear h34
  refine wpList_nil <| hK24 _ _ ?_
  have h37 : St 384 K W a36 w36 [(5, .pointer (some (padr thr.v 3 (mv / 8) 0))), (6, .int .i64 ((mv % 8 : Nat) : Int))] [.blk g 125 [code.v, pw, .int .i64 locks, .int .i64 nregs, .int .i64 mode, thr.v, words.v, owner.v, prints.v, .bool fell], .own 3 (⟨words.v, if (nth wait.l ((mv % 8) - 1)).lock = true then words.l else words.l.set (nth wait.l ((mv % 8) - 1)).wh.toNat (nth wait.l ((mv % 8) - 1)).what⟩ : Ls Int), .own 3 (⟨owner.v, if (nth wait.l ((mv % 8) - 1)).lock = true then owner.l.set (nth wait.l ((mv % 8) - 1)).wh.toNat (-1) else owner.l⟩ : Ls Int), .own 147 thr, .own 3 regs, .own 210 wait, .own 3 prints, .at_ code] := h36.nrm ⟨rfl, rfl, trivial⟩ [0, 1, 2, 3, 4, 5, 6, 7] (by decide) ⟨rfl, rfl, rfl, rfl, rfl, rfl, rfl, rfl, trivial⟩
  clear h36
  refine wp_seq_k fun K38 hK38 => x_tail 14 [0] (by kernel_rfl) (by kernel_rfl) h37 fun Z39 hZ39 => ?_
  have hq39 := h37.fr
  refine wq_val hq39 (r_move rfl rfl) (wanted_none rfl _) rfl rfl fun a40 hq40 => wq_val hq40 (r_move rfl rfl) (wanted_none rfl _) rfl rfl fun a41 hq41 => wq_val hq41 (r_nil rfl rfl) (wanted_none rfl _) rfl rfl fun a42 hq42 => wq_val hq42 (r_fieldE (r := 2) fl_147_2 rfl rfl rfl) (wanted_none rfl _) rfl rfl fun a43 hq43 => wq_val hq43 (Rn.same (r_lde (s := thr) (i := mv / 8) (v := ((nth thr.l (mv / 8)).wv)) ti_145 rfl rfl rfl (fun w h => (h.own 3 rfl)) (show mv / 8 < thr.l.length from (by omega)) (Nat.le_of_ble_eq_true rfl) rfl) hwv) (wanted_none rfl _) rfl rfl fun a44 hq44 => wq_val hq44 (r_move rfl rfl) (wanted_none rfl _) rfl rfl fun a45 hq45 => wq_val hq45 (r_subN (p := mv % 8) (q := 1) rfl rfl rfl (show 1 ≤ mv % 8 ∧ mv % 8 < 9223372036854775808 from (by omega))) (wanted_none rfl _) rfl rfl fun a46 hq46 => wq_val hq46 (r_slH (s := wait) (j := (mv % 8) - 1) sl_145 ti_210 rfl rfl rfl (fun w h => (h.own 5 rfl)) (show (mv % 8) - 1 ≤ wait.l.length from (by omega)) (show 0 < wait.l.length from (by omega))) (wanted_none rfl _) rfl rfl fun a47 hq47 => wq_val hq47 (r_move rfl rfl) (wanted_none rfl _) rfl rfl fun a48 hq48 => wq_val hq48 (r_nil rfl rfl) (wanted_none rfl _) rfl rfl fun a49 hq49 => wq_val hq49 (r_fieldE (r := 2) fl_147_2 rfl rfl rfl) (wanted_none rfl _) rfl rfl fun a50 hq50 => wq_val hq50 (Rn.same (r_lde (s := thr) (i := mv / 8) (v := ((nth thr.l (mv / 8)).wv)) ti_145 rfl rfl rfl (fun w h => (h.own 3 rfl)) (show mv / 8 < thr.l.length from (by omega)) (Nat.le_of_ble_eq_true rfl) rfl) hwv) (wanted_none rfl _) rfl rfl fun a51 hq51 => wq_val hq51 (r_move rfl rfl) (wanted_none rfl _) rfl rfl fun a52 hq52 => wq_val hq52 (r_slL (s := wait) (k := mv % 8) sl_145 ti_210 rfl rfl rfl (fun w h => (h.own 5 rfl)) (show mv % 8 ≤ wait.l.length from (by omega))) (wanted_none rfl _) rfl rfl fun a53 hq53 => ?_; clear hq39 hq40 hq41 hq42 hq43 hq44 hq45 hq46 hq47 hq48 hq49 hq50 hq51 hq52
  refine wpQuiet_nil (hZ39 _ fun w54 hw54 => ?_)
  have h54 : St 384 K W a53 w54 _ _ := ⟨hq53, hw54⟩
  clear hq53 hw54 h37
  refine wl_ex (x_del (r := 5) (j := (mv % 8) - 1) (k := mv % 8) (s := wait) h54 sl_145 ti_210 rfl rfl rfl rfl rfl rfl inferInstance (show (mv % 8) - 1 ≤ mv % 8 ∧ mv % 8 ≤ wait.l.length ∧ 0 < wait.l.length from (by omega)) rfl rfl) (wanted_none rfl _) ?_
  rintro a55 w55 ⟨v55, h55⟩; clear h54
  refine wv h55 (r_nil rfl rfl) rfl rfl fun a56 h56 => wv h56 (r_fieldE (r := 2) fl_147_2 rfl rfl rfl) rfl rfl fun a57 h57 => wl_ex (x_ste (r := 3) (i := mv / 8) (j := 2) (x' := ({ nth thr.l (mv / 8) with wv := v55 } : ThV)) h57 ti_145 rfl rfl rfl rfl rfl (show mv / 8 < thr.l.length from (by omega)) (Nat.le_of_ble_eq_true rfl) rfl (cells_oneL ((h57.sh.own 5 rfl)).one) ((h57.sh.own 5 rfl)).one (by intro q hq; rcases q with _ | _ | _ | q <;> first | rfl | omega) (fun w h => Flat.inner _ _) (fun b hb => (Flat.on _ _ hb).elim)) (wanted_none rfl _) ?_; clear h55 h56
  rintro a58 w58 h58
  clear h57
  refine wpList_nil <| hK38 _ _ <| wp_ret ?_
  try simp only [Exit.then, Exit.inBlock]
  refine x_ret0 (fn := Try.f80) rfl h58 <| ⟨rfl, ⟨regs.v, regs.l⟩, ⟨v55, wait.l.take ((mv % 8) - 1) ++ wait.l.drop (mv % 8)⟩, ⟨words.v, if (nth wait.l ((mv % 8) - 1)).lock = true then words.l else words.l.set (nth wait.l ((mv % 8) - 1)).wh.toNat (nth wait.l ((mv % 8) - 1)).what⟩, ⟨owner.v, if (nth wait.l ((mv % 8) - 1)).lock = true then owner.l.set (nth wait.l ((mv % 8) - 1)).wh.toNat (-1) else owner.l⟩, ⟨prints.v, prints.l⟩, (nth thr.l (mv / 8)).pc, fell, ?_, ?_⟩
  · rw [doT_k (by omega)]; rfl
  ·have hz := (h58.sh.sel (L' := [.blk g 125 [code.v, pw, .int .i64 locks, .int .i64 nregs, .int .i64 mode, thr.v, words.v, owner.v, prints.v, .bool fell], .own 147 (⟨thr.v, thr.l.set (mv / 8) ({ nth thr.l (mv / 8) with wv := v55 })⟩ : Ls ThV), .own 3 regs, .own 210 (⟨v55, wait.l.take ((mv % 8) - 1) ++ wait.l.drop (mv % 8)⟩ : Ls Wt), .own 3 (⟨words.v, if (nth wait.l ((mv % 8) - 1)).lock = true then words.l else words.l.set (nth wait.l ((mv % 8) - 1)).wh.toNat (nth wait.l ((mv % 8) - 1)).what⟩ : Ls Int), .own 3 (⟨owner.v, if (nth wait.l ((mv % 8) - 1)).lock = true then owner.l.set (nth wait.l ((mv % 8) - 1)).wh.toNat (-1) else owner.l⟩ : Ls Int), .own 3 prints, .at_ code]) [0, 3, 4, 5, 1, 2, 6, 7] (by decide) ⟨rfl, rfl, rfl, rfl, rfl, rfl, rfl, rfl, trivial⟩)
   rw [thset_w0 hrv] at hz; exact hz
 have hp23 : ¬ (0 < mv % 8) := of_decide_eq_false hb23
 refine wp_skip <| hK19 _ _ <| wp_seq_k fun K59 hK59 => wp_region_lit <| wms 2 h22 rfl fun a60 h60 => wl_ex (x_call h60 bd_89 rfl rfl rfl rfl rfl (next_c g (mv / 8) code thr _ _ _ _ _ _ _ _ _ (h60.sh.blk 0 rfl) (h60.sh.at 7 rfl) (h60.sh.own 1 rfl) htc ht (by omega))) (wanted_none rfl _) ?_; clear h22
 rintro a61 w61 ⟨_, ⟨hv61, hs61⟩, hf61⟩
 obtain ⟨ins, hins⟩ : ∃ i, i = nextIns (nth code.l (mv / 8)).l (nth thr.l (mv / 8)).pc := ⟨_, rfl⟩
 rw [← hins] at hv61
 subst hv61
 have hR := hio (by omega)
 rw [← hins] at hR
 have h61 : St 384 K W a61 w61 _ _ := ⟨hf61, h60.sh.call0 hs61⟩
 clear hf61 hs61
 clear h60
 refine wms 1 h61 rfl fun a62 h62 => wv h62 (r_extract rfl rfl rfl) rfl rfl fun a63 h63 => wv h63 (r_extract rfl rfl rfl) rfl rfl fun a64 h64 => wl_ex (x_alloc h64 ti_32 rfl rfl rfl) (wanted_none rfl _) ?_; clear h61 h62 h63
 rintro a65 w65 ⟨b65, h65⟩; clear h64
 refine wl_ex (x_stb (i := 0) (vs := [.int .i64 ins.op, .int .i64 ins.a, .int .i64 ins.b, .int .i64 ins.c]) (cs' := [.int .i64 ins.op, .int .i64 ins.a, .int .i64 ins.b, .int .i64 ins.c]) h65 ti_32 rfl rfl rfl rfl rfl rfl rfl (allOne_cons rfl (allOne_cons rfl (allOne_cons rfl (allOne_cons rfl allOne_nil)))) (Nat.le_of_ble_eq_true rfl) rfl) (wanted_none rfl _) ?_
 rintro a66 w66 h66
 clear h65
 refine wms 1 h66 rfl fun a67 h67 => wpList_nil <| hK59 _ _ <| wp_seq_k fun K68 hK68 => wp_region_lit <| wms 1 h67 rfl fun a69 h69 => wv h69 (r_nil rfl rfl) rfl rfl fun a70 h70 => wv h70 (r_fieldE (r := 0) fl_147_0 rfl rfl rfl) rfl rfl fun a71 h71 => wv h71 (r_lde (s := thr) (i := mv / 8) (v := .int .i64 ((nth thr.l (mv / 8)).pc)) ti_3 rfl rfl rfl (fun w h => (h.own 2 rfl)) (show mv / 8 < thr.l.length from (by omega)) (Nat.le_of_ble_eq_true rfl) rfl) rfl rfl fun a72 h72 => wv h72 (r_addI (p := (nth thr.l (mv / 8)).pc) (q := 1) rfl rfl rfl (show -9223372036854775808 ≤ ((nth thr.l (mv / 8)).pc) + 1 ∧ ((nth thr.l (mv / 8)).pc) + 1 < 9223372036854775808 from (by omega))) rfl rfl fun a73 h73 => wv h73 (r_nil rfl rfl) rfl rfl fun a74 h74 => wv h74 (r_fieldE (r := 0) fl_147_0 rfl rfl rfl) rfl rfl fun a75 h75 => wl_ex (x_ste (r := 2) (i := mv / 8) (j := 0) (x' := ({ nth thr.l (mv / 8) with pc := ((nth thr.l (mv / 8)).pc) + 1 } : ThV)) h75 ti_3 rfl rfl rfl rfl rfl (show mv / 8 < thr.l.length from (by omega)) (Nat.le_of_ble_eq_true rfl) rfl rfl rfl (by intro q hq; rcases q with _ | _ | _ | q <;> first | rfl | omega) (fun w h => Flat.inner _ _) (fun b hb => (Flat.on _ _ hb).elim)) (wanted_none rfl _) ?_; clear h66 h67 h69 h70 h71 h72 h73 h74
 rintro a76 w76 h76
 clear h75
 refine wpList_nil <| hK68 _ _ ?_
 have h77 : St 384 K W a76 w76 [(0, .pointer (some ⟨g, 0, none⟩)), (4, .int .i64 ((mv / 8 : Nat) : Int)), (5, .pointer (some (padr thr.v 3 (mv / 8) 0))), (7, .pointer (some ⟨b65, 0, none⟩))] [.blk b65 32 [.int .i64 ins.op, .int .i64 ins.a, .int .i64 ins.b, .int .i64 ins.c], .blk g 125 [code.v, pw, .int .i64 locks, .int .i64 nregs, .int .i64 mode, thr.v, words.v, owner.v, prints.v, .bool fell], .own 147 (⟨thr.v, thr.l.set (mv / 8) ({ nth thr.l (mv / 8) with pc := ((nth thr.l (mv / 8)).pc) + 1 })⟩ : Ls ThV), .own 3 regs, .own 210 wait, .own 3 words, .own 3 owner, .own 3 prints, .at_ code] := h76.nrm ⟨rfl, rfl, rfl, rfl, trivial⟩ [0, 1, 2, 3, 4, 5, 6, 7, 8] (by decide) ⟨rfl, rfl, rfl, rfl, rfl, rfl, rfl, rfl, rfl, trivial⟩
 clear h76
 obtain ⟨tl, htl⟩ : ∃ tl, tl = thr.l.set (mv / 8) ({ nth thr.l (mv / 8) with pc := ((nth thr.l (mv / 8)).pc) + 1 }) := ⟨_, rfl⟩
 have h779 := h77.relist (i := 2) (l' := tl) rfl htl.symm
 clear h77
 rw [thset_0 hrv hwv] at htl
 have htll : tl.length = thr.l.length := by rw [htl, List.length_set]
 have hrv2 : (nth tl (mv / 8)).rv = regs.v := by rw [htl, nth_set, if_pos ⟨rfl, ht⟩]
 have hwv2 : (nth tl (mv / 8)).wv = wait.v := by rw [htl, nth_set, if_pos ⟨rfl, ht⟩]
 refine wp_seq_k fun K78 hK78 => wp_region_lit <| wms 1 h779 rfl fun a79 h79 => wv h79 (r_nil rfl rfl) rfl rfl fun a80 h80 => wv h80 (r_fieldE (r := 1) fl_147_1 rfl rfl rfl) rfl rfl fun a81 h81 => wv h81 (Rn.same (r_lde (s := (⟨thr.v, tl⟩ : Ls ThV)) (i := mv / 8) (v := ((nth tl (mv / 8)).rv)) ti_23 rfl rfl rfl (fun w h => (h.own 2 rfl)) (show mv / 8 < tl.length from (by omega)) (Nat.le_of_ble_eq_true rfl) rfl) hrv2) rfl rfl fun a82 h82 => wms 1 h82 rfl fun a83 h83 => wpList_nil <| hK78 _ _ <| wp_seq_k fun K84 hK84 => wp_region_lit <| wv h83 (r_fieldB (r := 0) fl_32_0 rfl rfl rfl) rfl rfl fun a85 h85 => wv h85 (r_ldb (i := 0) ti_3 rfl rfl rfl rfl) rfl rfl fun a86 h86 => wpList_nil ?_; clear h779 h79 h80 h81 h82 h83 h85
 refine hK84 _ _ <| wp_block <| wp_seq_k fun K87 hK87 => wp_region_lit <| wv h86 (r_eqlI (p := ins.op) (q := 1) rfl rfl rfl) rfl rfl fun a88 h88 => wms 1 h88 rfl fun a89 h89 => wpList_nil <| hK87 _ _ <| x_cond h89 rfl (fun hb90 => ?_) (fun hb90 => ?_); clear h86 h88
 ·have hp90 : ins.op = 1 := of_decide_eq_true hb90
  have q9 := hR.o1 (by omega)
  refine wp_region_lit <| wms 1 h89 rfl fun a91 h91 => wv h91 (r_fieldB (r := 1) fl_32_1 rfl rfl rfl) rfl rfl fun a92 h92 => wv h92 (r_ldb (i := 0) ti_3 rfl rfl rfl rfl) rfl rfl fun a93 h93 => wv h93 (r_fieldB (r := 2) fl_32_2 rfl rfl rfl) rfl rfl fun a94 h94 => wv h94 (r_ldb (i := 0) ti_3 rfl rfl rfl rfl) rfl rfl fun a95 h95 => ?_; clear h89 h91 h92 h93 h94
  have hl96 : regs.l.length ≤ 140737488355328 := (h95.sh.own 3 rfl).len
  refine wv h95 (r_ixI (s := regs) (q := ins.a) sl_23 ti_3 rfl rfl rfl (fun w h => (h.own 3 rfl)) (show 0 ≤ ins.a ∧ ins.a < regs.l.length from (by omega))) rfl rfl fun a97 h97 => wl_ex (x_ste (r := 3) (i := ins.a.toNat) (j := 0) (x' := (ins.b : Int)) h97 ti_3 rfl rfl rfl rfl rfl (show ins.a.toNat < regs.l.length from (by omega)) (Nat.le_of_ble_eq_true rfl) rfl rfl rfl (by intro q hq; obtain rfl : q = 0 := (by omega); rfl) (fun w h => Flat.inner _ _) (fun b hb => (Flat.on _ _ hb).elim)) (wanted_none rfl _) ?_; clear h95
  rintro a98 w98 h98
  clear h97
  refine wpList_nil ?_
  try simp only [Exit.then, Exit.inBlock, if_true]
  refine x_end0 (fn := Try.f80) rfl h98 <| ⟨rfl, ⟨regs.v, regs.l.set ins.a.toNat ins.b⟩, ⟨wait.v, wait.l⟩, ⟨words.v, words.l⟩, ⟨owner.v, owner.l⟩, ⟨prints.v, prints.l⟩, (nth thr.l (mv / 8)).pc + 1, fell, ?_, ?_⟩
  · refine Eq.trans ?_ (doT_0 (by omega)).symm; show _ = execT mode (mv / 8) (nextIns (nth code.l (mv / 8)).l (nth thr.l (mv / 8)).pc) _; rw [← hins]; (refine Eq.trans ?_ (execT_1 (by assumption)).symm; rfl)
  ·have hz := (h98.sh.sel (L' := [.blk g 125 [code.v, pw, .int .i64 locks, .int .i64 nregs, .int .i64 mode, thr.v, words.v, owner.v, prints.v, .bool fell], .own 147 (⟨thr.v, tl⟩ : Ls ThV), .own 3 (⟨regs.v, regs.l.set ins.a.toNat ins.b⟩ : Ls Int), .own 210 wait, .own 3 words, .own 3 owner, .own 3 prints, .at_ code]) [1, 2, 3, 4, 5, 6, 7, 8] (by decide) ⟨rfl, rfl, rfl, rfl, rfl, rfl, rfl, rfl, trivial⟩)
   rw [htl] at hz; exact hz
 have hp90 : ¬ (ins.op = 1) := of_decide_eq_false hb90
 refine wp_seq_k fun K99 hK99 => wp_region_lit <| wv h89 (r_eqlI (p := ins.op) (q := 2) rfl rfl rfl) rfl rfl fun a100 h100 => wms 1 h100 rfl fun a101 h101 => wpList_nil <| hK99 _ _ <| x_cond h101 rfl (fun hb102 => ?_) (fun hb102 => ?_); clear h89 h100
 ·have hp102 : ins.op = 2 := of_decide_eq_true hb102
  have q9 := hR.o2 (by omega)
  refine x_tail 9 [] (by kernel_rfl) (by kernel_rfl) h101 fun Z103 hZ103 => ?_
  have hq103 := h101.fr
  refine wq_val hq103 (r_move rfl rfl) (wanted_none rfl _) rfl rfl fun a104 hq104 => wq_val hq104 (r_fieldB (r := 1) fl_32_1 rfl rfl rfl) (wanted_none rfl _) rfl rfl fun a105 hq105 => wq_val hq105 (r_ldb (i := 0) ti_3 rfl rfl rfl rfl) (wanted_none rfl _) rfl rfl fun a106 hq106 => wq_val hq106 (r_move rfl rfl) (wanted_none rfl _) rfl rfl fun a107 hq107 => wq_val hq107 (r_fieldB (r := 2) fl_32_2 rfl rfl rfl) (wanted_none rfl _) rfl rfl fun a108 hq108 => wq_val hq108 (r_ldb (i := 0) ti_3 rfl rfl rfl rfl) (wanted_none rfl _) rfl rfl fun a109 hq109 => ?_; clear hq103 hq104 hq105 hq106 hq107 hq108
  have hl110 : regs.l.length ≤ 140737488355328 := (h101.sh.own 3 rfl).len
  refine wq_val hq109 (r_ixI (s := regs) (q := ins.b) sl_23 ti_3 rfl rfl rfl (fun w h => (h.own 3 rfl)) (show 0 ≤ ins.b ∧ ins.b < regs.l.length from (by omega))) (wanted_none rfl _) rfl rfl fun a111 hq111 => wq_val hq111 (r_lde (s := regs) (i := ins.b.toNat) (v := .int .i64 (nth regs.l ins.b.toNat)) ti_3 rfl rfl rfl (fun w h => (h.own 3 rfl)) (show ins.b.toNat < regs.l.length from (by omega)) (Nat.le_of_ble_eq_true rfl) rfl) (wanted_none rfl _) rfl rfl fun a112 hq112 => wq_val hq112 (r_ixI (s := regs) (q := ins.a) sl_23 ti_3 rfl rfl rfl (fun w h => (h.own 3 rfl)) (show 0 ≤ ins.a ∧ ins.a < regs.l.length from (by omega))) (wanted_none rfl _) rfl rfl fun a113 hq113 => wpQuiet_nil (hZ103 _ fun w114 hw114 => ?_); clear hq109 hq111 hq112
  have h114 : St 384 K W a113 w114 _ _ := ⟨hq113, hw114⟩
  clear hq113 hw114 h101
  refine wl_ex (x_ste (r := 3) (i := ins.a.toNat) (j := 0) (x' := (nth regs.l ins.b.toNat : Int)) h114 ti_3 rfl rfl rfl rfl rfl (show ins.a.toNat < regs.l.length from (by omega)) (Nat.le_of_ble_eq_true rfl) rfl rfl rfl (by intro q hq; obtain rfl : q = 0 := (by omega); rfl) (fun w h => Flat.inner _ _) (fun b hb => (Flat.on _ _ hb).elim)) (wanted_none rfl _) ?_
  rintro a115 w115 h115
  clear h114
  refine wpList_nil ?_
  try simp only [Exit.then, Exit.inBlock, if_true]
  refine x_end0 (fn := Try.f80) rfl h115 <| ⟨rfl, ⟨regs.v, regs.l.set ins.a.toNat (nth regs.l ins.b.toNat)⟩, ⟨wait.v, wait.l⟩, ⟨words.v, words.l⟩, ⟨owner.v, owner.l⟩, ⟨prints.v, prints.l⟩, (nth thr.l (mv / 8)).pc + 1, fell, ?_, ?_⟩
  · refine Eq.trans ?_ (doT_0 (by omega)).symm; show _ = execT mode (mv / 8) (nextIns (nth code.l (mv / 8)).l (nth thr.l (mv / 8)).pc) _; rw [← hins]; (refine Eq.trans ?_ (execT_2 (by assumption)).symm; rfl)
  ·have hz := (h115.sh.sel (L' := [.blk g 125 [code.v, pw, .int .i64 locks, .int .i64 nregs, .int .i64 mode, thr.v, words.v, owner.v, prints.v, .bool fell], .own 147 (⟨thr.v, tl⟩ : Ls ThV), .own 3 (⟨regs.v, regs.l.set ins.a.toNat (nth regs.l ins.b.toNat)⟩ : Ls Int), .own 210 wait, .own 3 words, .own 3 owner, .own 3 prints, .at_ code]) [1, 2, 3, 4, 5, 6, 7, 8] (by decide) ⟨rfl, rfl, rfl, rfl, rfl, rfl, rfl, rfl, trivial⟩)
   rw [htl] at hz; exact hz
 have hp102 : ¬ (ins.op = 2) := of_decide_eq_false hb102
 refine wp_seq_k fun K116 hK116 => wp_region_lit <| wv h101 (r_eqlI (p := ins.op) (q := 3) rfl rfl rfl) rfl rfl fun a117 h117 => wms 1 h117 rfl fun a118 h118 => wpList_nil <| hK116 _ _ <| x_cond h118 rfl (fun hb119 => ?_) (fun hb119 => ?_); clear h101 h117
 ·have hp119 : ins.op = 3 := of_decide_eq_true hb119
  have q9 := hR.o3 (by omega)
  refine x_tail 15 [] (by kernel_rfl) (by kernel_rfl) h118 fun Z120 hZ120 => ?_
  have hq120 := h118.fr
  refine wq_val hq120 (r_move rfl rfl) (wanted_none rfl _) rfl rfl fun a121 hq121 => wq_val hq121 (r_fieldB (r := 1) fl_32_1 rfl rfl rfl) (wanted_none rfl _) rfl rfl fun a122 hq122 => wq_val hq122 (r_ldb (i := 0) ti_3 rfl rfl rfl rfl) (wanted_none rfl _) rfl rfl fun a123 hq123 => wq_val hq123 (r_move rfl rfl) (wanted_none rfl _) rfl rfl fun a124 hq124 => wq_val hq124 (r_fieldB (r := 2) fl_32_2 rfl rfl rfl) (wanted_none rfl _) rfl rfl fun a125 hq125 => wq_val hq125 (r_ldb (i := 0) ti_3 rfl rfl rfl rfl) (wanted_none rfl _) rfl rfl fun a126 hq126 => ?_; clear hq120 hq121 hq122 hq123 hq124 hq125
  have hl127 : regs.l.length ≤ 140737488355328 := (h118.sh.own 3 rfl).len
  refine wq_val hq126 (r_ixI (s := regs) (q := ins.b) sl_23 ti_3 rfl rfl rfl (fun w h => (h.own 3 rfl)) (show 0 ≤ ins.b ∧ ins.b < regs.l.length from (by omega))) (wanted_none rfl _) rfl rfl fun a128 hq128 => wq_val hq128 (r_lde (s := regs) (i := ins.b.toNat) (v := .int .i64 (nth regs.l ins.b.toNat)) ti_3 rfl rfl rfl (fun w h => (h.own 3 rfl)) (show ins.b.toNat < regs.l.length from (by omega)) (Nat.le_of_ble_eq_true rfl) rfl) (wanted_none rfl _) rfl rfl fun a129 hq129 => wq_val hq129 (r_move rfl rfl) (wanted_none rfl _) rfl rfl fun a130 hq130 => wq_val hq130 (r_fieldB (r := 3) fl_32_3 rfl rfl rfl) (wanted_none rfl _) rfl rfl fun a131 hq131 => wq_val hq131 (r_ldb (i := 0) ti_3 rfl rfl rfl rfl) (wanted_none rfl _) rfl rfl fun a132 hq132 => wq_val hq132 (r_ixI (s := regs) (q := ins.c) sl_23 ti_3 rfl rfl rfl (fun w h => (h.own 3 rfl)) (show 0 ≤ ins.c ∧ ins.c < regs.l.length from (by omega))) (wanted_none rfl _) rfl rfl fun a133 hq133 => wq_val hq133 (r_lde (s := regs) (i := ins.c.toNat) (v := .int .i64 (nth regs.l ins.c.toNat)) ti_3 rfl rfl rfl (fun w h => (h.own 3 rfl)) (show ins.c.toNat < regs.l.length from (by omega)) (Nat.le_of_ble_eq_true rfl) rfl) (wanted_none rfl _) rfl rfl fun a134 hq134 => wq_val hq134 (r_addW (p := nth regs.l ins.b.toNat) (q := nth regs.l ins.c.toNat) rfl rfl rfl) (wanted_none rfl _) rfl rfl fun a135 hq135 => wq_val hq135 (r_ixI (s := regs) (q := ins.a) sl_23 ti_3 rfl rfl rfl (fun w h => (h.own 3 rfl)) (show 0 ≤ ins.a ∧ ins.a < regs.l.length from (by omega))) (wanted_none rfl _) rfl rfl fun a136 hq136 => wpQuiet_nil (hZ120 _ fun w137 hw137 => ?_); clear hq126 hq128 hq129 hq130 hq131 hq132 hq133 hq134 hq135
  have h137 : St 384 K W a136 w137 _ _ := ⟨hq136, hw137⟩
  clear hq136 hw137 h118
  refine wl_ex (x_ste (r := 3) (i := ins.a.toNat) (j := 0) (x' := (wrap64 ((nth regs.l ins.b.toNat) + (nth regs.l ins.c.toNat)) : Int)) h137 ti_3 rfl rfl rfl rfl rfl (show ins.a.toNat < regs.l.length from (by omega)) (Nat.le_of_ble_eq_true rfl) rfl rfl rfl (by intro q hq; obtain rfl : q = 0 := (by omega); rfl) (fun w h => Flat.inner _ _) (fun b hb => (Flat.on _ _ hb).elim)) (wanted_none rfl _) ?_
  rintro a138 w138 h138
  clear h137
  refine wpList_nil ?_
  try simp only [Exit.then, Exit.inBlock, if_true]
  refine x_end0 (fn := Try.f80) rfl h138 <| ⟨rfl, ⟨regs.v, regs.l.set ins.a.toNat (wrap64 ((nth regs.l ins.b.toNat) + (nth regs.l ins.c.toNat)))⟩, ⟨wait.v, wait.l⟩, ⟨words.v, words.l⟩, ⟨owner.v, owner.l⟩, ⟨prints.v, prints.l⟩, (nth thr.l (mv / 8)).pc + 1, fell, ?_, ?_⟩
  · refine Eq.trans ?_ (doT_0 (by omega)).symm; show _ = execT mode (mv / 8) (nextIns (nth code.l (mv / 8)).l (nth thr.l (mv / 8)).pc) _; rw [← hins]; (refine Eq.trans ?_ (execT_3 (by assumption)).symm; rfl)
  ·have hz := (h138.sh.sel (L' := [.blk g 125 [code.v, pw, .int .i64 locks, .int .i64 nregs, .int .i64 mode, thr.v, words.v, owner.v, prints.v, .bool fell], .own 147 (⟨thr.v, tl⟩ : Ls ThV), .own 3 (⟨regs.v, regs.l.set ins.a.toNat (wrap64 ((nth regs.l ins.b.toNat) + (nth regs.l ins.c.toNat)))⟩ : Ls Int), .own 210 wait, .own 3 words, .own 3 owner, .own 3 prints, .at_ code]) [1, 2, 3, 4, 5, 6, 7, 8] (by decide) ⟨rfl, rfl, rfl, rfl, rfl, rfl, rfl, rfl, trivial⟩)
   rw [htl] at hz; exact hz
 have hp119 : ¬ (ins.op = 3) := of_decide_eq_false hb119
 refine wp_seq_k fun K139 hK139 => wp_region_lit <| wv h118 (r_eqlI (p := ins.op) (q := 4) rfl rfl rfl) rfl rfl fun a140 h140 => wms 1 h140 rfl fun a141 h141 => wpList_nil <| hK139 _ _ <| x_cond h141 rfl (fun hb142 => ?_) (fun hb142 => ?_); clear h118 h140
 ·have hp142 : ins.op = 4 := of_decide_eq_true hb142
  have q9 := hR.o3 (by omega)
  refine x_tail 15 [] (by kernel_rfl) (by kernel_rfl) h141 fun Z143 hZ143 => ?_
  have hq143 := h141.fr
  refine wq_val hq143 (r_move rfl rfl) (wanted_none rfl _) rfl rfl fun a144 hq144 => wq_val hq144 (r_fieldB (r := 1) fl_32_1 rfl rfl rfl) (wanted_none rfl _) rfl rfl fun a145 hq145 => wq_val hq145 (r_ldb (i := 0) ti_3 rfl rfl rfl rfl) (wanted_none rfl _) rfl rfl fun a146 hq146 => wq_val hq146 (r_move rfl rfl) (wanted_none rfl _) rfl rfl fun a147 hq147 => wq_val hq147 (r_fieldB (r := 2) fl_32_2 rfl rfl rfl) (wanted_none rfl _) rfl rfl fun a148 hq148 => wq_val hq148 (r_ldb (i := 0) ti_3 rfl rfl rfl rfl) (wanted_none rfl _) rfl rfl fun a149 hq149 => ?_; clear hq143 hq144 hq145 hq146 hq147 hq148
  have hl150 : regs.l.length ≤ 140737488355328 := (h141.sh.own 3 rfl).len
  refine wq_val hq149 (r_ixI (s := regs) (q := ins.b) sl_23 ti_3 rfl rfl rfl (fun w h => (h.own 3 rfl)) (show 0 ≤ ins.b ∧ ins.b < regs.l.length from (by omega))) (wanted_none rfl _) rfl rfl fun a151 hq151 => wq_val hq151 (r_lde (s := regs) (i := ins.b.toNat) (v := .int .i64 (nth regs.l ins.b.toNat)) ti_3 rfl rfl rfl (fun w h => (h.own 3 rfl)) (show ins.b.toNat < regs.l.length from (by omega)) (Nat.le_of_ble_eq_true rfl) rfl) (wanted_none rfl _) rfl rfl fun a152 hq152 => wq_val hq152 (r_move rfl rfl) (wanted_none rfl _) rfl rfl fun a153 hq153 => wq_val hq153 (r_fieldB (r := 3) fl_32_3 rfl rfl rfl) (wanted_none rfl _) rfl rfl fun a154 hq154 => wq_val hq154 (r_ldb (i := 0) ti_3 rfl rfl rfl rfl) (wanted_none rfl _) rfl rfl fun a155 hq155 => wq_val hq155 (r_ixI (s := regs) (q := ins.c) sl_23 ti_3 rfl rfl rfl (fun w h => (h.own 3 rfl)) (show 0 ≤ ins.c ∧ ins.c < regs.l.length from (by omega))) (wanted_none rfl _) rfl rfl fun a156 hq156 => wq_val hq156 (r_lde (s := regs) (i := ins.c.toNat) (v := .int .i64 (nth regs.l ins.c.toNat)) ti_3 rfl rfl rfl (fun w h => (h.own 3 rfl)) (show ins.c.toNat < regs.l.length from (by omega)) (Nat.le_of_ble_eq_true rfl) rfl) (wanted_none rfl _) rfl rfl fun a157 hq157 => wq_val hq157 (r_subW (p := nth regs.l ins.b.toNat) (q := nth regs.l ins.c.toNat) rfl rfl rfl) (wanted_none rfl _) rfl rfl fun a158 hq158 => wq_val hq158 (r_ixI (s := regs) (q := ins.a) sl_23 ti_3 rfl rfl rfl (fun w h => (h.own 3 rfl)) (show 0 ≤ ins.a ∧ ins.a < regs.l.length from (by omega))) (wanted_none rfl _) rfl rfl fun a159 hq159 => wpQuiet_nil (hZ143 _ fun w160 hw160 => ?_); clear hq149 hq151 hq152 hq153 hq154 hq155 hq156 hq157 hq158
  have h160 : St 384 K W a159 w160 _ _ := ⟨hq159, hw160⟩
  clear hq159 hw160 h141
  refine wl_ex (x_ste (r := 3) (i := ins.a.toNat) (j := 0) (x' := (wrap64 ((nth regs.l ins.b.toNat) - (nth regs.l ins.c.toNat)) : Int)) h160 ti_3 rfl rfl rfl rfl rfl (show ins.a.toNat < regs.l.length from (by omega)) (Nat.le_of_ble_eq_true rfl) rfl rfl rfl (by intro q hq; obtain rfl : q = 0 := (by omega); rfl) (fun w h => Flat.inner _ _) (fun b hb => (Flat.on _ _ hb).elim)) (wanted_none rfl _) ?_
  rintro a161 w161 h161
  clear h160
  refine wpList_nil ?_
  try simp only [Exit.then, Exit.inBlock, if_true]
  refine x_end0 (fn := Try.f80) rfl h161 <| ⟨rfl, ⟨regs.v, regs.l.set ins.a.toNat (wrap64 ((nth regs.l ins.b.toNat) - (nth regs.l ins.c.toNat)))⟩, ⟨wait.v, wait.l⟩, ⟨words.v, words.l⟩, ⟨owner.v, owner.l⟩, ⟨prints.v, prints.l⟩, (nth thr.l (mv / 8)).pc + 1, fell, ?_, ?_⟩
  · refine Eq.trans ?_ (doT_0 (by omega)).symm; show _ = execT mode (mv / 8) (nextIns (nth code.l (mv / 8)).l (nth thr.l (mv / 8)).pc) _; rw [← hins]; (refine Eq.trans ?_ (execT_4 (by assumption)).symm; rfl)
  ·have hz := (h161.sh.sel (L' := [.blk g 125 [code.v, pw, .int .i64 locks, .int .i64 nregs, .int .i64 mode, thr.v, words.v, owner.v, prints.v, .bool fell], .own 147 (⟨thr.v, tl⟩ : Ls ThV), .own 3 (⟨regs.v, regs.l.set ins.a.toNat (wrap64 ((nth regs.l ins.b.toNat) - (nth regs.l ins.c.toNat)))⟩ : Ls Int), .own 210 wait, .own 3 words, .own 3 owner, .own 3 prints, .at_ code]) [1, 2, 3, 4, 5, 6, 7, 8] (by decide) ⟨rfl, rfl, rfl, rfl, rfl, rfl, rfl, rfl, trivial⟩)
   rw [htl] at hz; exact hz
 have hp142 : ¬ (ins.op = 4) := of_decide_eq_false hb142
 refine wp_seq_k fun K162 hK162 => wp_region_lit <| wv h141 (r_eqlI (p := ins.op) (q := 5) rfl rfl rfl) rfl rfl fun a163 h163 => wms 1 h163 rfl fun a164 h164 => wpList_nil <| hK162 _ _ <| x_cond h164 rfl (fun hb165 => ?_) (fun hb165 => ?_); clear h141 h163
 ·have hp165 : ins.op = 5 := of_decide_eq_true hb165
  have q9 := hR.o3 (by omega)
  refine x_tail 15 [] (by kernel_rfl) (by kernel_rfl) h164 fun Z166 hZ166 => ?_
  have hq166 := h164.fr
  refine wq_val hq166 (r_move rfl rfl) (wanted_none rfl _) rfl rfl fun a167 hq167 => wq_val hq167 (r_fieldB (r := 1) fl_32_1 rfl rfl rfl) (wanted_none rfl _) rfl rfl fun a168 hq168 => wq_val hq168 (r_ldb (i := 0) ti_3 rfl rfl rfl rfl) (wanted_none rfl _) rfl rfl fun a169 hq169 => wq_val hq169 (r_move rfl rfl) (wanted_none rfl _) rfl rfl fun a170 hq170 => wq_val hq170 (r_fieldB (r := 2) fl_32_2 rfl rfl rfl) (wanted_none rfl _) rfl rfl fun a171 hq171 => wq_val hq171 (r_ldb (i := 0) ti_3 rfl rfl rfl rfl) (wanted_none rfl _) rfl rfl fun a172 hq172 => ?_; clear hq166 hq167 hq168 hq169 hq170 hq171
  have hl173 : regs.l.length ≤ 140737488355328 := (h164.sh.own 3 rfl).len
  refine wq_val hq172 (r_ixI (s := regs) (q := ins.b) sl_23 ti_3 rfl rfl rfl (fun w h => (h.own 3 rfl)) (show 0 ≤ ins.b ∧ ins.b < regs.l.length from (by omega))) (wanted_none rfl _) rfl rfl fun a174 hq174 => wq_val hq174 (r_lde (s := regs) (i := ins.b.toNat) (v := .int .i64 (nth regs.l ins.b.toNat)) ti_3 rfl rfl rfl (fun w h => (h.own 3 rfl)) (show ins.b.toNat < regs.l.length from (by omega)) (Nat.le_of_ble_eq_true rfl) rfl) (wanted_none rfl _) rfl rfl fun a175 hq175 => wq_val hq175 (r_move rfl rfl) (wanted_none rfl _) rfl rfl fun a176 hq176 => wq_val hq176 (r_fieldB (r := 3) fl_32_3 rfl rfl rfl) (wanted_none rfl _) rfl rfl fun a177 hq177 => wq_val hq177 (r_ldb (i := 0) ti_3 rfl rfl rfl rfl) (wanted_none rfl _) rfl rfl fun a178 hq178 => wq_val hq178 (r_ixI (s := regs) (q := ins.c) sl_23 ti_3 rfl rfl rfl (fun w h => (h.own 3 rfl)) (show 0 ≤ ins.c ∧ ins.c < regs.l.length from (by omega))) (wanted_none rfl _) rfl rfl fun a179 hq179 => wq_val hq179 (r_lde (s := regs) (i := ins.c.toNat) (v := .int .i64 (nth regs.l ins.c.toNat)) ti_3 rfl rfl rfl (fun w h => (h.own 3 rfl)) (show ins.c.toNat < regs.l.length from (by omega)) (Nat.le_of_ble_eq_true rfl) rfl) (wanted_none rfl _) rfl rfl fun a180 hq180 => wq_val hq180 (r_mulW (p := nth regs.l ins.b.toNat) (q := nth regs.l ins.c.toNat) rfl rfl rfl) (wanted_none rfl _) rfl rfl fun a181 hq181 => wq_val hq181 (r_ixI (s := regs) (q := ins.a) sl_23 ti_3 rfl rfl rfl (fun w h => (h.own 3 rfl)) (show 0 ≤ ins.a ∧ ins.a < regs.l.length from (by omega))) (wanted_none rfl _) rfl rfl fun a182 hq182 => wpQuiet_nil (hZ166 _ fun w183 hw183 => ?_); clear hq172 hq174 hq175 hq176 hq177 hq178 hq179 hq180 hq181
  have h183 : St 384 K W a182 w183 _ _ := ⟨hq182, hw183⟩
  clear hq182 hw183 h164
  refine wl_ex (x_ste (r := 3) (i := ins.a.toNat) (j := 0) (x' := (wrap64 ((nth regs.l ins.b.toNat) * (nth regs.l ins.c.toNat)) : Int)) h183 ti_3 rfl rfl rfl rfl rfl (show ins.a.toNat < regs.l.length from (by omega)) (Nat.le_of_ble_eq_true rfl) rfl rfl rfl (by intro q hq; obtain rfl : q = 0 := (by omega); rfl) (fun w h => Flat.inner _ _) (fun b hb => (Flat.on _ _ hb).elim)) (wanted_none rfl _) ?_
  rintro a184 w184 h184
  clear h183
  refine wpList_nil ?_
  try simp only [Exit.then, Exit.inBlock, if_true]
  refine x_end0 (fn := Try.f80) rfl h184 <| ⟨rfl, ⟨regs.v, regs.l.set ins.a.toNat (wrap64 ((nth regs.l ins.b.toNat) * (nth regs.l ins.c.toNat)))⟩, ⟨wait.v, wait.l⟩, ⟨words.v, words.l⟩, ⟨owner.v, owner.l⟩, ⟨prints.v, prints.l⟩, (nth thr.l (mv / 8)).pc + 1, fell, ?_, ?_⟩
  · refine Eq.trans ?_ (doT_0 (by omega)).symm; show _ = execT mode (mv / 8) (nextIns (nth code.l (mv / 8)).l (nth thr.l (mv / 8)).pc) _; rw [← hins]; (refine Eq.trans ?_ (execT_5 (by assumption)).symm; rfl)
  ·have hz := (h184.sh.sel (L' := [.blk g 125 [code.v, pw, .int .i64 locks, .int .i64 nregs, .int .i64 mode, thr.v, words.v, owner.v, prints.v, .bool fell], .own 147 (⟨thr.v, tl⟩ : Ls ThV), .own 3 (⟨regs.v, regs.l.set ins.a.toNat (wrap64 ((nth regs.l ins.b.toNat) * (nth regs.l ins.c.toNat)))⟩ : Ls Int), .own 210 wait, .own 3 words, .own 3 owner, .own 3 prints, .at_ code]) [1, 2, 3, 4, 5, 6, 7, 8] (by decide) ⟨rfl, rfl, rfl, rfl, rfl, rfl, rfl, rfl, trivial⟩)
   rw [htl] at hz; exact hz
 have hp165 : ¬ (ins.op = 5) := of_decide_eq_false hb165
 refine wp_seq_k fun K185 hK185 => wp_region_lit <| wv h164 (r_eqlI (p := ins.op) (q := 6) rfl rfl rfl) rfl rfl fun a186 h186 => wms 1 h186 rfl fun a187 h187 => wpList_nil <| hK185 _ _ <| x_cond h187 rfl (fun hb188 => ?_) (fun hb188 => ?_); clear h164 h186
 ·have hp188 : ins.op = 6 := of_decide_eq_true hb188
  have q9 := hR.o3 (by omega)
  refine x_tail 16 [] (by kernel_rfl) (by kernel_rfl) h187 fun Z189 hZ189 => ?_
  have hq189 := h187.fr
  refine wq_val hq189 (r_move rfl rfl) (wanted_none rfl _) rfl rfl fun a190 hq190 => wq_val hq190 (r_fieldB (r := 1) fl_32_1 rfl rfl rfl) (wanted_none rfl _) rfl rfl fun a191 hq191 => wq_val hq191 (r_ldb (i := 0) ti_3 rfl rfl rfl rfl) (wanted_none rfl _) rfl rfl fun a192 hq192 => wq_val hq192 (r_move rfl rfl) (wanted_none rfl _) rfl rfl fun a193 hq193 => wq_val hq193 (r_fieldB (r := 2) fl_32_2 rfl rfl rfl) (wanted_none rfl _) rfl rfl fun a194 hq194 => wq_val hq194 (r_ldb (i := 0) ti_3 rfl rfl rfl rfl) (wanted_none rfl _) rfl rfl fun a195 hq195 => ?_; clear hq189 hq190 hq191 hq192 hq193 hq194
  have hl196 : regs.l.length ≤ 140737488355328 := (h187.sh.own 3 rfl).len
  refine wq_val hq195 (r_ixI (s := regs) (q := ins.b) sl_23 ti_3 rfl rfl rfl (fun w h => (h.own 3 rfl)) (show 0 ≤ ins.b ∧ ins.b < regs.l.length from (by omega))) (wanted_none rfl _) rfl rfl fun a197 hq197 => wq_val hq197 (r_lde (s := regs) (i := ins.b.toNat) (v := .int .i64 (nth regs.l ins.b.toNat)) ti_3 rfl rfl rfl (fun w h => (h.own 3 rfl)) (show ins.b.toNat < regs.l.length from (by omega)) (Nat.le_of_ble_eq_true rfl) rfl) (wanted_none rfl _) rfl rfl fun a198 hq198 => wq_val hq198 (r_move rfl rfl) (wanted_none rfl _) rfl rfl fun a199 hq199 => wq_val hq199 (r_fieldB (r := 3) fl_32_3 rfl rfl rfl) (wanted_none rfl _) rfl rfl fun a200 hq200 => wq_val hq200 (r_ldb (i := 0) ti_3 rfl rfl rfl rfl) (wanted_none rfl _) rfl rfl fun a201 hq201 => wq_val hq201 (r_ixI (s := regs) (q := ins.c) sl_23 ti_3 rfl rfl rfl (fun w h => (h.own 3 rfl)) (show 0 ≤ ins.c ∧ ins.c < regs.l.length from (by omega))) (wanted_none rfl _) rfl rfl fun a202 hq202 => wq_val hq202 (r_lde (s := regs) (i := ins.c.toNat) (v := .int .i64 (nth regs.l ins.c.toNat)) ti_3 rfl rfl rfl (fun w h => (h.own 3 rfl)) (show ins.c.toNat < regs.l.length from (by omega)) (Nat.le_of_ble_eq_true rfl) rfl) (wanted_none rfl _) rfl rfl fun a203 hq203 => wq_val hq203 (r_lssI (p := nth regs.l ins.b.toNat) (q := nth regs.l ins.c.toNat) rfl rfl rfl) (wanted_none rfl _) rfl rfl fun a204 hq204 => wq_call hq204 bd_128 rfl rfl rfl (wanted_none rfl _) rfl rfl (fun w h => (bit_c (decide (nth regs.l ins.b.toNat < nth regs.l ins.c.toNat)) _)) fun a205 hq205 => wq_val hq205 (r_ixI (s := regs) (q := ins.a) sl_23 ti_3 rfl rfl rfl (fun w h => (h.own 3 rfl)) (show 0 ≤ ins.a ∧ ins.a < regs.l.length from (by omega))) (wanted_none rfl _) rfl rfl fun a206 hq206 => wpQuiet_nil (hZ189 _ fun w207 hw207 => ?_); clear hq195 hq197 hq198 hq199 hq200 hq201 hq202 hq203 hq204 hq205
  have h207 : St 384 K W a206 w207 _ _ := ⟨hq206, hw207⟩
  clear hq206 hw207 h187
  refine wl_ex (x_ste (r := 3) (i := ins.a.toNat) (j := 0) (x' := (bit (decide (nth regs.l ins.b.toNat < nth regs.l ins.c.toNat)) : Int)) h207 ti_3 rfl rfl rfl rfl rfl (show ins.a.toNat < regs.l.length from (by omega)) (Nat.le_of_ble_eq_true rfl) rfl rfl rfl (by intro q hq; obtain rfl : q = 0 := (by omega); rfl) (fun w h => Flat.inner _ _) (fun b hb => (Flat.on _ _ hb).elim)) (wanted_none rfl _) ?_
  rintro a208 w208 h208
  clear h207
  refine wpList_nil ?_
  try simp only [Exit.then, Exit.inBlock, if_true]
  refine x_end0 (fn := Try.f80) rfl h208 <| ⟨rfl, ⟨regs.v, regs.l.set ins.a.toNat (bit (decide (nth regs.l ins.b.toNat < nth regs.l ins.c.toNat)))⟩, ⟨wait.v, wait.l⟩, ⟨words.v, words.l⟩, ⟨owner.v, owner.l⟩, ⟨prints.v, prints.l⟩, (nth thr.l (mv / 8)).pc + 1, fell, ?_, ?_⟩
  · refine Eq.trans ?_ (doT_0 (by omega)).symm; show _ = execT mode (mv / 8) (nextIns (nth code.l (mv / 8)).l (nth thr.l (mv / 8)).pc) _; rw [← hins]; (refine Eq.trans ?_ (execT_6 (by assumption)).symm; rfl)
  ·have hz := (h208.sh.sel (L' := [.blk g 125 [code.v, pw, .int .i64 locks, .int .i64 nregs, .int .i64 mode, thr.v, words.v, owner.v, prints.v, .bool fell], .own 147 (⟨thr.v, tl⟩ : Ls ThV), .own 3 (⟨regs.v, regs.l.set ins.a.toNat (bit (decide (nth regs.l ins.b.toNat < nth regs.l ins.c.toNat)))⟩ : Ls Int), .own 210 wait, .own 3 words, .own 3 owner, .own 3 prints, .at_ code]) [1, 2, 3, 4, 5, 6, 7, 8] (by decide) ⟨rfl, rfl, rfl, rfl, rfl, rfl, rfl, rfl, trivial⟩)
   rw [htl] at hz; exact hz
 have hp188 : ¬ (ins.op = 6) := of_decide_eq_false hb188
 refine wp_seq_k fun K209 hK209 => wp_region_lit <| wv h187 (r_eqlI (p := ins.op) (q := 7) rfl rfl rfl) rfl rfl fun a210 h210 => wms 1 h210 rfl fun a211 h211 => wpList_nil <| hK209 _ _ <| x_cond h211 rfl (fun hb212 => ?_) (fun hb212 => ?_); clear h187 h210
 ·have hp212 : ins.op = 7 := of_decide_eq_true hb212
  have q9 := hR.o3 (by omega)
  refine x_tail 16 [] (by kernel_rfl) (by kernel_rfl) h211 fun Z213 hZ213 => ?_
  have hq213 := h211.fr
  refine wq_val hq213 (r_move rfl rfl) (wanted_none rfl _) rfl rfl fun a214 hq214 => wq_val hq214 (r_fieldB (r := 1) fl_32_1 rfl rfl rfl) (wanted_none rfl _) rfl rfl fun a215 hq215 => wq_val hq215 (r_ldb (i := 0) ti_3 rfl rfl rfl rfl) (wanted_none rfl _) rfl rfl fun a216 hq216 => wq_val hq216 (r_move rfl rfl) (wanted_none rfl _) rfl rfl fun a217 hq217 => wq_val hq217 (r_fieldB (r := 2) fl_32_2 rfl rfl rfl) (wanted_none rfl _) rfl rfl fun a218 hq218 => wq_val hq218 (r_ldb (i := 0) ti_3 rfl rfl rfl rfl) (wanted_none rfl _) rfl rfl fun a219 hq219 => ?_; clear hq213 hq214 hq215 hq216 hq217 hq218
  have hl220 : regs.l.length ≤ 140737488355328 := (h211.sh.own 3 rfl).len
  refine wq_val hq219 (r_ixI (s := regs) (q := ins.b) sl_23 ti_3 rfl rfl rfl (fun w h => (h.own 3 rfl)) (show 0 ≤ ins.b ∧ ins.b < regs.l.length from (by omega))) (wanted_none rfl _) rfl rfl fun a221 hq221 => wq_val hq221 (r_lde (s := regs) (i := ins.b.toNat) (v := .int .i64 (nth regs.l ins.b.toNat)) ti_3 rfl rfl rfl (fun w h => (h.own 3 rfl)) (show ins.b.toNat < regs.l.length from (by omega)) (Nat.le_of_ble_eq_true rfl) rfl) (wanted_none rfl _) rfl rfl fun a222 hq222 => wq_val hq222 (r_move rfl rfl) (wanted_none rfl _) rfl rfl fun a223 hq223 => wq_val hq223 (r_fieldB (r := 3) fl_32_3 rfl rfl rfl) (wanted_none rfl _) rfl rfl fun a224 hq224 => wq_val hq224 (r_ldb (i := 0) ti_3 rfl rfl rfl rfl) (wanted_none rfl _) rfl rfl fun a225 hq225 => wq_val hq225 (r_ixI (s := regs) (q := ins.c) sl_23 ti_3 rfl rfl rfl (fun w h => (h.own 3 rfl)) (show 0 ≤ ins.c ∧ ins.c < regs.l.length from (by omega))) (wanted_none rfl _) rfl rfl fun a226 hq226 => wq_val hq226 (r_lde (s := regs) (i := ins.c.toNat) (v := .int .i64 (nth regs.l ins.c.toNat)) ti_3 rfl rfl rfl (fun w h => (h.own 3 rfl)) (show ins.c.toNat < regs.l.length from (by omega)) (Nat.le_of_ble_eq_true rfl) rfl) (wanted_none rfl _) rfl rfl fun a227 hq227 => wq_val hq227 (r_eqlI (p := nth regs.l ins.b.toNat) (q := nth regs.l ins.c.toNat) rfl rfl rfl) (wanted_none rfl _) rfl rfl fun a228 hq228 => wq_call hq228 bd_128 rfl rfl rfl (wanted_none rfl _) rfl rfl (fun w h => (bit_c (decide (nth regs.l ins.b.toNat = nth regs.l ins.c.toNat)) _)) fun a229 hq229 => wq_val hq229 (r_ixI (s := regs) (q := ins.a) sl_23 ti_3 rfl rfl rfl (fun w h => (h.own 3 rfl)) (show 0 ≤ ins.a ∧ ins.a < regs.l.length from (by omega))) (wanted_none rfl _) rfl rfl fun a230 hq230 => wpQuiet_nil (hZ213 _ fun w231 hw231 => ?_); clear hq219 hq221 hq222 hq223 hq224 hq225 hq226 hq227 hq228 hq229
  have h231 : St 384 K W a230 w231 _ _ := ⟨hq230, hw231⟩
  clear hq230 hw231 h211
  refine wl_ex (x_ste (r := 3) (i := ins.a.toNat) (j := 0) (x' := (bit (decide (nth regs.l ins.b.toNat = nth regs.l ins.c.toNat)) : Int)) h231 ti_3 rfl rfl rfl rfl rfl (show ins.a.toNat < regs.l.length from (by omega)) (Nat.le_of_ble_eq_true rfl) rfl rfl rfl (by intro q hq; obtain rfl : q = 0 := (by omega); rfl) (fun w h => Flat.inner _ _) (fun b hb => (Flat.on _ _ hb).elim)) (wanted_none rfl _) ?_
  rintro a232 w232 h232
  clear h231
  refine wpList_nil ?_
  try simp only [Exit.then, Exit.inBlock, if_true]
  refine x_end0 (fn := Try.f80) rfl h232 <| ⟨rfl, ⟨regs.v, regs.l.set ins.a.toNat (bit (decide (nth regs.l ins.b.toNat = nth regs.l ins.c.toNat)))⟩, ⟨wait.v, wait.l⟩, ⟨words.v, words.l⟩, ⟨owner.v, owner.l⟩, ⟨prints.v, prints.l⟩, (nth thr.l (mv / 8)).pc + 1, fell, ?_, ?_⟩
  · refine Eq.trans ?_ (doT_0 (by omega)).symm; show _ = execT mode (mv / 8) (nextIns (nth code.l (mv / 8)).l (nth thr.l (mv / 8)).pc) _; rw [← hins]; (refine Eq.trans ?_ (execT_7 (by assumption)).symm; rfl)
  ·have hz := (h232.sh.sel (L' := [.blk g 125 [code.v, pw, .int .i64 locks, .int .i64 nregs, .int .i64 mode, thr.v, words.v, owner.v, prints.v, .bool fell], .own 147 (⟨thr.v, tl⟩ : Ls ThV), .own 3 (⟨regs.v, regs.l.set ins.a.toNat (bit (decide (nth regs.l ins.b.toNat = nth regs.l ins.c.toNat)))⟩ : Ls Int), .own 210 wait, .own 3 words, .own 3 owner, .own 3 prints, .at_ code]) [1, 2, 3, 4, 5, 6, 7, 8] (by decide) ⟨rfl, rfl, rfl, rfl, rfl, rfl, rfl, rfl, trivial⟩)
   rw [htl] at hz; exact hz
 have hp212 : ¬ (ins.op = 7) := of_decide_eq_false hb212
 refine wp_seq_k fun K233 hK233 => wp_region_lit <| wv h211 (r_eqlI (p := ins.op) (q := 8) rfl rfl rfl) rfl rfl fun a234 h234 => wms 1 h234 rfl fun a235 h235 => wpList_nil <| hK233 _ _ <| x_cond h235 rfl (fun hb236 => ?_) (fun hb236 => ?_); clear h211 h234
 ·have hp236 : ins.op = 8 := of_decide_eq_true hb236
  have q9 := hR.o8 (by omega)
  refine x_tail 9 [] (by kernel_rfl) (by kernel_rfl) h235 fun Z237 hZ237 => ?_
  have hq237 := h235.fr
  refine wq_val hq237 (r_move rfl rfl) (wanted_none rfl _) rfl rfl fun a238 hq238 => wq_val hq238 (r_fieldB (r := 1) fl_32_1 rfl rfl rfl) (wanted_none rfl _) rfl rfl fun a239 hq239 => wq_val hq239 (r_ldb (i := 0) ti_3 rfl rfl rfl rfl) (wanted_none rfl _) rfl rfl fun a240 hq240 => wq_val hq240 (r_move rfl rfl) (wanted_none rfl _) rfl rfl fun a241 hq241 => wq_val hq241 (r_move rfl rfl) (wanted_none rfl _) rfl rfl fun a242 hq242 => wq_val hq242 (r_fieldB (r := 2) fl_32_2 rfl rfl rfl) (wanted_none rfl _) rfl rfl fun a243 hq243 => wq_val hq243 (r_ldb (i := 0) ti_3 rfl rfl rfl rfl) (wanted_none rfl _) rfl rfl fun a244 hq244 => wq_call hq244 bd_129 rfl rfl rfl (wanted_none rfl _) rfl rfl (fun w h => (finds_c g (mv / 8) ins.b (⟨thr.v, tl⟩ : Ls ThV) words wait _ _ _ _ _ _ _ _ _ (h.blk 1 rfl) (h.own 2 rfl) (h.own 5 rfl) (h.own 4 rfl) (show mv / 8 < tl.length by omega) hwv2 (by omega))) fun a245 hq245 => ?_; clear hq237 hq238 hq239 hq240 hq241 hq242 hq243 hq244
  have hl246 : regs.l.length ≤ 140737488355328 := (h235.sh.own 3 rfl).len
  refine wq_val hq245 (r_ixI (s := regs) (q := ins.a) sl_23 ti_3 rfl rfl rfl (fun w h => (h.own 3 rfl)) (show 0 ≤ ins.a ∧ ins.a < regs.l.length from (by omega))) (wanted_none rfl _) rfl rfl fun a247 hq247 => wpQuiet_nil (hZ237 _ fun w248 hw248 => ?_); clear hq245
  have h248 : St 384 K W a247 w248 _ _ := ⟨hq247, hw248⟩
  clear hq247 hw248 h235
  refine wl_ex (x_ste (r := 3) (i := ins.a.toNat) (j := 0) (x' := (findsL wait.l words.l ins.b : Int)) h248 ti_3 rfl rfl rfl rfl rfl (show ins.a.toNat < regs.l.length from (by omega)) (Nat.le_of_ble_eq_true rfl) rfl rfl rfl (by intro q hq; obtain rfl : q = 0 := (by omega); rfl) (fun w h => Flat.inner _ _) (fun b hb => (Flat.on _ _ hb).elim)) (wanted_none rfl _) ?_
  rintro a249 w249 h249
  clear h248
  refine wpList_nil ?_
  try simp only [Exit.then, Exit.inBlock, if_true]
  refine x_end0 (fn := Try.f80) rfl h249 <| ⟨rfl, ⟨regs.v, regs.l.set ins.a.toNat (findsL wait.l words.l ins.b)⟩, ⟨wait.v, wait.l⟩, ⟨words.v, words.l⟩, ⟨owner.v, owner.l⟩, ⟨prints.v, prints.l⟩, (nth thr.l (mv / 8)).pc + 1, fell, ?_, ?_⟩
  · refine Eq.trans ?_ (doT_0 (by omega)).symm; show _ = execT mode (mv / 8) (nextIns (nth code.l (mv / 8)).l (nth thr.l (mv / 8)).pc) _; rw [← hins]; (refine Eq.trans ?_ (execT_8 (by assumption)).symm; rfl)
  ·have hz := (h249.sh.sel (L' := [.blk g 125 [code.v, pw, .int .i64 locks, .int .i64 nregs, .int .i64 mode, thr.v, words.v, owner.v, prints.v, .bool fell], .own 147 (⟨thr.v, tl⟩ : Ls ThV), .own 3 (⟨regs.v, regs.l.set ins.a.toNat (findsL wait.l words.l ins.b)⟩ : Ls Int), .own 210 wait, .own 3 words, .own 3 owner, .own 3 prints, .at_ code]) [1, 2, 3, 4, 5, 6, 7, 8] (by decide) ⟨rfl, rfl, rfl, rfl, rfl, rfl, rfl, rfl, trivial⟩)
   rw [htl] at hz; exact hz
 have hp236 : ¬ (ins.op = 8) := of_decide_eq_false hb236
 refine wp_seq_k fun K250 hK250 => wp_region_lit <| wv h235 (r_eqlI (p := ins.op) (q := 9) rfl rfl rfl) rfl rfl fun a251 h251 => wms 1 h251 rfl fun a252 h252 => wpList_nil <| hK250 _ _ <| x_cond h252 rfl (fun hb253 => ?_) (fun hb253 => ?_); clear h235 h251
 ·have hp253 : ins.op = 9 := of_decide_eq_true hb253
  have q9 := hR.o9 (by omega)
  refine x_tail 10 [] (by kernel_rfl) (by kernel_rfl) h252 fun Z254 hZ254 => ?_
  have hq254 := h252.fr
  refine wq_val hq254 (r_move rfl rfl) (wanted_none rfl _) rfl rfl fun a255 hq255 => wq_val hq255 (r_move rfl rfl) (wanted_none rfl _) rfl rfl fun a256 hq256 => wq_val hq256 (r_fieldB (r := 1) fl_32_1 rfl rfl rfl) (wanted_none rfl _) rfl rfl fun a257 hq257 => wq_val hq257 (r_ldb (i := 0) ti_3 rfl rfl rfl rfl) (wanted_none rfl _) rfl rfl fun a258 hq258 => wq_val hq258 (r_move rfl rfl) (wanted_none rfl _) rfl rfl fun a259 hq259 => wq_val hq259 (r_fieldB (r := 2) fl_32_2 rfl rfl rfl) (wanted_none rfl _) rfl rfl fun a260 hq260 => wq_val hq260 (r_ldb (i := 0) ti_3 rfl rfl rfl rfl) (wanted_none rfl _) rfl rfl fun a261 hq261 => ?_; clear hq254 hq255 hq256 hq257 hq258 hq259 hq260
  have hl262 : regs.l.length ≤ 140737488355328 := (h252.sh.own 3 rfl).len
  refine wq_val hq261 (r_ixI (s := regs) (q := ins.b) sl_23 ti_3 rfl rfl rfl (fun w h => (h.own 3 rfl)) (show 0 ≤ ins.b ∧ ins.b < regs.l.length from (by omega))) (wanted_none rfl _) rfl rfl fun a263 hq263 => wq_val hq263 (r_lde (s := regs) (i := ins.b.toNat) (v := .int .i64 (nth regs.l ins.b.toNat)) ti_3 rfl rfl rfl (fun w h => (h.own 3 rfl)) (show ins.b.toNat < regs.l.length from (by omega)) (Nat.le_of_ble_eq_true rfl) rfl) (wanted_none rfl _) rfl rfl fun a264 hq264 => wq_val hq264 (r_build (cs := [.bool false, .int .i64 ins.a, .int .i64 (nth regs.l ins.b.toNat)]) rfl rfl (by kernel_rfl)) (wanted_none rfl _) rfl rfl fun a265 hq265 => wpQuiet_nil (hZ254 _ fun w266 hw266 => ?_); clear hq261 hq263 hq264
  have h266 : St 384 K W a265 w266 _ _ := ⟨hq265, hw266⟩
  clear hq265 hw266 h252
  have h267 := h266.sel (L' := [.blk g 125 [code.v, pw, .int .i64 locks, .int .i64 nregs, .int .i64 mode, thr.v, words.v, owner.v, prints.v, .bool fell], .own 147 (⟨thr.v, tl⟩ : Ls ThV), .own 210 wait, .own 3 words, .own 3 owner, .blk b65 32 [.int .i64 ins.op, .int .i64 ins.a, .int .i64 ins.b, .int .i64 ins.c], .own 3 regs, .own 3 prints, .at_ code]) [1, 2, 4, 5, 6, 0, 3, 7, 8] (by decide) ⟨rfl, rfl, rfl, rfl, rfl, rfl, rfl, rfl, rfl, trivial⟩
  have hp268 := h267.sh.passL (Lp := [.blk g 125 [code.v, pw, .int .i64 locks, .int .i64 nregs, .int .i64 mode, thr.v, words.v, owner.v, prints.v, .bool fell], .own 147 (⟨thr.v, tl⟩ : Ls ThV), .own 210 wait, .own 3 words, .own 3 owner])
  refine wl_ex (x_call h267 bd_130 rfl rfl rfl rfl rfl (store_c _ _ (mv / 8) (⟨false, ins.a, nth regs.l ins.b.toNat⟩ : Wt) (⟨thr.v, tl⟩ : Ls ThV) wait words owner _ _ _ _ _ _ _ _ hp268 (by first | (simp only [if_true]; omega) | (simp only [Bool.false_eq_true, if_false]; omega)) (show mv / 8 < tl.length by omega) hwv2 (by omega))) (wanted_none rfl _) ?_
  rintro a269 w269 ⟨_, ⟨rfl, wait269, words269, owner269, hst, hs269⟩, hf269⟩
  have h269 : St 384 K W a269 w269 _ [.blk g 125 [code.v, pw, .int .i64 locks, .int .i64 nregs, .int .i64 mode, thr.v, words269.v, owner269.v, prints.v, .bool fell], .own 147 (⟨thr.v, tl.set (mv / 8) { nth tl (mv / 8) with wv := wait269.v }⟩ : Ls ThV), .own 210 wait269, .own 3 words269, .own 3 owner269, .blk b65 32 [.int .i64 ins.op, .int .i64 ins.a, .int .i64 ins.b, .int .i64 ins.c], .own 3 regs, .own 3 prints, .at_ code] := ⟨hf269, h267.sh.backL (Lp := [.blk g 125 [code.v, pw, .int .i64 locks, .int .i64 nregs, .int .i64 mode, thr.v, words.v, owner.v, prints.v, .bool fell], .own 147 (⟨thr.v, tl⟩ : Ls ThV), .own 210 wait, .own 3 words, .own 3 owner]) hs269 (by intro A hA b hb; simp only [List.mem_cons, List.not_mem_nil, or_false] at hA; rcases hA with rfl | rfl | rfl | rfl | rfl <;> first | exact (hb : False).elim | exact Flat.noRd hb | exact .inl ⟨_, List.mem_cons_self .., .inr hb⟩ | exact .inl ⟨_, by simp, .inr hb⟩)⟩
  clear hf269 hs269
  clear h267
  refine wpList_nil ?_
  try simp only [Exit.then, Exit.inBlock, if_true]
  refine x_end0 (fn := Try.f80) rfl h269 <| ⟨rfl, ⟨regs.v, regs.l⟩, ⟨wait269.v, wait269.l⟩, ⟨words269.v, words269.l⟩, ⟨owner269.v, owner269.l⟩, ⟨prints.v, prints.l⟩, (nth thr.l (mv / 8)).pc + 1, fell, ?_, ?_⟩
  · refine Eq.trans ?_ (doT_0 (by omega)).symm; show _ = execT mode (mv / 8) (nextIns (nth code.l (mv / 8)).l (nth thr.l (mv / 8)).pc) _; rw [← hins]; exact Eq.trans (store_eq hst) (execT_9 (by assumption)).symm
  ·have hz := (h269.sh.sel (L' := [.blk g 125 [code.v, pw, .int .i64 locks, .int .i64 nregs, .int .i64 mode, thr.v, words269.v, owner269.v, prints.v, .bool fell], .own 147 (⟨thr.v, tl.set (mv / 8) { nth tl (mv / 8) with wv := wait269.v }⟩ : Ls ThV), .own 3 regs, .own 210 wait269, .own 3 words269, .own 3 owner269, .own 3 prints, .at_ code]) [0, 1, 6, 2, 3, 4, 7, 8] (by decide) ⟨rfl, rfl, rfl, rfl, rfl, rfl, rfl, rfl, trivial⟩)
   rw [thset_wv ht htl] at hz; exact hz
 have hp253 : ¬ (ins.op = 9) := of_decide_eq_false hb253
 refine wp_seq_k fun K270 hK270 => wp_region_lit <| wv h252 (r_eqlI (p := ins.op) (q := 10) rfl rfl rfl) rfl rfl fun a271 h271 => wms 1 h271 rfl fun a272 h272 => wpList_nil <| hK270 _ _ ?_; clear h252 h271
 have h273 : St 384 K W a272 w76 [(0, .pointer (some ⟨g, 0, none⟩)), (4, .int .i64 ((mv / 8 : Nat) : Int)), (5, .pointer (some (padr thr.v 3 (mv / 8) 0))), (7, .pointer (some ⟨b65, 0, none⟩)), (9, regs.v), (70, .int .i64 ins.op), (201, .bool (decide (ins.op = 10)))] [.blk b65 32 [.int .i64 ins.op, .int .i64 ins.a, .int .i64 ins.b, .int .i64 ins.c], .blk g 125 [code.v, pw, .int .i64 locks, .int .i64 nregs, .int .i64 mode, thr.v, words.v, owner.v, prints.v, .bool fell], .own 147 (⟨thr.v, tl⟩ : Ls ThV), .own 3 regs, .own 210 wait, .own 3 words, .own 3 owner, .own 3 prints, .at_ code] := h272.nrm ⟨rfl, rfl, rfl, rfl, rfl, rfl, rfl, trivial⟩ [0, 1, 2, 3, 4, 5, 6, 7, 8] (by decide) ⟨rfl, rfl, rfl, rfl, rfl, rfl, rfl, rfl, rfl, trivial⟩
 clear h272
 refine x_cond h273 rfl (fun hb274 => ?_) (fun hb274 => ?_)
 ·have hp274 : ins.op = 10 := of_decide_eq_true hb274
  have q9 := hR.o10 (by omega)
  refine wp_seq_k fun K275 hK275 => wp_region_lit <| wms 2 h273 rfl fun a276 h276 => wv h276 (r_fieldB (r := 2) fl_32_2 rfl rfl rfl) rfl rfl fun a277 h277 => wv h277 (r_ldb (i := 0) ti_3 rfl rfl rfl rfl) rfl rfl fun a278 h278 => ?_; clear h273 h276 h277
  have hl279 : regs.l.length ≤ 140737488355328 := (h278.sh.own 3 rfl).len
  refine wv h278 (r_ixI (s := regs) (q := ins.b) sl_23 ti_3 rfl rfl rfl (fun w h => (h.own 3 rfl)) (show 0 ≤ ins.b ∧ ins.b < regs.l.length from (by omega))) rfl rfl fun a280 h280 => wv h280 (r_lde (s := regs) (i := ins.b.toNat) (v := .int .i64 (nth regs.l ins.b.toNat)) ti_3 rfl rfl rfl (fun w h => (h.own 3 rfl)) (show ins.b.toNat < regs.l.length from (by omega)) (Nat.le_of_ble_eq_true rfl) rfl) rfl rfl fun a281 h281 => ?_; clear h278 h280
  have h282 := h281.sel (L' := [.blk g 125 [code.v, pw, .int .i64 locks, .int .i64 nregs, .int .i64 mode, thr.v, words.v, owner.v, prints.v, .bool fell], .own 3 words, .blk b65 32 [.int .i64 ins.op, .int .i64 ins.a, .int .i64 ins.b, .int .i64 ins.c], .own 147 (⟨thr.v, tl⟩ : Ls ThV), .own 3 regs, .own 210 wait, .own 3 owner, .own 3 prints, .at_ code]) [1, 5, 0, 2, 3, 4, 6, 7, 8] (by decide) ⟨rfl, rfl, rfl, rfl, rfl, rfl, rfl, rfl, rfl, trivial⟩
  have hp283 := h282.sh.passL (Lp := [.blk g 125 [code.v, pw, .int .i64 locks, .int .i64 nregs, .int .i64 mode, thr.v, words.v, owner.v, prints.v, .bool fell], .own 3 words])
  refine wl_ex (x_call h282 bd_131 rfl rfl rfl rfl rfl (word_c _ _ (nth regs.l ins.b.toNat) _ _ _ _ _ _ _ _ _ _ _ hp283)) (wanted_none rfl _) ?_
  rintro a284 w284 ⟨_, ⟨rfl, hs284⟩, hf284⟩
  have h284 : St 384 K W a284 w284 _ [.blk g 125 [code.v, pw, .int .i64 locks, .int .i64 nregs, .int .i64 mode, thr.v, words.v, owner.v, prints.v, .bool (fell || !decide (0 ≤ nth regs.l ins.b.toNat ∧ nth regs.l ins.b.toNat < (words.l.length : Int)))], .own 3 words, .blk b65 32 [.int .i64 ins.op, .int .i64 ins.a, .int .i64 ins.b, .int .i64 ins.c], .own 147 (⟨thr.v, tl⟩ : Ls ThV), .own 3 regs, .own 210 wait, .own 3 owner, .own 3 prints, .at_ code] := ⟨hf284, h282.sh.backL (Lp := [.blk g 125 [code.v, pw, .int .i64 locks, .int .i64 nregs, .int .i64 mode, thr.v, words.v, owner.v, prints.v, .bool fell], .own 3 words]) hs284 (by intro A hA b hb; simp only [List.mem_cons, List.not_mem_nil, or_false] at hA; rcases hA with rfl | rfl <;> first | exact (hb : False).elim | exact Flat.noRd hb | exact .inl ⟨_, List.mem_cons_self .., .inr hb⟩ | exact .inl ⟨_, by simp, .inr hb⟩)⟩
  clear hf284 hs284
  clear h282
  refine wms 1 h284 rfl fun a285 h285 => wpList_nil <| hK275 _ _ <| wp_seq_k fun K286 hK286 => wp_region_lit <| wms 1 h285 rfl fun a287 h287 => wpList_nil <| hK286 _ _ <| x_cond h287 rfl (fun hb288 => ?_) (fun hb288 => ?_); clear h284 h285
  ·have hp288 : 0 ≤ nth regs.l ins.b.toNat ∧ nth regs.l ins.b.toNat < (words.l.length : Int) := of_decide_eq_true hb288
   refine x_tail 12 [] (by kernel_rfl) (by kernel_rfl) h287 fun Z289 hZ289 => ?_
   have hq289 := h287.fr
   refine wq_val hq289 (r_move rfl rfl) (wanted_none rfl _) rfl rfl fun a290 hq290 => wq_val hq290 (r_fieldB (r := 1) fl_32_1 rfl rfl rfl) (wanted_none rfl _) rfl rfl fun a291 hq291 => wq_val hq291 (r_ldb (i := 2) ti_3 rfl rfl rfl rfl) (wanted_none rfl _) rfl rfl fun a292 hq292 => wq_val hq292 (r_move rfl rfl) (wanted_none rfl _) rfl rfl fun a293 hq293 => wq_val hq293 (r_move rfl rfl) (wanted_none rfl _) rfl rfl fun a294 hq294 => wq_val hq294 (r_move rfl rfl) (wanted_none rfl _) rfl rfl fun a295 hq295 => wq_val hq295 (r_fieldB (r := 2) fl_32_2 rfl rfl rfl) (wanted_none rfl _) rfl rfl fun a296 hq296 => wq_val hq296 (r_ldb (i := 2) ti_3 rfl rfl rfl rfl) (wanted_none rfl _) rfl rfl fun a297 hq297 => wq_val hq297 (r_ixI (s := regs) (q := ins.b) sl_23 ti_3 rfl rfl rfl (fun w h => (h.own 4 rfl)) (show 0 ≤ ins.b ∧ ins.b < regs.l.length from (by omega))) (wanted_none rfl _) rfl rfl fun a298 hq298 => wq_val hq298 (r_lde (s := regs) (i := ins.b.toNat) (v := .int .i64 (nth regs.l ins.b.toNat)) ti_3 rfl rfl rfl (fun w h => (h.own 4 rfl)) (show ins.b.toNat < regs.l.length from (by omega)) (Nat.le_of_ble_eq_true rfl) rfl) (wanted_none rfl _) rfl rfl fun a299 hq299 => wq_call hq299 bd_129 rfl rfl rfl (wanted_none rfl _) rfl rfl (fun w h => (finds_c g (mv / 8) (nth regs.l ins.b.toNat) (⟨thr.v, tl⟩ : Ls ThV) words wait _ _ _ _ _ _ _ _ _ (h.blk 0 rfl) (h.own 3 rfl) (h.own 1 rfl) (h.own 5 rfl) (show mv / 8 < tl.length by omega) hwv2 (by omega))) fun a300 hq300 => wq_val hq300 (r_ixI (s := regs) (q := ins.a) sl_23 ti_3 rfl rfl rfl (fun w h => (h.own 4 rfl)) (show 0 ≤ ins.a ∧ ins.a < regs.l.length from (by omega))) (wanted_none rfl _) rfl rfl fun a301 hq301 => wpQuiet_nil (hZ289 _ fun w302 hw302 => ?_); clear hq289 hq290 hq291 hq292 hq293 hq294 hq295 hq296 hq297 hq298 hq299 hq300
   have h302 : St 384 K W a301 w302 _ _ := ⟨hq301, hw302⟩
   clear hq301 hw302 h287
   refine wl_ex (x_ste (r := 4) (i := ins.a.toNat) (j := 0) (x' := (findsL wait.l words.l (nth regs.l ins.b.toNat) : Int)) h302 ti_3 rfl rfl rfl rfl rfl (show ins.a.toNat < regs.l.length from (by omega)) (Nat.le_of_ble_eq_true rfl) rfl rfl rfl (by intro q hq; obtain rfl : q = 0 := (by omega); rfl) (fun w h => Flat.inner _ _) (fun b hb => (Flat.on _ _ hb).elim)) (wanted_none rfl _) ?_
   rintro a303 w303 h303
   clear h302
   refine wpList_nil ?_
   try simp only [Exit.then, Exit.inBlock, if_true]
   refine x_end0 (fn := Try.f80) rfl h303 ?_
   have hf9 : (fell || !decide (0 ≤ nth regs.l ins.b.toNat ∧ nth regs.l ins.b.toNat < (words.l.length : Int))) = fell := or_f hb288
   refine ⟨rfl, ⟨regs.v, regs.l.set ins.a.toNat (findsL wait.l words.l (nth regs.l ins.b.toNat))⟩, ⟨wait.v, wait.l⟩, ⟨words.v, words.l⟩, ⟨owner.v, owner.l⟩, ⟨prints.v, prints.l⟩, (nth thr.l (mv / 8)).pc + 1, fell, ?_, ?_⟩
   · refine Eq.trans ?_ (doT_0 (by omega)).symm; show _ = execT mode (mv / 8) (nextIns (nth code.l (mv / 8)).l (nth thr.l (mv / 8)).pc) _; rw [← hins]; first | (refine Eq.trans ?_ (execT_10t (by assumption) (by assumption)).symm; rfl) | (refine Eq.trans ?_ (execT_10f (by assumption) (by assumption)).symm; rfl)
   ·have hz := (h303.sh.sel (L' := [.blk g 125 [code.v, pw, .int .i64 locks, .int .i64 nregs, .int .i64 mode, thr.v, words.v, owner.v, prints.v, .bool (fell || !decide (0 ≤ nth regs.l ins.b.toNat ∧ nth regs.l ins.b.toNat < (words.l.length : Int)))], .own 147 (⟨thr.v, tl⟩ : Ls ThV), .own 3 (⟨regs.v, regs.l.set ins.a.toNat (findsL wait.l words.l (nth regs.l ins.b.toNat))⟩ : Ls Int), .own 210 wait, .own 3 words, .own 3 owner, .own 3 prints, .at_ code]) [0, 3, 4, 5, 1, 6, 7, 8] (by decide) ⟨rfl, rfl, rfl, rfl, rfl, rfl, rfl, rfl, trivial⟩)
    rw [hf9, htl] at hz; exact hz
  have hp288 : ¬ (0 ≤ nth regs.l ins.b.toNat ∧ nth regs.l ins.b.toNat < (words.l.length : Int)) := of_decide_eq_false hb288
  refine wp_skip ?_
  try simp only [Exit.then, Exit.inBlock, if_true]
  refine x_end0 (fn := Try.f80) rfl h287 ?_
  have hf9 : (fell || !decide (0 ≤ nth regs.l ins.b.toNat ∧ nth regs.l ins.b.toNat < (words.l.length : Int))) = true := or_t hb288
  refine ⟨rfl, ⟨regs.v, regs.l⟩, ⟨wait.v, wait.l⟩, ⟨words.v, words.l⟩, ⟨owner.v, owner.l⟩, ⟨prints.v, prints.l⟩, (nth thr.l (mv / 8)).pc + 1, true, ?_, ?_⟩
  · refine Eq.trans ?_ (doT_0 (by omega)).symm; show _ = execT mode (mv / 8) (nextIns (nth code.l (mv / 8)).l (nth thr.l (mv / 8)).pc) _; rw [← hins]; first | (refine Eq.trans ?_ (execT_10t (by assumption) (by assumption)).symm; rfl) | (refine Eq.trans ?_ (execT_10f (by assumption) (by assumption)).symm; rfl)
  ·have hz := (h287.sh.sel (L' := [.blk g 125 [code.v, pw, .int .i64 locks, .int .i64 nregs, .int .i64 mode, thr.v, words.v, owner.v, prints.v, .bool (fell || !decide (0 ≤ nth regs.l ins.b.toNat ∧ nth regs.l ins.b.toNat < (words.l.length : Int)))], .own 147 (⟨thr.v, tl⟩ : Ls ThV), .own 3 regs, .own 210 wait, .own 3 words, .own 3 owner, .own 3 prints, .at_ code]) [0, 3, 4, 5, 1, 6, 7, 8] (by decide) ⟨rfl, rfl, rfl, rfl, rfl, rfl, rfl, rfl, trivial⟩)
   rw [hf9, htl] at hz; exact hz
 have hp274 : ¬ (ins.op = 10) := of_decide_eq_false hb274
 refine wp_seq_k fun K304 hK304 => wp_region_lit <| wv h273 (r_eqlI (p := ins.op) (q := 11) rfl rfl rfl) rfl rfl fun a305 h305 => wms 1 h305 rfl fun a306 h306 => wpList_nil <| hK304 _ _ <| x_cond h306 rfl (fun hb307 => ?_) (fun hb307 => ?_); clear h273 h305
 ·have hp307 : ins.op = 11 := of_decide_eq_true hb307
  have q9 := hR.o10 (by omega)
  refine wp_seq_k fun K308 hK308 => wp_region_lit <| wms 2 h306 rfl fun a309 h309 => wv h309 (r_fieldB (r := 1) fl_32_1 rfl rfl rfl) rfl rfl fun a310 h310 => wv h310 (r_ldb (i := 0) ti_3 rfl rfl rfl rfl) rfl rfl fun a311 h311 => ?_; clear h306 h309 h310
  have hl312 : regs.l.length ≤ 140737488355328 := (h311.sh.own 3 rfl).len
  refine wv h311 (r_ixI (s := regs) (q := ins.a) sl_23 ti_3 rfl rfl rfl (fun w h => (h.own 3 rfl)) (show 0 ≤ ins.a ∧ ins.a < regs.l.length from (by omega))) rfl rfl fun a313 h313 => wv h313 (r_lde (s := regs) (i := ins.a.toNat) (v := .int .i64 (nth regs.l ins.a.toNat)) ti_3 rfl rfl rfl (fun w h => (h.own 3 rfl)) (show ins.a.toNat < regs.l.length from (by omega)) (Nat.le_of_ble_eq_true rfl) rfl) rfl rfl fun a314 h314 => ?_; clear h311 h313
  have h315 := h314.sel (L' := [.blk g 125 [code.v, pw, .int .i64 locks, .int .i64 nregs, .int .i64 mode, thr.v, words.v, owner.v, prints.v, .bool fell], .own 3 words, .blk b65 32 [.int .i64 ins.op, .int .i64 ins.a, .int .i64 ins.b, .int .i64 ins.c], .own 147 (⟨thr.v, tl⟩ : Ls ThV), .own 3 regs, .own 210 wait, .own 3 owner, .own 3 prints, .at_ code]) [1, 5, 0, 2, 3, 4, 6, 7, 8] (by decide) ⟨rfl, rfl, rfl, rfl, rfl, rfl, rfl, rfl, rfl, trivial⟩
  have hp316 := h315.sh.passL (Lp := [.blk g 125 [code.v, pw, .int .i64 locks, .int .i64 nregs, .int .i64 mode, thr.v, words.v, owner.v, prints.v, .bool fell], .own 3 words])
  refine wl_ex (x_call h315 bd_131 rfl rfl rfl rfl rfl (word_c _ _ (nth regs.l ins.a.toNat) _ _ _ _ _ _ _ _ _ _ _ hp316)) (wanted_none rfl _) ?_
  rintro a317 w317 ⟨_, ⟨rfl, hs317⟩, hf317⟩
  have h317 : St 384 K W a317 w317 _ [.blk g 125 [code.v, pw, .int .i64 locks, .int .i64 nregs, .int .i64 mode, thr.v, words.v, owner.v, prints.v, .bool (fell || !decide (0 ≤ nth regs.l ins.a.toNat ∧ nth regs.l ins.a.toNat < (words.l.length : Int)))], .own 3 words, .blk b65 32 [.int .i64 ins.op, .int .i64 ins.a, .int .i64 ins.b, .int .i64 ins.c], .own 147 (⟨thr.v, tl⟩ : Ls ThV), .own 3 regs, .own 210 wait, .own 3 owner, .own 3 prints, .at_ code] := ⟨hf317, h315.sh.backL (Lp := [.blk g 125 [code.v, pw, .int .i64 locks, .int .i64 nregs, .int .i64 mode, thr.v, words.v, owner.v, prints.v, .bool fell], .own 3 words]) hs317 (by intro A hA b hb; simp only [List.mem_cons, List.not_mem_nil, or_false] at hA; rcases hA with rfl | rfl <;> first | exact (hb : False).elim | exact Flat.noRd hb | exact .inl ⟨_, List.mem_cons_self .., .inr hb⟩ | exact .inl ⟨_, by simp, .inr hb⟩)⟩
  clear hf317 hs317
  clear h315
  refine wms 1 h317 rfl fun a318 h318 => wpList_nil <| hK308 _ _ <| wp_seq_k fun K319 hK319 => wp_region_lit <| wms 1 h318 rfl fun a320 h320 => wpList_nil <| hK319 _ _ <| x_cond h320 rfl (fun hb321 => ?_) (fun hb321 => ?_); clear h317 h318
  ·have hp321 : 0 ≤ nth regs.l ins.a.toNat ∧ nth regs.l ins.a.toNat < (words.l.length : Int) := of_decide_eq_true hb321
   refine x_tail 13 [] (by kernel_rfl) (by kernel_rfl) h320 fun Z322 hZ322 => ?_
   have hq322 := h320.fr
   refine wq_val hq322 (r_move rfl rfl) (wanted_none rfl _) rfl rfl fun a323 hq323 => wq_val hq323 (r_move rfl rfl) (wanted_none rfl _) rfl rfl fun a324 hq324 => wq_val hq324 (r_move rfl rfl) (wanted_none rfl _) rfl rfl fun a325 hq325 => wq_val hq325 (r_fieldB (r := 1) fl_32_1 rfl rfl rfl) (wanted_none rfl _) rfl rfl fun a326 hq326 => wq_val hq326 (r_ldb (i := 2) ti_3 rfl rfl rfl rfl) (wanted_none rfl _) rfl rfl fun a327 hq327 => wq_val hq327 (r_ixI (s := regs) (q := ins.a) sl_23 ti_3 rfl rfl rfl (fun w h => (h.own 4 rfl)) (show 0 ≤ ins.a ∧ ins.a < regs.l.length from (by omega))) (wanted_none rfl _) rfl rfl fun a328 hq328 => wq_val hq328 (r_lde (s := regs) (i := ins.a.toNat) (v := .int .i64 (nth regs.l ins.a.toNat)) ti_3 rfl rfl rfl (fun w h => (h.own 4 rfl)) (show ins.a.toNat < regs.l.length from (by omega)) (Nat.le_of_ble_eq_true rfl) rfl) (wanted_none rfl _) rfl rfl fun a329 hq329 => wq_val hq329 (r_move rfl rfl) (wanted_none rfl _) rfl rfl fun a330 hq330 => wq_val hq330 (r_fieldB (r := 2) fl_32_2 rfl rfl rfl) (wanted_none rfl _) rfl rfl fun a331 hq331 => wq_val hq331 (r_ldb (i := 2) ti_3 rfl rfl rfl rfl) (wanted_none rfl _) rfl rfl fun a332 hq332 => wq_val hq332 (r_ixI (s := regs) (q := ins.b) sl_23 ti_3 rfl rfl rfl (fun w h => (h.own 4 rfl)) (show 0 ≤ ins.b ∧ ins.b < regs.l.length from (by omega))) (wanted_none rfl _) rfl rfl fun a333 hq333 => wq_val hq333 (r_lde (s := regs) (i := ins.b.toNat) (v := .int .i64 (nth regs.l ins.b.toNat)) ti_3 rfl rfl rfl (fun w h => (h.own 4 rfl)) (show ins.b.toNat < regs.l.length from (by omega)) (Nat.le_of_ble_eq_true rfl) rfl) (wanted_none rfl _) rfl rfl fun a334 hq334 => wq_val hq334 (r_build (cs := [.bool false, .int .i64 (nth regs.l ins.a.toNat), .int .i64 (nth regs.l ins.b.toNat)]) rfl rfl (by kernel_rfl)) (wanted_none rfl _) rfl rfl fun a335 hq335 => wpQuiet_nil (hZ322 _ fun w336 hw336 => ?_); clear hq322 hq323 hq324 hq325 hq326 hq327 hq328 hq329 hq330 hq331 hq332 hq333 hq334
   have h336 : St 384 K W a335 w336 _ _ := ⟨hq335, hw336⟩
   clear hq335 hw336 h320
   have h337 := h336.sel (L' := [.blk g 125 [code.v, pw, .int .i64 locks, .int .i64 nregs, .int .i64 mode, thr.v, words.v, owner.v, prints.v, .bool (fell || !decide (0 ≤ nth regs.l ins.a.toNat ∧ nth regs.l ins.a.toNat < (words.l.length : Int)))], .own 147 (⟨thr.v, tl⟩ : Ls ThV), .own 210 wait, .own 3 words, .own 3 owner, .blk b65 32 [.int .i64 ins.op, .int .i64 ins.a, .int .i64 ins.b, .int .i64 ins.c], .own 3 regs, .own 3 prints, .at_ code]) [0, 3, 5, 1, 6, 2, 4, 7, 8] (by decide) ⟨rfl, rfl, rfl, rfl, rfl, rfl, rfl, rfl, rfl, trivial⟩
   have hp338 := h337.sh.passL (Lp := [.blk g 125 [code.v, pw, .int .i64 locks, .int .i64 nregs, .int .i64 mode, thr.v, words.v, owner.v, prints.v, .bool (fell || !decide (0 ≤ nth regs.l ins.a.toNat ∧ nth regs.l ins.a.toNat < (words.l.length : Int)))], .own 147 (⟨thr.v, tl⟩ : Ls ThV), .own 210 wait, .own 3 words, .own 3 owner])
   refine wl_ex (x_call h337 bd_130 rfl rfl rfl rfl rfl (store_c _ _ (mv / 8) (⟨false, nth regs.l ins.a.toNat, nth regs.l ins.b.toNat⟩ : Wt) (⟨thr.v, tl⟩ : Ls ThV) wait words owner _ _ _ _ _ _ _ _ hp338 (by first | (simp only [if_true]; omega) | (simp only [Bool.false_eq_true, if_false]; omega)) (show mv / 8 < tl.length by omega) hwv2 (by omega))) (wanted_none rfl _) ?_
   rintro a339 w339 ⟨_, ⟨rfl, wait339, words339, owner339, hst, hs339⟩, hf339⟩
   have h339 : St 384 K W a339 w339 _ [.blk g 125 [code.v, pw, .int .i64 locks, .int .i64 nregs, .int .i64 mode, thr.v, words339.v, owner339.v, prints.v, .bool (fell || !decide (0 ≤ nth regs.l ins.a.toNat ∧ nth regs.l ins.a.toNat < (words.l.length : Int)))], .own 147 (⟨thr.v, tl.set (mv / 8) { nth tl (mv / 8) with wv := wait339.v }⟩ : Ls ThV), .own 210 wait339, .own 3 words339, .own 3 owner339, .blk b65 32 [.int .i64 ins.op, .int .i64 ins.a, .int .i64 ins.b, .int .i64 ins.c], .own 3 regs, .own 3 prints, .at_ code] := ⟨hf339, h337.sh.backL (Lp := [.blk g 125 [code.v, pw, .int .i64 locks, .int .i64 nregs, .int .i64 mode, thr.v, words.v, owner.v, prints.v, .bool (fell || !decide (0 ≤ nth regs.l ins.a.toNat ∧ nth regs.l ins.a.toNat < (words.l.length : Int)))], .own 147 (⟨thr.v, tl⟩ : Ls ThV), .own 210 wait, .own 3 words, .own 3 owner]) hs339 (by intro A hA b hb; simp only [List.mem_cons, List.not_mem_nil, or_false] at hA; rcases hA with rfl | rfl | rfl | rfl | rfl <;> first | exact (hb : False).elim | exact Flat.noRd hb | exact .inl ⟨_, List.mem_cons_self .., .inr hb⟩ | exact .inl ⟨_, by simp, .inr hb⟩)⟩
   clear hf339 hs339
   clear h337
   refine wpList_nil ?_
   try simp only [Exit.then, Exit.inBlock, if_true]
   refine x_end0 (fn := Try.f80) rfl h339 ?_
   have hf9 : (fell || !decide (0 ≤ nth regs.l ins.a.toNat ∧ nth regs.l ins.a.toNat < (words.l.length : Int))) = fell := or_f hb321
   refine ⟨rfl, ⟨regs.v, regs.l⟩, ⟨wait339.v, wait339.l⟩, ⟨words339.v, words339.l⟩, ⟨owner339.v, owner339.l⟩, ⟨prints.v, prints.l⟩, (nth thr.l (mv / 8)).pc + 1, fell, ?_, ?_⟩
   · refine Eq.trans ?_ (doT_0 (by omega)).symm; show _ = execT mode (mv / 8) (nextIns (nth code.l (mv / 8)).l (nth thr.l (mv / 8)).pc) _; rw [← hins]; first | exact Eq.trans (store_eq hst) (execT_11t (by assumption) (by assumption)).symm | (refine Eq.trans ?_ (execT_11f (by assumption) (by assumption)).symm; rfl)
   ·have hz := (h339.sh.sel (L' := [.blk g 125 [code.v, pw, .int .i64 locks, .int .i64 nregs, .int .i64 mode, thr.v, words339.v, owner339.v, prints.v, .bool (fell || !decide (0 ≤ nth regs.l ins.a.toNat ∧ nth regs.l ins.a.toNat < (words.l.length : Int)))], .own 147 (⟨thr.v, tl.set (mv / 8) { nth tl (mv / 8) with wv := wait339.v }⟩ : Ls ThV), .own 3 regs, .own 210 wait339, .own 3 words339, .own 3 owner339, .own 3 prints, .at_ code]) [0, 1, 6, 2, 3, 4, 7, 8] (by decide) ⟨rfl, rfl, rfl, rfl, rfl, rfl, rfl, rfl, trivial⟩)
    rw [hf9, thset_wv ht htl] at hz; exact hz
  have hp321 : ¬ (0 ≤ nth regs.l ins.a.toNat ∧ nth regs.l ins.a.toNat < (words.l.length : Int)) := of_decide_eq_false hb321
  refine wp_skip ?_
  try simp only [Exit.then, Exit.inBlock, if_true]
  refine x_end0 (fn := Try.f80) rfl h320 ?_
  have hf9 : (fell || !decide (0 ≤ nth regs.l ins.a.toNat ∧ nth regs.l ins.a.toNat < (words.l.length : Int))) = true := or_t hb321
  refine ⟨rfl, ⟨regs.v, regs.l⟩, ⟨wait.v, wait.l⟩, ⟨words.v, words.l⟩, ⟨owner.v, owner.l⟩, ⟨prints.v, prints.l⟩, (nth thr.l (mv / 8)).pc + 1, true, ?_, ?_⟩
  · refine Eq.trans ?_ (doT_0 (by omega)).symm; show _ = execT mode (mv / 8) (nextIns (nth code.l (mv / 8)).l (nth thr.l (mv / 8)).pc) _; rw [← hins]; first | exact Eq.trans (store_eq hst) (execT_11t (by assumption) (by assumption)).symm | (refine Eq.trans ?_ (execT_11f (by assumption) (by assumption)).symm; rfl)
  ·have hz := (h320.sh.sel (L' := [.blk g 125 [code.v, pw, .int .i64 locks, .int .i64 nregs, .int .i64 mode, thr.v, words.v, owner.v, prints.v, .bool (fell || !decide (0 ≤ nth regs.l ins.a.toNat ∧ nth regs.l ins.a.toNat < (words.l.length : Int)))], .own 147 (⟨thr.v, tl⟩ : Ls ThV), .own 3 regs, .own 210 wait, .own 3 words, .own 3 owner, .own 3 prints, .at_ code]) [0, 3, 4, 5, 1, 6, 7, 8] (by decide) ⟨rfl, rfl, rfl, rfl, rfl, rfl, rfl, rfl, trivial⟩)
   rw [hf9, htl] at hz; exact hz
 have hp307 : ¬ (ins.op = 11) := of_decide_eq_false hb307
 refine wp_seq_k fun K340 hK340 => wp_region_lit <| wv h306 (r_eqlI (p := ins.op) (q := 13) rfl rfl rfl) rfl rfl fun a341 h341 => wms 1 h341 rfl fun a342 h342 => wpList_nil <| hK340 _ _ <| x_cond h342 rfl (fun hb343 => ?_) (fun hb343 => ?_); clear h306 h341
 ·have hp343 : ins.op = 13 := of_decide_eq_true hb343
  have q9 := hR.o13 (by omega)
  refine wp_seq_k fun K344 hK344 => x_quiet (by kernel_rfl) (by kernel_rfl) h342 fun Z345 hZ345 => ?_
  have hq345 := h342.fr
  refine wq_val hq345 (r_move rfl rfl) (wanted_none rfl _) rfl rfl fun a346 hq346 => wq_val hq346 (r_nil rfl rfl) (wanted_none rfl _) rfl rfl fun a347 hq347 => wq_val hq347 (r_fieldB (r := 6) fl_125_3 rfl rfl rfl) (wanted_none rfl _) rfl rfl fun a348 hq348 => wq_val hq348 (r_ldb (i := 1) ti_23 rfl rfl rfl rfl) (wanted_none rfl _) rfl rfl fun a349 hq349 => wq_val hq349 (r_fieldB (r := 1) fl_32_1 rfl rfl rfl) (wanted_none rfl _) rfl rfl fun a350 hq350 => wq_val hq350 (r_ldb (i := 0) ti_3 rfl rfl rfl rfl) (wanted_none rfl _) rfl rfl fun a351 hq351 => ?_; clear hq345 hq346 hq347 hq348 hq349 hq350
  have hl352 : words.l.length ≤ 140737488355328 := (h342.sh.own 5 rfl).len
  refine wq_val hq351 (r_ixI (s := words) (q := ins.a) sl_23 ti_3 rfl rfl rfl (fun w h => (h.own 5 rfl)) (show 0 ≤ ins.a ∧ ins.a < words.l.length from (by omega))) (wanted_none rfl _) rfl rfl fun a353 hq353 => wq_val hq353 (r_lde (s := words) (i := ins.a.toNat) (v := .int .i64 (nth words.l ins.a.toNat)) ti_3 rfl rfl rfl (fun w h => (h.own 5 rfl)) (show ins.a.toNat < words.l.length from (by omega)) (Nat.le_of_ble_eq_true rfl) rfl) (wanted_none rfl _) rfl rfl fun a354 hq354 => wq_val hq354 (r_move rfl rfl) (wanted_none rfl _) rfl rfl fun a355 hq355 => wq_val hq355 (r_fieldB (r := 2) fl_32_2 rfl rfl rfl) (wanted_none rfl _) rfl rfl fun a356 hq356 => wq_val hq356 (r_ldb (i := 0) ti_3 rfl rfl rfl rfl) (wanted_none rfl _) rfl rfl fun a357 hq357 => ?_; clear hq351 hq353 hq354 hq355 hq356
  have hl358 : regs.l.length ≤ 140737488355328 := (h342.sh.own 3 rfl).len
  refine wq_val hq357 (r_ixI (s := regs) (q := ins.b) sl_23 ti_3 rfl rfl rfl (fun w h => (h.own 3 rfl)) (show 0 ≤ ins.b ∧ ins.b < regs.l.length from (by omega))) (wanted_none rfl _) rfl rfl fun a359 hq359 => wq_val hq359 (r_lde (s := regs) (i := ins.b.toNat) (v := .int .i64 (nth regs.l ins.b.toNat)) ti_3 rfl rfl rfl (fun w h => (h.own 3 rfl)) (show ins.b.toNat < regs.l.length from (by omega)) (Nat.le_of_ble_eq_true rfl) rfl) (wanted_none rfl _) rfl rfl fun a360 hq360 => wq_val hq360 (r_eqlI (p := nth words.l ins.a.toNat) (q := nth regs.l ins.b.toNat) rfl rfl rfl) (wanted_none rfl _) rfl rfl fun a361 hq361 => wpQuiet_nil (hZ345 _ fun w362 hw362 => ?_); clear hq357 hq359 hq360
  have h362 : St 384 K W a361 w362 _ _ := ⟨hq361, hw362⟩
  clear hq361 hw362 h342
  refine hK344 _ _ <| x_cond h362 rfl (fun hb363 => ?_) (fun hb363 => ?_)
  ·have hp363 : nth words.l ins.a.toNat = nth regs.l ins.b.toNat := of_decide_eq_true hb363
   have q9 := hR.o13 (by omega)
   refine wp_seq_k fun K364 hK364 => x_tail 12 [] (by kernel_rfl) (by kernel_rfl) h362 fun Z365 hZ365 => ?_
   have hq365 := h362.fr
   refine wq_val hq365 (r_move rfl rfl) (wanted_none rfl _) rfl rfl fun a366 hq366 => wq_val hq366 (r_nil rfl rfl) (wanted_none rfl _) rfl rfl fun a367 hq367 => wq_val hq367 (r_fieldB (r := 6) fl_125_3 rfl rfl rfl) (wanted_none rfl _) rfl rfl fun a368 hq368 => wq_val hq368 (r_ldb (i := 1) ti_23 rfl rfl rfl rfl) (wanted_none rfl _) rfl rfl fun a369 hq369 => wq_val hq369 (r_fieldB (r := 1) fl_32_1 rfl rfl rfl) (wanted_none rfl _) rfl rfl fun a370 hq370 => wq_val hq370 (r_ldb (i := 0) ti_3 rfl rfl rfl rfl) (wanted_none rfl _) rfl rfl fun a371 hq371 => wq_val hq371 (r_move rfl rfl) (wanted_none rfl _) rfl rfl fun a372 hq372 => wq_val hq372 (r_fieldB (r := 3) fl_32_3 rfl rfl rfl) (wanted_none rfl _) rfl rfl fun a373 hq373 => wq_val hq373 (r_ldb (i := 0) ti_3 rfl rfl rfl rfl) (wanted_none rfl _) rfl rfl fun a374 hq374 => wq_val hq374 (r_ixI (s := regs) (q := ins.c) sl_23 ti_3 rfl rfl rfl (fun w h => (h.own 3 rfl)) (show 0 ≤ ins.c ∧ ins.c < regs.l.length from (by omega))) (wanted_none rfl _) rfl rfl fun a375 hq375 => wq_val hq375 (r_lde (s := regs) (i := ins.c.toNat) (v := .int .i64 (nth regs.l ins.c.toNat)) ti_3 rfl rfl rfl (fun w h => (h.own 3 rfl)) (show ins.c.toNat < regs.l.length from (by omega)) (Nat.le_of_ble_eq_true rfl) rfl) (wanted_none rfl _) rfl rfl fun a376 hq376 => wq_val hq376 (r_ixI (s := words) (q := ins.a) sl_23 ti_3 rfl rfl rfl (fun w h => (h.own 5 rfl)) (show 0 ≤ ins.a ∧ ins.a < words.l.length from (by omega))) (wanted_none rfl _) rfl rfl fun a377 hq377 => wpQuiet_nil (hZ365 _ fun w378 hw378 => ?_); clear hq365 hq366 hq367 hq368 hq369 hq370 hq371 hq372 hq373 hq374 hq375 hq376
   have h378 : St 384 K W a377 w378 _ _ := ⟨hq377, hw378⟩
   clear hq377 hw378 h362
   refine wl_ex (x_ste (r := 5) (i := ins.a.toNat) (j := 0) (x' := (nth regs.l ins.c.toNat : Int)) h378 ti_3 rfl rfl rfl rfl rfl (show ins.a.toNat < words.l.length from (by omega)) (Nat.le_of_ble_eq_true rfl) rfl rfl rfl (by intro q hq; obtain rfl : q = 0 := (by omega); rfl) (fun w h => Flat.inner _ _) (fun b hb => (Flat.on _ _ hb).elim)) (wanted_none rfl _) ?_
   rintro a379 w379 h379
   clear h378
   refine wpList_nil <| hK364 _ _ ?_
   have h380 : St 384 K W a379 w379 [(7, .pointer (some ⟨b65, 0, none⟩)), (9, regs.v)] [.blk b65 32 [.int .i64 ins.op, .int .i64 ins.a, .int .i64 ins.b, .int .i64 ins.c], .blk g 125 [code.v, pw, .int .i64 locks, .int .i64 nregs, .int .i64 mode, thr.v, words.v, owner.v, prints.v, .bool fell], .own 147 (⟨thr.v, tl⟩ : Ls ThV), .own 3 regs, .own 210 wait, .own 3 (⟨words.v, words.l.set ins.a.toNat (nth regs.l ins.c.toNat)⟩ : Ls Int), .own 3 owner, .own 3 prints, .at_ code] := h379.nrm ⟨rfl, rfl, trivial⟩ [0, 1, 2, 3, 4, 5, 6, 7, 8] (by decide) ⟨rfl, rfl, rfl, rfl, rfl, rfl, rfl, rfl, rfl, trivial⟩
   clear h379
   refine wp_region_lit <| wms 1 h380 rfl fun a381 h381 => wv h381 (r_fieldB (r := 2) fl_32_2 rfl rfl rfl) rfl rfl fun a382 h382 => wv h382 (r_ldb (i := 0) ti_3 rfl rfl rfl rfl) rfl rfl fun a383 h383 => wv h383 (r_ixI (s := regs) (q := ins.b) sl_23 ti_3 rfl rfl rfl (fun w h => (h.own 3 rfl)) (show 0 ≤ ins.b ∧ ins.b < regs.l.length from (by omega))) rfl rfl fun a384 h384 => wl_ex (x_ste (r := 3) (i := ins.b.toNat) (j := 0) (x' := (1 : Int)) h384 ti_3 rfl rfl rfl rfl rfl (show ins.b.toNat < regs.l.length from (by omega)) (Nat.le_of_ble_eq_true rfl) rfl rfl rfl (by intro q hq; obtain rfl : q = 0 := (by omega); rfl) (fun w h => Flat.inner _ _) (fun b hb => (Flat.on _ _ hb).elim)) (wanted_none rfl _) ?_; clear h380 h381 h382 h383
   rintro a385 w385 h385
   clear h384
   refine wpList_nil ?_
   try simp only [Exit.then, Exit.inBlock, if_true]
   refine x_end0 (fn := Try.f80) rfl h385 <| ⟨rfl, ⟨regs.v, regs.l.set ins.b.toNat 1⟩, ⟨wait.v, wait.l⟩, ⟨words.v, words.l.set ins.a.toNat (nth regs.l ins.c.toNat)⟩, ⟨owner.v, owner.l⟩, ⟨prints.v, prints.l⟩, (nth thr.l (mv / 8)).pc + 1, fell, ?_, ?_⟩
   · refine Eq.trans ?_ (doT_0 (by omega)).symm; show _ = execT mode (mv / 8) (nextIns (nth code.l (mv / 8)).l (nth thr.l (mv / 8)).pc) _; rw [← hins]; first | (refine Eq.trans ?_ (execT_13t (by assumption) (by assumption)).symm; rfl) | (refine Eq.trans ?_ (execT_13f (by assumption) (by assumption)).symm; rfl)
   ·have hz := (h385.sh.sel (L' := [.blk g 125 [code.v, pw, .int .i64 locks, .int .i64 nregs, .int .i64 mode, thr.v, words.v, owner.v, prints.v, .bool fell], .own 147 (⟨thr.v, tl⟩ : Ls ThV), .own 3 (⟨regs.v, regs.l.set ins.b.toNat 1⟩ : Ls Int), .own 210 wait, .own 3 (⟨words.v, words.l.set ins.a.toNat (nth regs.l ins.c.toNat)⟩ : Ls Int), .own 3 owner, .own 3 prints, .at_ code]) [1, 2, 3, 4, 5, 6, 7, 8] (by decide) ⟨rfl, rfl, rfl, rfl, rfl, rfl, rfl, rfl, trivial⟩)
    rw [htl] at hz; exact hz
  have hp363 : ¬ (nth words.l ins.a.toNat = nth regs.l ins.b.toNat) := of_decide_eq_false hb363
  refine wp_region_lit <| wms 1 h362 rfl fun a386 h386 => wv h386 (r_fieldB (r := 2) fl_32_2 rfl rfl rfl) rfl rfl fun a387 h387 => wv h387 (r_ldb (i := 0) ti_3 rfl rfl rfl rfl) rfl rfl fun a388 h388 => wv h388 (r_ixI (s := regs) (q := ins.b) sl_23 ti_3 rfl rfl rfl (fun w h => (h.own 3 rfl)) (show 0 ≤ ins.b ∧ ins.b < regs.l.length from (by omega))) rfl rfl fun a389 h389 => wl_ex (x_ste (r := 3) (i := ins.b.toNat) (j := 0) (x' := (0 : Int)) h389 ti_3 rfl rfl rfl rfl rfl (show ins.b.toNat < regs.l.length from (by omega)) (Nat.le_of_ble_eq_true rfl) rfl rfl rfl (by intro q hq; obtain rfl : q = 0 := (by omega); rfl) (fun w h => Flat.inner _ _) (fun b hb => (Flat.on _ _ hb).elim)) (wanted_none rfl _) ?_; clear h362 h386 h387 h388
  rintro a390 w390 h390
  clear h389
  refine wpList_nil ?_
  try simp only [Exit.then, Exit.inBlock, if_true]
  refine x_end0 (fn := Try.f80) rfl h390 <| ⟨rfl, ⟨regs.v, regs.l.set ins.b.toNat 0⟩, ⟨wait.v, wait.l⟩, ⟨words.v, words.l⟩, ⟨owner.v, owner.l⟩, ⟨prints.v, prints.l⟩, (nth thr.l (mv / 8)).pc + 1, fell, ?_, ?_⟩
  · refine Eq.trans ?_ (doT_0 (by omega)).symm; show _ = execT mode (mv / 8) (nextIns (nth code.l (mv / 8)).l (nth thr.l (mv / 8)).pc) _; rw [← hins]; first | (refine Eq.trans ?_ (execT_13t (by assumption) (by assumption)).symm; rfl) | (refine Eq.trans ?_ (execT_13f (by assumption) (by assumption)).symm; rfl)
  ·have hz := (h390.sh.sel (L' := [.blk g 125 [code.v, pw, .int .i64 locks, .int .i64 nregs, .int .i64 mode, thr.v, words.v, owner.v, prints.v, .bool fell], .own 147 (⟨thr.v, tl⟩ : Ls ThV), .own 3 (⟨regs.v, regs.l.set ins.b.toNat 0⟩ : Ls Int), .own 210 wait, .own 3 words, .own 3 owner, .own 3 prints, .at_ code]) [1, 2, 3, 4, 5, 6, 7, 8] (by decide) ⟨rfl, rfl, rfl, rfl, rfl, rfl, rfl, rfl, trivial⟩)
   rw [htl] at hz; exact hz
 have hp343 : ¬ (ins.op = 13) := of_decide_eq_false hb343
 refine wp_seq_k fun K391 hK391 => wp_region_lit <| wv h342 (r_eqlI (p := ins.op) (q := 14) rfl rfl rfl) rfl rfl fun a392 h392 => wms 1 h392 rfl fun a393 h393 => wpList_nil <| hK391 _ _ <| x_cond h393 rfl (fun hb394 => ?_) (fun hb394 => ?_); clear h342 h392
 ·have hp394 : ins.op = 14 := of_decide_eq_true hb394
  refine wp_region_lit <| wms 1 h393 rfl fun a395 h395 => wv h395 (r_fieldB (r := 1) fl_32_1 rfl rfl rfl) rfl rfl fun a396 h396 => wv h396 (r_ldb (i := 0) ti_3 rfl rfl rfl rfl) rfl rfl fun a397 h397 => wv h397 (r_nil rfl rfl) rfl rfl fun a398 h398 => wv h398 (r_fieldE (r := 0) fl_147_0 rfl rfl rfl) rfl rfl fun a399 h399 => wl_ex (x_ste (s := (⟨thr.v, tl⟩ : Ls ThV)) (r := 2) (i := mv / 8) (j := 0) (x' := ({ nth tl (mv / 8) with pc := ins.a } : ThV)) h399 ti_3 rfl rfl rfl rfl rfl (show mv / 8 < tl.length from (by omega)) (Nat.le_of_ble_eq_true rfl) rfl rfl rfl (by intro q hq; rcases q with _ | _ | _ | q <;> first | rfl | omega) (fun w h => Flat.inner _ _) (fun b hb => (Flat.on _ _ hb).elim)) (wanted_none rfl _) ?_; clear h393 h395 h396 h397 h398
  rintro a400 w400 h400
  clear h399
  refine wpList_nil ?_
  try simp only [Exit.then, Exit.inBlock, if_true]
  refine x_end0 (fn := Try.f80) rfl h400 <| ⟨rfl, ⟨regs.v, regs.l⟩, ⟨wait.v, wait.l⟩, ⟨words.v, words.l⟩, ⟨owner.v, owner.l⟩, ⟨prints.v, prints.l⟩, ins.a, fell, ?_, ?_⟩
  · refine Eq.trans ?_ (doT_0 (by omega)).symm; show _ = execT mode (mv / 8) (nextIns (nth code.l (mv / 8)).l (nth thr.l (mv / 8)).pc) _; rw [← hins]; (refine Eq.trans ?_ (execT_14 (by assumption)).symm; rfl)
  ·have hz := (h400.sh.sel (L' := [.blk g 125 [code.v, pw, .int .i64 locks, .int .i64 nregs, .int .i64 mode, thr.v, words.v, owner.v, prints.v, .bool fell], .own 147 (⟨thr.v, tl.set (mv / 8) ({ nth tl (mv / 8) with pc := ins.a })⟩ : Ls ThV), .own 3 regs, .own 210 wait, .own 3 words, .own 3 owner, .own 3 prints, .at_ code]) [1, 2, 3, 4, 5, 6, 7, 8] (by decide) ⟨rfl, rfl, rfl, rfl, rfl, rfl, rfl, rfl, trivial⟩)
   rw [thset_pc ht htl] at hz; exact hz
 have hp394 : ¬ (ins.op = 14) := of_decide_eq_false hb394
 refine wp_seq_k fun K401 hK401 => wp_region_lit <| wv h393 (r_eqlI (p := ins.op) (q := 15) rfl rfl rfl) rfl rfl fun a402 h402 => wms 1 h402 rfl fun a403 h403 => wpList_nil <| hK401 _ _ <| x_cond h403 rfl (fun hb404 => ?_) (fun hb404 => ?_); clear h393 h402
 ·have hp404 : ins.op = 15 := of_decide_eq_true hb404
  have q9 := hR.o15 (by omega)
  refine wp_seq_k fun K405 hK405 => wp_region_lit <| wms 1 h403 rfl fun a406 h406 => wv h406 (r_fieldB (r := 1) fl_32_1 rfl rfl rfl) rfl rfl fun a407 h407 => wv h407 (r_ldb (i := 0) ti_3 rfl rfl rfl rfl) rfl rfl fun a408 h408 => ?_; clear h403 h406 h407
  have hl409 : regs.l.length ≤ 140737488355328 := (h408.sh.own 3 rfl).len
  refine wv h408 (r_ixI (s := regs) (q := ins.a) sl_23 ti_3 rfl rfl rfl (fun w h => (h.own 3 rfl)) (show 0 ≤ ins.a ∧ ins.a < regs.l.length from (by omega))) rfl rfl fun a410 h410 => wv h410 (r_lde (s := regs) (i := ins.a.toNat) (v := .int .i64 (nth regs.l ins.a.toNat)) ti_3 rfl rfl rfl (fun w h => (h.own 3 rfl)) (show ins.a.toNat < regs.l.length from (by omega)) (Nat.le_of_ble_eq_true rfl) rfl) rfl rfl fun a411 h411 => wv h411 (r_eqlI (p := nth regs.l ins.a.toNat) (q := 0) rfl rfl rfl) rfl rfl fun a412 h412 => wpList_nil <| hK405 _ _ <| x_cond h412 rfl (fun hb413 => ?_) (fun hb413 => ?_); clear h408 h410 h411
  ·have hp413 : nth regs.l ins.a.toNat = 0 := of_decide_eq_true hb413
   refine wp_region_lit <| wms 1 h412 rfl fun a414 h414 => wv h414 (r_fieldB (r := 2) fl_32_2 rfl rfl rfl) rfl rfl fun a415 h415 => wv h415 (r_ldb (i := 0) ti_3 rfl rfl rfl rfl) rfl rfl fun a416 h416 => wv h416 (r_nil rfl rfl) rfl rfl fun a417 h417 => wv h417 (r_fieldE (r := 0) fl_147_0 rfl rfl rfl) rfl rfl fun a418 h418 => wl_ex (x_ste (s := (⟨thr.v, tl⟩ : Ls ThV)) (r := 2) (i := mv / 8) (j := 0) (x' := ({ nth tl (mv / 8) with pc := ins.b } : ThV)) h418 ti_3 rfl rfl rfl rfl rfl (show mv / 8 < tl.length from (by omega)) (Nat.le_of_ble_eq_true rfl) rfl rfl rfl (by intro q hq; rcases q with _ | _ | _ | q <;> first | rfl | omega) (fun w h => Flat.inner _ _) (fun b hb => (Flat.on _ _ hb).elim)) (wanted_none rfl _) ?_; clear h412 h414 h415 h416 h417
   rintro a419 w419 h419
   clear h418
   refine wpList_nil ?_
   try simp only [Exit.then, Exit.inBlock, if_true]
   refine x_end0 (fn := Try.f80) rfl h419 <| ⟨rfl, ⟨regs.v, regs.l⟩, ⟨wait.v, wait.l⟩, ⟨words.v, words.l⟩, ⟨owner.v, owner.l⟩, ⟨prints.v, prints.l⟩, ins.b, fell, ?_, ?_⟩
   · refine Eq.trans ?_ (doT_0 (by omega)).symm; show _ = execT mode (mv / 8) (nextIns (nth code.l (mv / 8)).l (nth thr.l (mv / 8)).pc) _; rw [← hins]; first | (refine Eq.trans ?_ (execT_15t (by assumption) (by assumption)).symm; rfl) | (refine Eq.trans ?_ (execT_15f (by assumption) (by assumption)).symm; rfl)
   ·have hz := (h419.sh.sel (L' := [.blk g 125 [code.v, pw, .int .i64 locks, .int .i64 nregs, .int .i64 mode, thr.v, words.v, owner.v, prints.v, .bool fell], .own 147 (⟨thr.v, tl.set (mv / 8) ({ nth tl (mv / 8) with pc := ins.b })⟩ : Ls ThV), .own 3 regs, .own 210 wait, .own 3 words, .own 3 owner, .own 3 prints, .at_ code]) [1, 2, 3, 4, 5, 6, 7, 8] (by decide) ⟨rfl, rfl, rfl, rfl, rfl, rfl, rfl, rfl, trivial⟩)
    rw [thset_pc ht htl] at hz; exact hz
  have hp413 : ¬ (nth regs.l ins.a.toNat = 0) := of_decide_eq_false hb413
  refine wp_skip ?_
  try simp only [Exit.then, Exit.inBlock, if_true]
  refine x_end0 (fn := Try.f80) rfl h412 <| ⟨rfl, ⟨regs.v, regs.l⟩, ⟨wait.v, wait.l⟩, ⟨words.v, words.l⟩, ⟨owner.v, owner.l⟩, ⟨prints.v, prints.l⟩, (nth thr.l (mv / 8)).pc + 1, fell, ?_, ?_⟩
  · refine Eq.trans ?_ (doT_0 (by omega)).symm; show _ = execT mode (mv / 8) (nextIns (nth code.l (mv / 8)).l (nth thr.l (mv / 8)).pc) _; rw [← hins]; first | (refine Eq.trans ?_ (execT_15t (by assumption) (by assumption)).symm; rfl) | (refine Eq.trans ?_ (execT_15f (by assumption) (by assumption)).symm; rfl)
  ·have hz := (h412.sh.sel (L' := [.blk g 125 [code.v, pw, .int .i64 locks, .int .i64 nregs, .int .i64 mode, thr.v, words.v, owner.v, prints.v, .bool fell], .own 147 (⟨thr.v, tl⟩ : Ls ThV), .own 3 regs, .own 210 wait, .own 3 words, .own 3 owner, .own 3 prints, .at_ code]) [1, 2, 3, 4, 5, 6, 7, 8] (by decide) ⟨rfl, rfl, rfl, rfl, rfl, rfl, rfl, rfl, trivial⟩)
   rw [htl] at hz; exact hz
 have hp404 : ¬ (ins.op = 15) := of_decide_eq_false hb404
 refine wp_seq_k fun K420 hK420 => wp_region_lit <| wv h403 (r_eqlI (p := ins.op) (q := 16) rfl rfl rfl) rfl rfl fun a421 h421 => wms 1 h421 rfl fun a422 h422 => wpList_nil <| hK420 _ _ <| x_cond h422 rfl (fun hb423 => ?_) (fun hb423 => ?_); clear h403 h421
 ·have hp423 : ins.op = 16 := of_decide_eq_true hb423
  have q9 := hR.o15 (by omega)
  have h424 : St 384 K W a422 w76 [(0, .pointer (some ⟨g, 0, none⟩)), (4, .int .i64 ((mv / 8 : Nat) : Int)), (5, .pointer (some (padr thr.v 3 (mv / 8) 0))), (7, .pointer (some ⟨b65, 0, none⟩)), (9, regs.v), (70, .int .i64 ins.op), (201, .bool (decide (ins.op = 10))), (223, .bool (decide (ins.op = 11))), (224, .bool (decide (ins.op = 11))), (247, .bool (decide (ins.op = 13))), (248, .bool (decide (ins.op = 13))), (283, .bool (decide (ins.op = 14))), (284, .bool (decide (ins.op = 14))), (290, .bool (decide (ins.op = 15))), (291, .bool (decide (ins.op = 15))), (303, .bool (decide (ins.op = 16))), (304, .bool (decide (ins.op = 16)))] [.blk b65 32 [.int .i64 ins.op, .int .i64 ins.a, .int .i64 ins.b, .int .i64 ins.c], .blk g 125 [code.v, pw, .int .i64 locks, .int .i64 nregs, .int .i64 mode, thr.v, words.v, owner.v, prints.v, .bool fell], .own 147 (⟨thr.v, tl⟩ : Ls ThV), .own 3 regs, .own 210 wait, .own 3 words, .own 3 owner, .own 3 prints, .at_ code] := h422.nrm ⟨rfl, rfl, rfl, rfl, rfl, rfl, rfl, rfl, rfl, rfl, rfl, rfl, rfl, rfl, rfl, rfl, rfl, trivial⟩ [0, 1, 2, 3, 4, 5, 6, 7, 8] (by decide) ⟨rfl, rfl, rfl, rfl, rfl, rfl, rfl, rfl, rfl, trivial⟩
  clear h422
  refine x_any ((fun Φ Ψ S a w => (S 11 = false ∧ S 12 = false ∧ S 15 = false ∧ FrI 384 S Φ Ψ a ∧ Sh K W w [.blk b65 32 [.int .i64 ins.op, .int .i64 ins.a, .int .i64 ins.b, .int .i64 ins.c], .blk g 125 [code.v, pw, .int .i64 locks, .int .i64 nregs, .int .i64 mode, thr.v, words.v, owner.v, prints.v, .bool fell], .own 147 (⟨thr.v, tl⟩ : Ls ThV), .own 3 regs, .own 210 wait, .own 3 words, .own 3 owner, .own 3 prints, .at_ code]) ∨ (S 11 = true ∧ S 12 = false ∧ S 15 = false ∧ ∃ (v7011 : Value), FrI 384 S Φ (Ψ ++ [(11, 316, v7011)]) a ∧ Sh K W w [.own 3 (⟨v7011, [((mv / 8 : Nat) : Int), nth regs.l ins.a.toNat]⟩ : Ls Int), .blk b65 32 [.int .i64 ins.op, .int .i64 ins.a, .int .i64 ins.b, .int .i64 ins.c], .blk g 125 [code.v, pw, .int .i64 locks, .int .i64 nregs, .int .i64 mode, thr.v, words.v, owner.v, prints.v, .bool fell], .own 147 (⟨thr.v, tl⟩ : Ls ThV), .own 3 regs, .own 210 wait, .own 3 words, .own 3 owner, .own 3 prints, .at_ code]) ∨ (S 11 = true ∧ S 12 = true ∧ S 15 = false ∧ ∃ (v7011 : Value) (v7012 : Value), FrI 384 S Φ (Ψ ++ [(11, 316, v7011), (12, 317, v7012), (13, 318, .pointer (some ⟨g, 0, none⟩)), (14, 319, .pointer (some ⟨g, 8, none⟩))]) a ∧ Sh K W w [.own 3 (⟨v7011, [((mv / 8 : Nat) : Int), nth regs.l ins.a.toNat]⟩ : Ls Int), .blk b65 32 [.int .i64 ins.op, .int .i64 ins.a, .int .i64 ins.b, .int .i64 ins.c], .blk g 125 [code.v, pw, .int .i64 locks, .int .i64 nregs, .int .i64 mode, thr.v, words.v, owner.v, prints.v, .bool fell], .own 147 (⟨thr.v, tl⟩ : Ls ThV), .own 3 regs, .own 210 wait, .own 3 words, .own 3 owner, .own 3 (⟨v7012, prints.l ++ ([((mv / 8 : Nat) : Int), nth regs.l ins.a.toNat])⟩ : Ls Int), .at_ code]) ∨ (S 11 = true ∧ S 12 = true ∧ S 15 = true ∧ ∃ (v7011 : Value) (v7012 : Value), FrI 384 S Φ (Ψ ++ [(11, 316, v7011), (12, 317, v7012), (13, 318, .pointer (some ⟨g, 0, none⟩)), (14, 319, .pointer (some ⟨g, 8, none⟩))]) a ∧ Sh K W w [.own 3 (⟨v7011, [((mv / 8 : Nat) : Int), nth regs.l ins.a.toNat]⟩ : Ls Int), .blk b65 32 [.int .i64 ins.op, .int .i64 ins.a, .int .i64 ins.b, .int .i64 ins.c], .blk g 125 [code.v, pw, .int .i64 locks, .int .i64 nregs, .int .i64 mode, thr.v, words.v, owner.v, v7012, .bool fell], .own 147 (⟨thr.v, tl⟩ : Ls ThV), .own 3 regs, .own 210 wait, .own 3 words, .own 3 owner, .own 3 (⟨v7012, prints.l ++ ([((mv / 8 : Nat) : Int), nth regs.l ins.a.toNat])⟩ : Ls Int), .at_ code])) [(0, .pointer (some ⟨g, 0, none⟩)), (4, .int .i64 ((mv / 8 : Nat) : Int)), (5, .pointer (some (padr thr.v 3 (mv / 8) 0))), (7, .pointer (some ⟨b65, 0, none⟩)), (9, regs.v), (70, .int .i64 ins.op), (201, .bool (decide (ins.op = 10))), (223, .bool (decide (ins.op = 11))), (224, .bool (decide (ins.op = 11))), (247, .bool (decide (ins.op = 13))), (248, .bool (decide (ins.op = 13))), (283, .bool (decide (ins.op = 14))), (284, .bool (decide (ins.op = 14))), (290, .bool (decide (ins.op = 15))), (291, .bool (decide (ins.op = 15))), (303, .bool (decide (ins.op = 16))), (304, .bool (decide (ins.op = 16)))] [(0, 305, .pointer (some ⟨g, 0, none⟩)), (1, 306, .pointer (some ⟨g, 0, none⟩)), (2, 307, .pointer (some ⟨g, 0, none⟩)), (3, 308, .pointer (some ⟨g, 8, none⟩)), (4, 309, prints.v), (5, 310, .int .i64 ((mv / 8 : Nat) : Int)), (6, 311, regs.v), (7, 312, .pointer (some ⟨b65, 1, none⟩)), (8, 313, .int .i64 ins.a), (9, 314, .pointer (some (padr regs.v 1 ins.a.toNat 0))), (10, 315, .int .i64 (nth regs.l ins.a.toNat))]) (by kernel_rfl) (by kernel_rfl) (Or.inl (⟨rfl, rfl, rfl, FrI.start h424.fr, h424.sh.drew⟩)) ?_ ?_
  ·intro S i o ho hSi hcl hdep a w hI
   clear h424
   rcases i with _ | _ | _ | _ | _ | _ | _ | _ | _ | _ | _ | _ | _ | _ | _ | _ | i
   ·obtain rfl : _ = o := Option.some.inj ho
    rcases hI with ⟨ν11, ν12, ν15, φ, ς⟩ | ⟨ν11, ν12, ν15, v7011, φ, ς⟩ | ⟨ν11, ν12, ν15, v7011, v7012, φ, ς⟩ | ⟨_, _, ν15, _⟩
    ·exact sq φ φ.fr0 ς (r_move rfl rfl) 0 rfl rfl rfl rfl rfl rfl fun a hg => Or.inl (⟨un rfl ν11, un rfl ν12, un rfl ν15, hg, ς⟩)
    ·exact sq φ φ.fr0 ς (r_move rfl rfl) 0 rfl rfl rfl rfl rfl rfl fun a hg => Or.inr (Or.inl (⟨un rfl ν11, un rfl ν12, un rfl ν15, v7011, hg, ς⟩))
    ·exact sq φ φ.fr0 ς (r_move rfl rfl) 0 rfl rfl rfl rfl rfl rfl fun a hg => Or.inr (Or.inr (Or.inl (⟨un rfl ν11, un rfl ν12, un rfl ν15, v7011, v7012, hg, ς⟩)))
    ·exact no_way (cA hcl 15 0 rfl ν15) hSi
   ·obtain rfl : _ = o := Option.some.inj ho
    rcases hI with ⟨ν11, ν12, ν15, φ, ς⟩ | ⟨ν11, ν12, ν15, v7011, φ, ς⟩ | ⟨_, ν12, _⟩ | ⟨_, ν12, _⟩
    ·exact sq φ φ.fr0 ς (r_move rfl rfl) 1 rfl rfl rfl rfl rfl rfl fun a hg => Or.inl (⟨un rfl ν11, un rfl ν12, un rfl ν15, hg, ς⟩)
    ·exact sq φ φ.fr0 ς (r_move rfl rfl) 1 rfl rfl rfl rfl rfl rfl fun a hg => Or.inr (Or.inl (⟨un rfl ν11, un rfl ν12, un rfl ν15, v7011, hg, ς⟩))
    ·exact no_way (cA hcl 12 1 rfl ν12) hSi
    ·exact no_way (cA hcl 12 1 rfl ν12) hSi
   ·obtain rfl : _ = o := Option.some.inj ho
    have hd1 : S 1 = true := depAt hdep 0 rfl rfl
    rcases hI with ⟨ν11, ν12, ν15, φ, ς⟩ | ⟨ν11, ν12, ν15, v7011, φ, ς⟩ | ⟨_, ν12, _⟩ | ⟨_, ν12, _⟩
    ·exact sq φ (Fr.cons φ.fr0 (φ.at_ 1 1 306 _ rfl hd1)) ς (r_nil rfl rfl) 2 rfl rfl rfl rfl rfl rfl fun a hg => Or.inl (⟨un rfl ν11, un rfl ν12, un rfl ν15, hg, ς⟩)
    ·exact sq φ (Fr.cons φ.fr0 (φ.at_ 1 1 306 _ rfl hd1)) ς (r_nil rfl rfl) 2 rfl rfl rfl rfl rfl rfl fun a hg => Or.inr (Or.inl (⟨un rfl ν11, un rfl ν12, un rfl ν15, v7011, hg, ς⟩))
    ·exact no_way (cA hcl 12 2 rfl ν12) hSi
    ·exact no_way (cA hcl 12 2 rfl ν12) hSi
   ·obtain rfl : _ = o := Option.some.inj ho
    have hd2 : S 2 = true := depAt hdep 0 rfl rfl
    rcases hI with ⟨ν11, ν12, ν15, φ, ς⟩ | ⟨ν11, ν12, ν15, v7011, φ, ς⟩ | ⟨_, ν12, _⟩ | ⟨_, ν12, _⟩
    ·exact sq φ (Fr.cons φ.fr0 (φ.at_ 2 2 307 _ rfl hd2)) ς (r_fieldB (r := 8) fl_125_5 rfl rfl rfl) 3 rfl rfl rfl rfl rfl rfl fun a hg => Or.inl (⟨un rfl ν11, un rfl ν12, un rfl ν15, hg, ς⟩)
    ·exact sq φ (Fr.cons φ.fr0 (φ.at_ 2 2 307 _ rfl hd2)) ς (r_fieldB (r := 8) fl_125_5 rfl rfl rfl) 3 rfl rfl rfl rfl rfl rfl fun a hg => Or.inr (Or.inl (⟨un rfl ν11, un rfl ν12, un rfl ν15, v7011, hg, ς⟩))
    ·exact no_way (cA hcl 12 3 rfl ν12) hSi
    ·exact no_way (cA hcl 12 3 rfl ν12) hSi
   ·obtain rfl : _ = o := Option.some.inj ho
    have hd3 : S 3 = true := depAt hdep 0 rfl rfl
    rcases hI with ⟨ν11, ν12, ν15, φ, ς⟩ | ⟨ν11, ν12, ν15, v7011, φ, ς⟩ | ⟨_, ν12, _⟩ | ⟨_, ν12, _⟩
    ·exact sq φ (Fr.cons φ.fr0 (φ.at_ 3 3 308 _ rfl hd3)) ς (r_ldb (i := 1) ti_23 rfl rfl rfl rfl) 4 rfl rfl rfl rfl rfl rfl fun a hg => Or.inl (⟨un rfl ν11, un rfl ν12, un rfl ν15, hg, ς⟩)
    ·exact sq φ (Fr.cons φ.fr0 (φ.at_ 3 3 308 _ rfl hd3)) ς (r_ldb (i := 2) ti_23 rfl rfl rfl rfl) 4 rfl rfl rfl rfl rfl rfl fun a hg => Or.inr (Or.inl (⟨un rfl ν11, un rfl ν12, un rfl ν15, v7011, hg, ς⟩))
    ·exact no_way (cA hcl 12 4 rfl ν12) hSi
    ·exact no_way (cA hcl 12 4 rfl ν12) hSi
   ·obtain rfl : _ = o := Option.some.inj ho
    rcases hI with ⟨ν11, ν12, ν15, φ, ς⟩ | ⟨ν11, _⟩ | ⟨ν11, _⟩ | ⟨ν11, _⟩
    ·exact sq φ φ.fr0 ς (r_move rfl rfl) 5 rfl rfl rfl rfl rfl rfl fun a hg => Or.inl (⟨un rfl ν11, un rfl ν12, un rfl ν15, hg, ς⟩)
    ·exact no_way (cA hcl 11 5 rfl ν11) hSi
    ·exact no_way (cA hcl 11 5 rfl ν11) hSi
    ·exact no_way (cA hcl 11 5 rfl ν11) hSi
   ·obtain rfl : _ = o := Option.some.inj ho
    rcases hI with ⟨ν11, ν12, ν15, φ, ς⟩ | ⟨ν11, _⟩ | ⟨ν11, _⟩ | ⟨ν11, _⟩
    ·exact sq φ φ.fr0 ς (r_move rfl rfl) 6 rfl rfl rfl rfl rfl rfl fun a hg => Or.inl (⟨un rfl ν11, un rfl ν12, un rfl ν15, hg, ς⟩)
    ·exact no_way (cA hcl 11 6 rfl ν11) hSi
    ·exact no_way (cA hcl 11 6 rfl ν11) hSi
    ·exact no_way (cA hcl 11 6 rfl ν11) hSi
   ·obtain rfl : _ = o := Option.some.inj ho
    rcases hI with ⟨ν11, ν12, ν15, φ, ς⟩ | ⟨ν11, _⟩ | ⟨ν11, _⟩ | ⟨ν11, _⟩
    ·exact sq φ φ.fr0 ς (r_fieldB (r := 1) fl_32_1 rfl rfl rfl) 7 rfl rfl rfl rfl rfl rfl fun a hg => Or.inl (⟨un rfl ν11, un rfl ν12, un rfl ν15, hg, ς⟩)
    ·exact no_way (cA hcl 11 7 rfl ν11) hSi
    ·exact no_way (cA hcl 11 7 rfl ν11) hSi
    ·exact no_way (cA hcl 11 7 rfl ν11) hSi
   ·obtain rfl : _ = o := Option.some.inj ho
    have hd7 : S 7 = true := depAt hdep 0 rfl rfl
    rcases hI with ⟨ν11, ν12, ν15, φ, ς⟩ | ⟨ν11, _⟩ | ⟨ν11, _⟩ | ⟨ν11, _⟩
    ·exact sq φ (Fr.cons φ.fr0 (φ.at_ 7 7 312 _ rfl hd7)) ς (r_ldb (i := 0) ti_3 rfl rfl rfl rfl) 8 rfl rfl rfl rfl rfl rfl fun a hg => Or.inl (⟨un rfl ν11, un rfl ν12, un rfl ν15, hg, ς⟩)
    ·exact no_way (cA hcl 11 8 rfl ν11) hSi
    ·exact no_way (cA hcl 11 8 rfl ν11) hSi
    ·exact no_way (cA hcl 11 8 rfl ν11) hSi
   ·obtain rfl : _ = o := Option.some.inj ho
    have hd6 : S 6 = true := depAt hdep 0 rfl rfl
    have hd8 : S 8 = true := depAt hdep 1 rfl rfl
    rcases hI with ⟨ν11, ν12, ν15, φ, ς⟩ | ⟨ν11, _⟩ | ⟨ν11, _⟩ | ⟨ν11, _⟩
    ·have hs := St.mk (Fr.cons (Fr.cons φ.fr0 (φ.at_ 6 6 311 _ rfl hd6)) (φ.at_ 8 8 313 _ rfl hd8)) ς
     have hl445 : regs.l.length ≤ 140737488355328 := (hs.sh.own 3 rfl).len
     exact sq φ (Fr.cons (Fr.cons φ.fr0 (φ.at_ 6 6 311 _ rfl hd6)) (φ.at_ 8 8 313 _ rfl hd8)) ς (r_ixI (s := regs) (q := ins.a) sl_23 ti_3 rfl rfl rfl (fun w h => (h.own 3 rfl)) (show 0 ≤ ins.a ∧ ins.a < regs.l.length from (by omega))) 9 rfl rfl rfl rfl rfl rfl fun a hg => Or.inl (⟨un rfl ν11, un rfl ν12, un rfl ν15, hg, ς⟩)
    ·exact no_way (cA hcl 11 9 rfl ν11) hSi
    ·exact no_way (cA hcl 11 9 rfl ν11) hSi
    ·exact no_way (cA hcl 11 9 rfl ν11) hSi
   ·obtain rfl : _ = o := Option.some.inj ho
    have hd9 : S 9 = true := depAt hdep 0 rfl rfl
    rcases hI with ⟨ν11, ν12, ν15, φ, ς⟩ | ⟨ν11, _⟩ | ⟨ν11, _⟩ | ⟨ν11, _⟩
    ·exact sq φ (Fr.cons φ.fr0 (φ.at_ 9 9 314 _ rfl hd9)) ς (r_lde (s := regs) (i := ins.a.toNat) (v := .int .i64 (nth regs.l ins.a.toNat)) ti_3 rfl rfl rfl (fun w h => (h.own 3 rfl)) (show ins.a.toNat < regs.l.length from (by omega)) (Nat.le_of_ble_eq_true rfl) rfl) 10 rfl rfl rfl rfl rfl rfl fun a hg => Or.inl (⟨un rfl ν11, un rfl ν12, un rfl ν15, hg, ς⟩)
    ·exact no_way (cA hcl 11 10 rfl ν11) hSi
    ·exact no_way (cA hcl 11 10 rfl ν11) hSi
    ·exact no_way (cA hcl 11 10 rfl ν11) hSi
   ·obtain rfl : _ = o := Option.some.inj ho
    have hd5 : S 5 = true := depAt hdep 0 rfl rfl
    have hd10 : S 10 = true := depAt hdep 1 rfl rfl
    rcases hI with ⟨ν11, ν12, ν15, φ, ς⟩ | ⟨ν11, _⟩ | ⟨ν11, _⟩ | ⟨ν11, _⟩
    ·have hs := St.mk (Fr.cons (Fr.cons φ.fr0 (φ.at_ 5 5 310 _ rfl hd5)) (φ.at_ 10 10 315 _ rfl hd10)) ς
     refine step_ex (x_lit (n := 2) (cs := [.int .i64 ((mv / 8 : Nat) : Int), .int .i64 (nth regs.l ins.a.toNat)]) ([((mv / 8 : Nat) : Int), nth regs.l ins.a.toNat] : List Int) hs sl_23 ti_3 rfl rfl rfl (by decide) rfl (by kernel_rfl) rfl (fun q hq w h => Flat.inner _ _) (fun q hq b hb => (Flat.on _ _ hb).elim) rfl rfl) (wanted_none rfl _) ?_
     rintro a448 w448 ⟨v448, h448⟩ ⟨v0, ht448⟩
     exact Or.inr (Or.inl (⟨upd_self _ _, un rfl ν12, un rfl ν15, v448, φ.stepW hcl hSi [0, 1, 2, 3, 4, 5, 6, 7, 8, 9, 10] (by kernel_rfl) (by kernel_rfl) ht448 h448.fr.defers (h448.fr.at_ 316 _ rfl) 11 rfl rfl rfl rfl, (h448.sh.sel (L' := [.own 3 (⟨v448, [((mv / 8 : Nat) : Int), nth regs.l ins.a.toNat]⟩ : Ls Int), .blk b65 32 [.int .i64 ins.op, .int .i64 ins.a, .int .i64 ins.b, .int .i64 ins.c], .blk g 125 [code.v, pw, .int .i64 locks, .int .i64 nregs, .int .i64 mode, thr.v, words.v, owner.v, prints.v, .bool fell], .own 147 (⟨thr.v, tl⟩ : Ls ThV), .own 3 regs, .own 210 wait, .own 3 words, .own 3 owner, .own 3 prints, .at_ code]) [0, 1, 2, 3, 4, 5, 6, 7, 8, 9] (by decide) ⟨rfl, rfl, rfl, rfl, rfl, rfl, rfl, rfl, rfl, rfl, trivial⟩)⟩))
    ·exact no_way ν11 hSi
    ·exact no_way ν11 hSi
    ·exact no_way ν11 hSi
   ·obtain rfl : _ = o := Option.some.inj ho
    have hd4 : S 4 = true := depAt hdep 0 rfl rfl
    have hd11 : S 11 = true := depAt hdep 1 rfl rfl
    rcases hI with ⟨ν11, _⟩ | ⟨ν11, ν12, ν15, v7011, φ, ς⟩ | ⟨_, ν12, _⟩ | ⟨_, ν12, _⟩
    ·exact no_way hd11 ν11
    ·have hs := St.mk (Fr.cons (Fr.cons φ.fr0 (φ.at_ 4 4 309 _ rfl hd4)) (φ.at_ 11 11 316 _ rfl hd11)) ς
     refine step_ex (x_app (r := 8) (rm := 0) (s := prints) (m := (⟨v7011, [((mv / 8 : Nat) : Int), nth regs.l ins.a.toNat]⟩ : Ls Int)) hs sl_23 ti_3 rfl rfl rfl rfl rfl rfl rfl (fun w h => (h.own 0 rfl)) (fun b hb => own_on (hs.sh.ok _ (List.mem_of_getElem? (i := 0) rfl)) hb) (fun q hq b hb => ⟨q, hq, hb⟩) rfl rfl rfl inferInstance (show (prints.l.length + ([((mv / 8 : Nat) : Int), nth regs.l ins.a.toNat]).length) * 8 ≤ 140737488355328 ∧ prints.l.length + ([((mv / 8 : Nat) : Int), nth regs.l ins.a.toNat]).length ≤ 140737488355328 from (by first | omega | (simp only [lens9]; omega))) rfl rfl) (wanted_none rfl _) ?_
     rintro a449 w449 ⟨v449, h449⟩ ⟨v0, ht449⟩
     exact Or.inr (Or.inr (Or.inl (⟨un rfl ν11, upd_self _ _, un rfl ν15, v7011, v449, φ.stepW hcl hSi [0, 1, 2, 3, 4, 5, 6, 7, 8, 9, 10, 11] (by kernel_rfl) (by kernel_rfl) ht449 h449.fr.defers (h449.fr.at_ 317 _ rfl) 12 rfl rfl rfl rfl, (h449.sh.sel (L' := [.own 3 (⟨v7011, [((mv / 8 : Nat) : Int), nth regs.l ins.a.toNat]⟩ : Ls Int), .blk b65 32 [.int .i64 ins.op, .int .i64 ins.a, .int .i64 ins.b, .int .i64 ins.c], .blk g 125 [code.v, pw, .int .i64 locks, .int .i64 nregs, .int .i64 mode, thr.v, words.v, owner.v, prints.v, .bool fell], .own 147 (⟨thr.v, tl⟩ : Ls ThV), .own 3 regs, .own 210 wait, .own 3 words, .own 3 owner, .own 3 (⟨v449, prints.l ++ ([((mv / 8 : Nat) : Int), nth regs.l ins.a.toNat])⟩ : Ls Int), .at_ code]) [0, 1, 2, 3, 4, 5, 6, 7, 8, 9] (by decide) ⟨rfl, rfl, rfl, rfl, rfl, rfl, rfl, rfl, rfl, rfl, trivial⟩)⟩)))
    ·exact no_way ν12 hSi
    ·exact no_way ν12 hSi
   ·obtain rfl : _ = o := Option.some.inj ho
    have hd0 : S 0 = true := depAt hdep 0 rfl rfl
    have hd11 : S 11 = true := depAt hdep 12 rfl rfl
    have hd12 : S 12 = true := depAt hdep 13 rfl rfl
    rcases hI with ⟨ν11, _⟩ | ⟨_, ν12, _⟩ | ⟨ν11, ν12, ν15, v7011, v7012, φ, ς⟩ | ⟨_, _, ν15, _⟩
    ·exact no_way hd11 ν11
    ·exact no_way hd12 ν12
    ·exact sq φ (Fr.cons φ.fr0 (φ.at_ 0 0 305 _ rfl hd0)) ς (r_nil rfl rfl) 13 rfl rfl rfl rfl rfl rfl fun a hg => Or.inr (Or.inr (Or.inl (⟨un rfl ν11, un rfl ν12, un rfl ν15, v7011, v7012, hg, ς⟩)))
    ·exact no_way (cA hcl 15 13 rfl ν15) hSi
   ·obtain rfl : _ = o := Option.some.inj ho
    have hd13 : S 13 = true := depAt hdep 0 rfl rfl
    have hd11 : S 11 = true := depAt hdep 12 rfl rfl
    have hd12 : S 12 = true := depAt hdep 13 rfl rfl
    rcases hI with ⟨ν11, _⟩ | ⟨_, ν12, _⟩ | ⟨ν11, ν12, ν15, v7011, v7012, φ, ς⟩ | ⟨_, _, ν15, _⟩
    ·exact no_way hd11 ν11
    ·exact no_way hd12 ν12
    ·exact sq φ (Fr.cons φ.fr0 (φ.at_ 13 13 318 _ rfl hd13)) ς (r_fieldB (r := 8) fl_125_5 rfl rfl rfl) 14 rfl rfl rfl rfl rfl rfl fun a hg => Or.inr (Or.inr (Or.inl (⟨un rfl ν11, un rfl ν12, un rfl ν15, v7011, v7012, hg, ς⟩)))
    ·exact no_way (cA hcl 15 14 rfl ν15) hSi
   ·obtain rfl : _ = o := Option.some.inj ho
    have hd14 : S 14 = true := depAt hdep 0 rfl rfl
    have hd12 : S 12 = true := depAt hdep 1 rfl rfl
    have hd11 : S 11 = true := depAt hdep 14 rfl rfl
    rcases hI with ⟨ν11, _⟩ | ⟨_, ν12, _⟩ | ⟨ν11, ν12, ν15, v7011, v7012, φ, ς⟩ | ⟨_, _, ν15, _⟩
    ·exact no_way hd11 ν11
    ·exact no_way hd12 ν12
    ·have hs := St.mk (Fr.cons (Fr.cons φ.fr0 (φ.at_ 12 12 317 _ rfl hd12)) (φ.at_ 14 14 319 _ rfl hd14)) ς
     refine step_ex (x_stb (i := 2) (vs := [v7012]) (cs' := [code.v, pw, .int .i64 locks, .int .i64 nregs, .int .i64 mode, thr.v, words.v, owner.v, v7012, .bool fell]) hs ti_23 rfl rfl rfl rfl rfl (cells_oneL ((hs.sh.own 8 rfl)).one) rfl (allOne_cons ((hs.sh.own 8 rfl)).one allOne_nil) (Nat.le_of_ble_eq_true rfl) rfl) (wanted_none rfl _) ?_
     rintro a452 w452 h452 ⟨v0, ht452⟩
     exact Or.inr (Or.inr (Or.inr (⟨un rfl ν11, un rfl ν12, upd_self _ _, v7011, v7012, φ.noneW hcl hSi [0, 1, 2, 3, 4, 5, 6, 7, 8, 9, 10, 11, 12, 13, 14] (by kernel_rfl) (by kernel_rfl) ht452 h452.fr.defers rfl, (h452.sh.sel (L' := [.own 3 (⟨v7011, [((mv / 8 : Nat) : Int), nth regs.l ins.a.toNat]⟩ : Ls Int), .blk b65 32 [.int .i64 ins.op, .int .i64 ins.a, .int .i64 ins.b, .int .i64 ins.c], .blk g 125 [code.v, pw, .int .i64 locks, .int .i64 nregs, .int .i64 mode, thr.v, words.v, owner.v, v7012, .bool fell], .own 147 (⟨thr.v, tl⟩ : Ls ThV), .own 3 regs, .own 210 wait, .own 3 words, .own 3 owner, .own 3 (⟨v7012, prints.l ++ ([((mv / 8 : Nat) : Int), nth regs.l ins.a.toNat])⟩ : Ls Int), .at_ code]) [0, 1, 2, 3, 4, 5, 6, 7, 8, 9] (by decide) ⟨rfl, rfl, rfl, rfl, rfl, rfl, rfl, rfl, rfl, rfl, trivial⟩)⟩)))
    ·exact no_way ν15 hSi
   · simp at ho
  intro S hall a w hI
  clear h424
  rcases hI with ⟨ν11, ν12, ν15, φ, ς⟩ | ⟨ν11, ν12, ν15, v7011, φ, ς⟩ | ⟨ν11, ν12, ν15, v7011, v7012, φ, ς⟩ | ⟨ν11, ν12, ν15, v7011, v7012, φ, ς⟩
  · exact no_way (hall 11 (by decide)) ν11
  · exact no_way (hall 12 (by decide)) ν12
  · exact no_way (hall 15 (by decide)) ν15
  have h453 : St 384 K W a w _ [.own 3 (⟨v7011, [((mv / 8 : Nat) : Int), nth regs.l ins.a.toNat]⟩ : Ls Int), .blk b65 32 [.int .i64 ins.op, .int .i64 ins.a, .int .i64 ins.b, .int .i64 ins.c], .blk g 125 [code.v, pw, .int .i64 locks, .int .i64 nregs, .int .i64 mode, thr.v, words.v, owner.v, v7012, .bool fell], .own 147 (⟨thr.v, tl⟩ : Ls ThV), .own 3 regs, .own 210 wait, .own 3 words, .own 3 owner, .own 3 (⟨v7012, prints.l ++ ([((mv / 8 : Nat) : Int), nth regs.l ins.a.toNat])⟩ : Ls Int), .at_ code] := ⟨φ.fr0, ς⟩
  clear hall φ ς ν11 ν12 ν15
  try simp only [Exit.then, Exit.inBlock, if_true]
  refine x_end0 (fn := Try.f80) rfl h453 <| ⟨rfl, ⟨regs.v, regs.l⟩, ⟨wait.v, wait.l⟩, ⟨words.v, words.l⟩, ⟨owner.v, owner.l⟩, ⟨v7012, prints.l ++ ([((mv / 8 : Nat) : Int), nth regs.l ins.a.toNat])⟩, (nth thr.l (mv / 8)).pc + 1, fell, ?_, ?_⟩
  · refine Eq.trans ?_ (doT_0 (by omega)).symm; show _ = execT mode (mv / 8) (nextIns (nth code.l (mv / 8)).l (nth thr.l (mv / 8)).pc) _; rw [← hins]; (refine Eq.trans ?_ (execT_16 (by assumption)).symm; rfl)
  ·have hz := (h453.sh.sel (L' := [.blk g 125 [code.v, pw, .int .i64 locks, .int .i64 nregs, .int .i64 mode, thr.v, words.v, owner.v, v7012, .bool fell], .own 147 (⟨thr.v, tl⟩ : Ls ThV), .own 3 regs, .own 210 wait, .own 3 words, .own 3 owner, .own 3 (⟨v7012, prints.l ++ ([((mv / 8 : Nat) : Int), nth regs.l ins.a.toNat])⟩ : Ls Int), .at_ code]) [2, 3, 4, 5, 6, 7, 8, 9] (by decide) ⟨rfl, rfl, rfl, rfl, rfl, rfl, rfl, rfl, trivial⟩)
   rw [htl] at hz; exact hz
 have hp423 : ¬ (ins.op = 16) := of_decide_eq_false hb423
 refine wp_seq_k fun K454 hK454 => wp_region_lit <| wv h422 (r_eqlI (p := ins.op) (q := 17) rfl rfl rfl) rfl rfl fun a455 h455 => wms 1 h455 rfl fun a456 h456 => wpList_nil <| hK454 _ _ <| x_cond h456 rfl (fun hb457 => ?_) (fun hb457 => ?_); clear h422 h455
 ·have hp457 : ins.op = 17 := of_decide_eq_true hb457
  have q9 := hR.o17 (by omega)
  refine x_tail 8 [] (by kernel_rfl) (by kernel_rfl) h456 fun Z458 hZ458 => ?_
  have hq458 := h456.fr
  refine wq_val hq458 (r_move rfl rfl) (wanted_none rfl _) rfl rfl fun a459 hq459 => wq_val hq459 (r_nil rfl rfl) (wanted_none rfl _) rfl rfl fun a460 hq460 => wq_val hq460 (r_fieldB (r := 7) fl_125_4 rfl rfl rfl) (wanted_none rfl _) rfl rfl fun a461 hq461 => wq_val hq461 (r_ldb (i := 1) ti_23 rfl rfl rfl rfl) (wanted_none rfl _) rfl rfl fun a462 hq462 => wq_val hq462 (r_fieldB (r := 1) fl_32_1 rfl rfl rfl) (wanted_none rfl _) rfl rfl fun a463 hq463 => wq_val hq463 (r_ldb (i := 0) ti_3 rfl rfl rfl rfl) (wanted_none rfl _) rfl rfl fun a464 hq464 => wq_val hq464 (r_move rfl rfl) (wanted_none rfl _) rfl rfl fun a465 hq465 => ?_; clear hq458 hq459 hq460 hq461 hq462 hq463 hq464
  have hl466 : owner.l.length ≤ 140737488355328 := (h456.sh.own 6 rfl).len
  refine wq_val hq465 (r_ixI (s := owner) (q := ins.a) sl_23 ti_3 rfl rfl rfl (fun w h => (h.own 6 rfl)) (show 0 ≤ ins.a ∧ ins.a < owner.l.length from (by omega))) (wanted_none rfl _) rfl rfl fun a467 hq467 => wpQuiet_nil (hZ458 _ fun w468 hw468 => ?_); clear hq465
  have h468 : St 384 K W a467 w468 _ _ := ⟨hq467, hw468⟩
  clear hq467 hw468 h456
  refine wl_ex (x_ste (r := 6) (i := ins.a.toNat) (j := 0) (x' := (((mv / 8 : Nat) : Int) : Int)) h468 ti_3 rfl rfl rfl rfl rfl (show ins.a.toNat < owner.l.length from (by omega)) (Nat.le_of_ble_eq_true rfl) rfl rfl rfl (by intro q hq; obtain rfl : q = 0 := (by omega); rfl) (fun w h => Flat.inner _ _) (fun b hb => (Flat.on _ _ hb).elim)) (wanted_none rfl _) ?_
  rintro a469 w469 h469
  clear h468
  refine wpList_nil ?_
  try simp only [Exit.then, Exit.inBlock, if_true]
  refine x_end0 (fn := Try.f80) rfl h469 <| ⟨rfl, ⟨regs.v, regs.l⟩, ⟨wait.v, wait.l⟩, ⟨words.v, words.l⟩, ⟨owner.v, owner.l.set ins.a.toNat ((mv / 8 : Nat) : Int)⟩, ⟨prints.v, prints.l⟩, (nth thr.l (mv / 8)).pc + 1, fell, ?_, ?_⟩
  · refine Eq.trans ?_ (doT_0 (by omega)).symm; show _ = execT mode (mv / 8) (nextIns (nth code.l (mv / 8)).l (nth thr.l (mv / 8)).pc) _; rw [← hins]; (refine Eq.trans ?_ (execT_17 (by assumption)).symm; rfl)
  ·have hz := (h469.sh.sel (L' := [.blk g 125 [code.v, pw, .int .i64 locks, .int .i64 nregs, .int .i64 mode, thr.v, words.v, owner.v, prints.v, .bool fell], .own 147 (⟨thr.v, tl⟩ : Ls ThV), .own 3 regs, .own 210 wait, .own 3 words, .own 3 (⟨owner.v, owner.l.set ins.a.toNat ((mv / 8 : Nat) : Int)⟩ : Ls Int), .own 3 prints, .at_ code]) [1, 2, 3, 4, 5, 6, 7, 8] (by decide) ⟨rfl, rfl, rfl, rfl, rfl, rfl, rfl, rfl, trivial⟩)
   rw [htl] at hz; exact hz
 have hp457 : ¬ (ins.op = 17) := of_decide_eq_false hb457
 refine wp_seq_k fun K470 hK470 => wp_region_lit <| wv h456 (r_eqlI (p := ins.op) (q := 18) rfl rfl rfl) rfl rfl fun a471 h471 => wms 1 h471 rfl fun a472 h472 => wpList_nil <| hK470 _ _ <| x_cond h472 rfl (fun hb473 => ?_) (fun hb473 => ?_); clear h456 h471
 ·have hp473 : ins.op = 18 := of_decide_eq_true hb473
  have q9 := hR.o17 (by omega)
  refine wp_seq_k fun K474 hK474 => wp_seq_k fun K475 hK475 => x_quiet (by kernel_rfl) (by kernel_rfl) h472 fun Z476 hZ476 => ?_
  have hq476 := h472.fr
  refine wq_val hq476 (r_move rfl rfl) (wanted_none rfl _) rfl rfl fun a477 hq477 => wq_val hq477 (r_nil rfl rfl) (wanted_none rfl _) rfl rfl fun a478 hq478 => wq_val hq478 (r_fieldB (r := 7) fl_125_4 rfl rfl rfl) (wanted_none rfl _) rfl rfl fun a479 hq479 => wq_val hq479 (r_ldb (i := 1) ti_23 rfl rfl rfl rfl) (wanted_none rfl _) rfl rfl fun a480 hq480 => wq_val hq480 (r_fieldB (r := 1) fl_32_1 rfl rfl rfl) (wanted_none rfl _) rfl rfl fun a481 hq481 => wq_val hq481 (r_ldb (i := 0) ti_3 rfl rfl rfl rfl) (wanted_none rfl _) rfl rfl fun a482 hq482 => ?_; clear hq476 hq477 hq478 hq479 hq480 hq481
  have hl483 : owner.l.length ≤ 140737488355328 := (h472.sh.own 6 rfl).len
  refine wq_val hq482 (r_ixI (s := owner) (q := ins.a) sl_23 ti_3 rfl rfl rfl (fun w h => (h.own 6 rfl)) (show 0 ≤ ins.a ∧ ins.a < owner.l.length from (by omega))) (wanted_none rfl _) rfl rfl fun a484 hq484 => wq_val hq484 (r_lde (s := owner) (i := ins.a.toNat) (v := .int .i64 (nth owner.l ins.a.toNat)) ti_3 rfl rfl rfl (fun w h => (h.own 6 rfl)) (show ins.a.toNat < owner.l.length from (by omega)) (Nat.le_of_ble_eq_true rfl) rfl) (wanted_none rfl _) rfl rfl fun a485 hq485 => wq_val hq485 (r_move rfl rfl) (wanted_none rfl _) rfl rfl fun a486 hq486 => wq_val hq486 (r_neqI (p := nth owner.l ins.a.toNat) (q := ((mv / 8 : Nat) : Int)) rfl rfl rfl) (wanted_none rfl _) rfl rfl fun a487 hq487 => wpQuiet_nil (hZ476 _ fun w488 hw488 => ?_); clear hq482 hq484 hq485 hq486
  have h488 : St 384 K W a487 w488 _ _ := ⟨hq487, hw488⟩
  clear hq487 hw488 h472
  refine hK475 _ _ ?_
  have h489 : St 384 K W a487 w488 [(0, .pointer (some ⟨g, 0, none⟩)), (4, .int .i64 ((mv / 8 : Nat) : Int)), (5, .pointer (some (padr thr.v 3 (mv / 8) 0))), (7, .pointer (some ⟨b65, 0, none⟩)), (341, .bool (decide (nth owner.l ins.a.toNat ≠ ((mv / 8 : Nat) : Int))))] [.blk b65 32 [.int .i64 ins.op, .int .i64 ins.a, .int .i64 ins.b, .int .i64 ins.c], .blk g 125 [code.v, pw, .int .i64 locks, .int .i64 nregs, .int .i64 mode, thr.v, words.v, owner.v, prints.v, .bool fell], .own 147 (⟨thr.v, tl⟩ : Ls ThV), .own 3 regs, .own 210 wait, .own 3 words, .own 3 owner, .own 3 prints, .at_ code] := h488.nrm ⟨rfl, rfl, rfl, rfl, rfl, trivial⟩ [0, 1, 2, 3, 4, 5, 6, 7, 8] (by decide) ⟨rfl, rfl, rfl, rfl, rfl, rfl, rfl, rfl, rfl, trivial⟩
  clear h488
  refine x_cond h489 rfl (fun hb490 => ?_) (fun hb490 => ?_)
  ·have hp490 : nth owner.l ins.a.toNat ≠ ((mv / 8 : Nat) : Int) := of_decide_eq_true hb490
   have q9 := hR.o17 (by omega)
   refine wp_seq_k fun K491 hK491 => wp_region_lit <| wms 1 h489 rfl fun a492 h492 => wv h492 (r_nil rfl rfl) rfl rfl fun a493 h493 => wv h493 (r_fieldB (r := 9) fl_125_6 rfl rfl rfl) rfl rfl fun a494 h494 => wl_ex (x_stb (i := 1) (vs := [.bool true]) (cs' := [code.v, pw, .int .i64 locks, .int .i64 nregs, .int .i64 mode, thr.v, words.v, owner.v, prints.v, .bool true]) h494 ti_4 rfl rfl rfl rfl rfl rfl rfl (allOne_cons rfl allOne_nil) (Nat.le_of_ble_eq_true rfl) rfl) (wanted_none rfl _) ?_; clear h489 h492 h493
   rintro a495 w495 h495
   clear h494
   refine wpList_nil <| hK491 _ _ <| wp_ret ?_
   try simp only [Exit.then, Exit.inBlock]
   refine x_ret0 (fn := Try.f80) rfl h495 <| ⟨rfl, ⟨regs.v, regs.l⟩, ⟨wait.v, wait.l⟩, ⟨words.v, words.l⟩, ⟨owner.v, owner.l⟩, ⟨prints.v, prints.l⟩, (nth thr.l (mv / 8)).pc + 1, true, ?_, ?_⟩
   · refine Eq.trans ?_ (doT_0 (by omega)).symm; show _ = execT mode (mv / 8) (nextIns (nth code.l (mv / 8)).l (nth thr.l (mv / 8)).pc) _; rw [← hins]; first | (refine Eq.trans ?_ (execT_18a (by assumption) (by assumption)).symm; rfl) | exact Eq.trans (store_eq hst) (execT_18c (by assumption) (by assumption) (fun q (hq : q < wait.l.length) => hall q (by omega))).symm | (refine Eq.trans ?_ (execT_18b (by assumption) (by assumption) j (by assumption) (by assumption) (by assumption)).symm; rfl)
   ·have hz := (h495.sh.sel (L' := [.blk g 125 [code.v, pw, .int .i64 locks, .int .i64 nregs, .int .i64 mode, thr.v, words.v, owner.v, prints.v, .bool true], .own 147 (⟨thr.v, tl⟩ : Ls ThV), .own 3 regs, .own 210 wait, .own 3 words, .own 3 owner, .own 3 prints, .at_ code]) [1, 2, 3, 4, 5, 6, 7, 8] (by decide) ⟨rfl, rfl, rfl, rfl, rfl, rfl, rfl, rfl, trivial⟩)
    rw [htl] at hz; exact hz
  have hp490 : ¬ (nth owner.l ins.a.toNat ≠ ((mv / 8 : Nat) : Int)) := of_decide_eq_false hb490
  refine wp_skip <| hK474 _ _ <| wp_seq_k fun K496 hK496 => wp_seq_k fun K497 hK497 => wp_region_lit <| wms 1 h489 rfl fun a498 h498 => wpList_nil <| hK497 _ _ <| wp_block <| x_loop (fun m a w => ∃ (j : Nat), (j ≤ wait.l.length) ∧ (∀ q, q < j → ¬ ((nth wait.l q).lock = true ∧ (nth wait.l q).wh = ins.a)) ∧ St 384 K W a w [(0, .pointer (some ⟨g, 0, none⟩)), (4, .int .i64 ((mv / 8 : Nat) : Int)), (5, .pointer (some (padr thr.v 3 (mv / 8) 0))), (7, .pointer (some ⟨b65, 0, none⟩)), (12, .int .i64 ((j : Nat) : Int))] [.blk b65 32 [.int .i64 ins.op, .int .i64 ins.a, .int .i64 ins.b, .int .i64 ins.c], .blk g 125 [code.v, pw, .int .i64 locks, .int .i64 nregs, .int .i64 mode, thr.v, words.v, owner.v, prints.v, .bool fell], .own 147 (⟨thr.v, tl⟩ : Ls ThV), .own 3 regs, .own 210 wait, .own 3 words, .own 3 owner, .own 3 prints, .at_ code] ∧ m = wait.l.length - j) ⟨_, 0, (by omega), (fun q hq => absurd hq (by omega)), h498.nrm ⟨rfl, rfl, rfl, rfl, rfl, trivial⟩ [0, 1, 2, 3, 4, 5, 6, 7, 8] (by decide) ⟨rfl, rfl, rfl, rfl, rfl, rfl, rfl, rfl, rfl, trivial⟩, rfl⟩ ?_; clear h489
  clear h498
  rintro m499 a499 w499 ⟨j, hj, hall, h499, hm499⟩
  refine wp_seq_k fun K500 hK500 => wp_seq_k fun K501 hK501 => wp_region_lit <| wms 2 h499 rfl fun a502 h502 => wv h502 (r_nil rfl rfl) rfl rfl fun a503 h503 => wv h503 (r_fieldE (r := 2) fl_147_2 rfl rfl rfl) rfl rfl fun a504 h504 => wv h504 (Rn.same (r_lde (s := (⟨thr.v, tl⟩ : Ls ThV)) (i := mv / 8) (v := ((nth tl (mv / 8)).wv)) ti_145 rfl rfl rfl (fun w h => (h.own 2 rfl)) (show mv / 8 < tl.length from (by omega)) (Nat.le_of_ble_eq_true rfl) rfl) hwv2) rfl rfl fun a505 h505 => ?_; clear h499 h502 h503 h504
  have hl506 : wait.l.length ≤ 140737488355328 := (h505.sh.own 4 rfl).len
  refine wv h505 (r_len (s := wait) (n := wait.l.length) sl_145 rfl rfl (fun w h => (h.own 4 rfl)) rfl) rfl rfl fun a507 h507 => wv h507 (r_lssN (p := j) (q := wait.l.length) rfl rfl rfl) rfl rfl fun a508 h508 => wpList_nil <| hK501 _ _ <| x_cond h508 rfl (fun hb509 => ?_) (fun hb509 => ?_); clear h505 h507
  ·have hp509 : j < wait.l.length := of_decide_eq_true hb509
   refine wp_skip <| hK500 _ _ <| wp_seq_k fun K510 hK510 => wp_block <| wp_seq_k fun K511 hK511 => x_quiet (by kernel_rfl) (by kernel_rfl) h508 fun Z512 hZ512 => ?_
   have hq512 := h508.fr
   refine wq_val hq512 (r_move rfl rfl) (wanted_none rfl _) rfl rfl fun a513 hq513 => wq_val hq513 (r_nil rfl rfl) (wanted_none rfl _) rfl rfl fun a514 hq514 => wq_val hq514 (r_fieldE (r := 2) fl_147_2 rfl rfl rfl) (wanted_none rfl _) rfl rfl fun a515 hq515 => wq_val hq515 (Rn.same (r_lde (s := (⟨thr.v, tl⟩ : Ls ThV)) (i := mv / 8) (v := ((nth tl (mv / 8)).wv)) ti_145 rfl rfl rfl (fun w h => (h.own 2 rfl)) (show mv / 8 < tl.length from (by omega)) (Nat.le_of_ble_eq_true rfl) rfl) hwv2) (wanted_none rfl _) rfl rfl fun a516 hq516 => wq_val hq516 (r_move rfl rfl) (wanted_none rfl _) rfl rfl fun a517 hq517 => wq_val hq517 (r_ixN (s := wait) (q := j) sl_145 ti_210 rfl rfl rfl (fun w h => (h.own 4 rfl)) (show j < wait.l.length from (by omega))) (wanted_none rfl _) rfl rfl fun a518 hq518 => wq_val hq518 (r_fieldE (r := 0) fl_210_0 rfl rfl rfl) (wanted_none rfl _) rfl rfl fun a519 hq519 => wq_val hq519 (r_lde (s := wait) (i := j) (v := .bool ((nth wait.l j).lock)) ti_4 rfl rfl rfl (fun w h => (h.own 4 rfl)) (show j < wait.l.length from (by omega)) (Nat.le_of_ble_eq_true rfl) rfl) (wanted_none rfl _) rfl rfl fun a520 hq520 => wq_val hq520 (r_move rfl rfl) (wanted_none rfl _) rfl rfl fun a521 hq521 => ?_; clear hq512 hq513 hq514 hq515 hq516 hq517 hq518 hq519 hq520
   rcases Bool.eq_false_or_eq_true ((nth wait.l j).lock) with hb522 | hb522
   ·skip
    refine wq_val hq521 (r_move rfl rfl) (wanted_yes hq521 rfl rfl rfl rfl hb522) rfl rfl fun a524 hq524 => wq_val hq524 (r_nil rfl rfl) (wanted_yes hq524 rfl rfl rfl rfl hb522) rfl rfl fun a526 hq526 => wq_val hq526 (r_fieldE (r := 2) fl_147_2 rfl rfl rfl) (wanted_yes hq526 rfl rfl rfl rfl hb522) rfl rfl fun a528 hq528 => wq_val hq528 (Rn.same (r_lde (s := (⟨thr.v, tl⟩ : Ls ThV)) (i := mv / 8) (v := ((nth tl (mv / 8)).wv)) ti_145 rfl rfl rfl (fun w h => (h.own 2 rfl)) (show mv / 8 < tl.length from (by omega)) (Nat.le_of_ble_eq_true rfl) rfl) hwv2) (wanted_yes hq528 rfl rfl rfl rfl hb522) rfl rfl fun a530 hq530 => wq_val hq530 (r_move rfl rfl) (wanted_yes hq530 rfl rfl rfl rfl hb522) rfl rfl fun a532 hq532 => wq_val hq532 (r_ixN (s := wait) (q := j) sl_145 ti_210 rfl rfl rfl (fun w h => (h.own 4 rfl)) (show j < wait.l.length from (by omega))) (wanted_yes hq532 rfl rfl rfl rfl hb522) rfl rfl fun a534 hq534 => wq_val hq534 (r_fieldE (r := 1) fl_210_1 rfl rfl rfl) (wanted_yes hq534 rfl rfl rfl rfl hb522) rfl rfl fun a536 hq536 => wq_val hq536 (r_lde (s := wait) (i := j) (v := .int .i64 ((nth wait.l j).wh)) ti_3 rfl rfl rfl (fun w h => (h.own 4 rfl)) (show j < wait.l.length from (by omega)) (Nat.le_of_ble_eq_true rfl) rfl) (wanted_yes hq536 rfl rfl rfl rfl hb522) rfl rfl fun a538 hq538 => wq_val hq538 (r_fieldB (r := 1) fl_32_1 rfl rfl rfl) (wanted_yes hq538 rfl rfl rfl rfl hb522) rfl rfl fun a540 hq540 => wq_val hq540 (r_ldb (i := 0) ti_3 rfl rfl rfl rfl) (wanted_yes hq540 rfl rfl rfl rfl hb522) rfl rfl fun a542 hq542 => wq_val hq542 (r_eqlI (p := (nth wait.l j).wh) (q := ins.a) rfl rfl rfl) (wanted_yes hq542 rfl rfl rfl rfl hb522) rfl rfl fun a544 hq544 => wq_val hq544 (r_pickT rfl rfl hb522 rfl) (wanted_none rfl _) rfl rfl fun a545 hq545 => wpQuiet_nil (hZ512 _ fun w546 hw546 => ?_); clear hq521 hq524 hq526 hq528 hq530 hq532 hq534 hq536 hq538 hq540 hq542 hq544
    have h546 : St 384 K W a545 w546 _ _ := ⟨hq545, hw546⟩
    clear hq545 hw546 h508
    refine hK511 _ _ ?_
    have h547 : St 384 K W a545 w546 [(0, .pointer (some ⟨g, 0, none⟩)), (4, .int .i64 ((mv / 8 : Nat) : Int)), (5, .pointer (some (padr thr.v 3 (mv / 8) 0))), (7, .pointer (some ⟨b65, 0, none⟩)), (12, .int .i64 ((j : Nat) : Int)), (374, .bool (decide ((nth wait.l j).wh = ins.a)))] [.blk b65 32 [.int .i64 ins.op, .int .i64 ins.a, .int .i64 ins.b, .int .i64 ins.c], .blk g 125 [code.v, pw, .int .i64 locks, .int .i64 nregs, .int .i64 mode, thr.v, words.v, owner.v, prints.v, .bool fell], .own 147 (⟨thr.v, tl⟩ : Ls ThV), .own 3 regs, .own 210 wait, .own 3 words, .own 3 owner, .own 3 prints, .at_ code] := h546.nrm ⟨rfl, rfl, rfl, rfl, rfl, rfl, trivial⟩ [0, 1, 2, 3, 4, 5, 6, 7, 8] (by decide) ⟨rfl, rfl, rfl, rfl, rfl, rfl, rfl, rfl, rfl, trivial⟩
    clear h546
    refine x_cond h547 rfl (fun hb548 => ?_) (fun hb548 => ?_)
    ·have hp548 : (nth wait.l j).wh = ins.a := of_decide_eq_true hb548
     refine wp_seq_k fun K549 hK549 => wp_region_lit <| wms 1 h547 rfl fun a550 h550 => wv h550 (r_nil rfl rfl) rfl rfl fun a551 h551 => wv h551 (r_fieldB (r := 9) fl_125_6 rfl rfl rfl) rfl rfl fun a552 h552 => wl_ex (x_stb (i := 1) (vs := [.bool true]) (cs' := [code.v, pw, .int .i64 locks, .int .i64 nregs, .int .i64 mode, thr.v, words.v, owner.v, prints.v, .bool true]) h552 ti_4 rfl rfl rfl rfl rfl rfl rfl (allOne_cons rfl allOne_nil) (Nat.le_of_ble_eq_true rfl) rfl) (wanted_none rfl _) ?_; clear h547 h550 h551
     rintro a553 w553 h553
     clear h552
     refine wpList_nil <| hK549 _ _ <| wp_ret ?_
     try simp only [Exit.then, Exit.inBlock]
     refine x_ret0 (fn := Try.f80) rfl h553 <| ⟨rfl, ⟨regs.v, regs.l⟩, ⟨wait.v, wait.l⟩, ⟨words.v, words.l⟩, ⟨owner.v, owner.l⟩, ⟨prints.v, prints.l⟩, (nth thr.l (mv / 8)).pc + 1, true, ?_, ?_⟩
     · refine Eq.trans ?_ (doT_0 (by omega)).symm; show _ = execT mode (mv / 8) (nextIns (nth code.l (mv / 8)).l (nth thr.l (mv / 8)).pc) _; rw [← hins]; first | (refine Eq.trans ?_ (execT_18a (by assumption) (by assumption)).symm; rfl) | exact Eq.trans (store_eq hst) (execT_18c (by assumption) (by assumption) (fun q (hq : q < wait.l.length) => hall q (by omega))).symm | (refine Eq.trans ?_ (execT_18b (by assumption) (by assumption) j (by assumption) (by assumption) (by assumption)).symm; rfl)
     ·have hz := (h553.sh.sel (L' := [.blk g 125 [code.v, pw, .int .i64 locks, .int .i64 nregs, .int .i64 mode, thr.v, words.v, owner.v, prints.v, .bool true], .own 147 (⟨thr.v, tl⟩ : Ls ThV), .own 3 regs, .own 210 wait, .own 3 words, .own 3 owner, .own 3 prints, .at_ code]) [1, 2, 3, 4, 5, 6, 7, 8] (by decide) ⟨rfl, rfl, rfl, rfl, rfl, rfl, rfl, rfl, trivial⟩)
      rw [htl] at hz; exact hz
    have hp548 : ¬ ((nth wait.l j).wh = ins.a) := of_decide_eq_false hb548
    refine wp_skip <| hK510 _ _ <| wp_region_lit <| wms 1 h547 rfl fun a554 h554 => wv h554 (r_addN (p := j) (q := 1) rfl rfl rfl (show j + 1 < 9223372036854775808 from (by omega))) rfl rfl fun a555 h555 => wms 1 h555 rfl fun a556 h556 => wpList_nil <| x_again ⟨_, ?_, j + 1, ?_, ?_, h556.nrm ⟨rfl, rfl, rfl, rfl, rfl, trivial⟩ [0, 1, 2, 3, 4, 5, 6, 7, 8] (by decide) ⟨rfl, rfl, rfl, rfl, rfl, rfl, rfl, rfl, rfl, trivial⟩, rfl⟩; clear h547 h554 h555
    · rw [hm499]; first | omega | (simp only [lens9]; omega)
    · omega
    · intro q hq; rcases Nat.lt_or_ge q j with h9 | h9; (exact hall q h9); obtain rfl : q = j := (by omega); first | (rintro ⟨h8, _⟩; exact absurd (h8.symm.trans (show _ = false by assumption)) (by decide)) | (rintro ⟨_, h8⟩; omega)
   refine wq_skip hq521 (wanted_no hq521 rfl rfl rfl rfl hb522) rfl rfl fun a557 hq557 => wq_skip hq557 (wanted_no hq557 rfl rfl rfl rfl hb522) rfl rfl fun a558 hq558 => wq_skip hq558 (wanted_no hq558 rfl rfl rfl rfl hb522) rfl rfl fun a559 hq559 => wq_skip hq559 (wanted_no hq559 rfl rfl rfl rfl hb522) rfl rfl fun a560 hq560 => wq_skip hq560 (wanted_no hq560 rfl rfl rfl rfl hb522) rfl rfl fun a561 hq561 => wq_skip hq561 (wanted_no hq561 rfl rfl rfl rfl hb522) rfl rfl fun a562 hq562 => wq_skip hq562 (wanted_no hq562 rfl rfl rfl rfl hb522) rfl rfl fun a563 hq563 => wq_skip hq563 (wanted_no hq563 rfl rfl rfl rfl hb522) rfl rfl fun a564 hq564 => wq_skip hq564 (wanted_no hq564 rfl rfl rfl rfl hb522) rfl rfl fun a565 hq565 => wq_skip hq565 (wanted_no hq565 rfl rfl rfl rfl hb522) rfl rfl fun a566 hq566 => wq_skip hq566 (wanted_no hq566 rfl rfl rfl rfl hb522) rfl rfl fun a567 hq567 => wq_val hq567 (r_pickF rfl rfl hb522 rfl) (wanted_none rfl _) rfl rfl fun a568 hq568 => wpQuiet_nil (hZ512 _ fun w569 hw569 => ?_); clear hq521 hq557 hq558 hq559 hq560 hq561 hq562 hq563 hq564 hq565 hq566 hq567
   have h569 : St 384 K W a568 w569 _ _ := ⟨hq568, hw569⟩
   clear hq568 hw569 h508
   refine hK511 _ _ ?_
   have h570 : St 384 K W a568 w569 [(0, .pointer (some ⟨g, 0, none⟩)), (4, .int .i64 ((mv / 8 : Nat) : Int)), (5, .pointer (some (padr thr.v 3 (mv / 8) 0))), (7, .pointer (some ⟨b65, 0, none⟩)), (12, .int .i64 ((j : Nat) : Int)), (374, .bool false)] [.blk b65 32 [.int .i64 ins.op, .int .i64 ins.a, .int .i64 ins.b, .int .i64 ins.c], .blk g 125 [code.v, pw, .int .i64 locks, .int .i64 nregs, .int .i64 mode, thr.v, words.v, owner.v, prints.v, .bool fell], .own 147 (⟨thr.v, tl⟩ : Ls ThV), .own 3 regs, .own 210 wait, .own 3 words, .own 3 owner, .own 3 prints, .at_ code] := h569.nrm ⟨rfl, rfl, rfl, rfl, rfl, rfl, trivial⟩ [0, 1, 2, 3, 4, 5, 6, 7, 8] (by decide) ⟨rfl, rfl, rfl, rfl, rfl, rfl, rfl, rfl, rfl, trivial⟩
   clear h569
   refine x_condF h570 rfl rfl <| wp_skip <| hK510 _ _ <| wp_region_lit <| wms 1 h570 rfl fun a571 h571 => wv h571 (r_addN (p := j) (q := 1) rfl rfl rfl (show j + 1 < 9223372036854775808 from (by omega))) rfl rfl fun a572 h572 => wms 1 h572 rfl fun a573 h573 => wpList_nil <| x_again ⟨_, ?_, j + 1, ?_, ?_, h573.nrm ⟨rfl, rfl, rfl, rfl, rfl, trivial⟩ [0, 1, 2, 3, 4, 5, 6, 7, 8] (by decide) ⟨rfl, rfl, rfl, rfl, rfl, rfl, rfl, rfl, rfl, trivial⟩, rfl⟩; clear h570 h571 h572
   · rw [hm499]; first | omega | (simp only [lens9]; omega)
   · omega
   · intro q hq; rcases Nat.lt_or_ge q j with h9 | h9; (exact hall q h9); obtain rfl : q = j := (by omega); first | (rintro ⟨h8, _⟩; exact absurd (h8.symm.trans (show _ = false by assumption)) (by decide)) | (rintro ⟨_, h8⟩; omega)
  have hp509 : ¬ (j < wait.l.length) := of_decide_eq_false hb509
  refine wp_exit <| hK496 _ _ <| wp_region_lit <| wms 2 h508 rfl fun a574 h574 => wv h574 (r_fieldB (r := 1) fl_32_1 rfl rfl rfl) rfl rfl fun a575 h575 => wv h575 (r_ldb (i := 0) ti_3 rfl rfl rfl rfl) rfl rfl fun a576 h576 => wv h576 (r_build (cs := [.bool true, .int .i64 ins.a, .int .i64 0]) rfl rfl (by kernel_rfl)) rfl rfl fun a577 h577 => ?_; clear h508 h574 h575 h576
  have h578 := h577.sel (L' := [.blk g 125 [code.v, pw, .int .i64 locks, .int .i64 nregs, .int .i64 mode, thr.v, words.v, owner.v, prints.v, .bool fell], .own 147 (⟨thr.v, tl⟩ : Ls ThV), .own 210 wait, .own 3 words, .own 3 owner, .blk b65 32 [.int .i64 ins.op, .int .i64 ins.a, .int .i64 ins.b, .int .i64 ins.c], .own 3 regs, .own 3 prints, .at_ code]) [1, 2, 4, 5, 6, 0, 3, 7, 8] (by decide) ⟨rfl, rfl, rfl, rfl, rfl, rfl, rfl, rfl, rfl, trivial⟩
  have hp579 := h578.sh.passL (Lp := [.blk g 125 [code.v, pw, .int .i64 locks, .int .i64 nregs, .int .i64 mode, thr.v, words.v, owner.v, prints.v, .bool fell], .own 147 (⟨thr.v, tl⟩ : Ls ThV), .own 210 wait, .own 3 words, .own 3 owner])
  refine wl_ex (x_call h578 bd_130 rfl rfl rfl rfl rfl (store_c _ _ (mv / 8) (⟨true, ins.a, 0⟩ : Wt) (⟨thr.v, tl⟩ : Ls ThV) wait words owner _ _ _ _ _ _ _ _ hp579 (by first | (simp only [if_true]; omega) | (simp only [Bool.false_eq_true, if_false]; omega)) (show mv / 8 < tl.length by omega) hwv2 (by omega))) (wanted_none rfl _) ?_
  rintro a580 w580 ⟨_, ⟨rfl, wait580, words580, owner580, hst, hs580⟩, hf580⟩
  have h580 : St 384 K W a580 w580 _ [.blk g 125 [code.v, pw, .int .i64 locks, .int .i64 nregs, .int .i64 mode, thr.v, words580.v, owner580.v, prints.v, .bool fell], .own 147 (⟨thr.v, tl.set (mv / 8) { nth tl (mv / 8) with wv := wait580.v }⟩ : Ls ThV), .own 210 wait580, .own 3 words580, .own 3 owner580, .blk b65 32 [.int .i64 ins.op, .int .i64 ins.a, .int .i64 ins.b, .int .i64 ins.c], .own 3 regs, .own 3 prints, .at_ code] := ⟨hf580, h578.sh.backL (Lp := [.blk g 125 [code.v, pw, .int .i64 locks, .int .i64 nregs, .int .i64 mode, thr.v, words.v, owner.v, prints.v, .bool fell], .own 147 (⟨thr.v, tl⟩ : Ls ThV), .own 210 wait, .own 3 words, .own 3 owner]) hs580 (by intro A hA b hb; simp only [List.mem_cons, List.not_mem_nil, or_false] at hA; rcases hA with rfl | rfl | rfl | rfl | rfl <;> first | exact (hb : False).elim | exact Flat.noRd hb | exact .inl ⟨_, List.mem_cons_self .., .inr hb⟩ | exact .inl ⟨_, by simp, .inr hb⟩)⟩
  clear hf580 hs580
  clear h578
  refine wpList_nil ?_
  try simp only [Exit.then, Exit.inBlock, if_true]
  refine x_end0 (fn := Try.f80) rfl h580 <| ⟨rfl, ⟨regs.v, regs.l⟩, ⟨wait580.v, wait580.l⟩, ⟨words580.v, words580.l⟩, ⟨owner580.v, owner580.l⟩, ⟨prints.v, prints.l⟩, (nth thr.l (mv / 8)).pc + 1, fell, ?_, ?_⟩
  · refine Eq.trans ?_ (doT_0 (by omega)).symm; show _ = execT mode (mv / 8) (nextIns (nth code.l (mv / 8)).l (nth thr.l (mv / 8)).pc) _; rw [← hins]; first | (refine Eq.trans ?_ (execT_18a (by assumption) (by assumption)).symm; rfl) | exact Eq.trans (store_eq hst) (execT_18c (by assumption) (by assumption) (fun q (hq : q < wait.l.length) => hall q (by omega))).symm | (refine Eq.trans ?_ (execT_18b (by assumption) (by assumption) j (by assumption) (by assumption) (by assumption)).symm; rfl)
  ·have hz := (h580.sh.sel (L' := [.blk g 125 [code.v, pw, .int .i64 locks, .int .i64 nregs, .int .i64 mode, thr.v, words580.v, owner580.v, prints.v, .bool fell], .own 147 (⟨thr.v, tl.set (mv / 8) { nth tl (mv / 8) with wv := wait580.v }⟩ : Ls ThV), .own 3 regs, .own 210 wait580, .own 3 words580, .own 3 owner580, .own 3 prints, .at_ code]) [0, 1, 6, 2, 3, 4, 7, 8] (by decide) ⟨rfl, rfl, rfl, rfl, rfl, rfl, rfl, rfl, trivial⟩)
   rw [thset_wv ht htl] at hz; exact hz
 have hp473 : ¬ (ins.op = 18) := of_decide_eq_false hb473
 refine wp_skip ?_
 try simp only [Exit.then, Exit.inBlock, if_true]
 refine x_end0 (fn := Try.f80) rfl h472 <| ⟨rfl, ⟨regs.v, regs.l⟩, ⟨wait.v, wait.l⟩, ⟨words.v, words.l⟩, ⟨owner.v, owner.l⟩, ⟨prints.v, prints.l⟩, (nth thr.l (mv / 8)).pc + 1, fell, ?_, ?_⟩
 · refine Eq.trans ?_ (doT_0 (by omega)).symm; show _ = execT mode (mv / 8) (nextIns (nth code.l (mv / 8)).l (nth thr.l (mv / 8)).pc) _; rw [← hins]; (refine Eq.trans ?_ (execT_no (by omega)).symm; rfl)
 ·have hz := (h472.sh.sel (L' := [.blk g 125 [code.v, pw, .int .i64 locks, .int .i64 nregs, .int .i64 mode, thr.v, words.v, owner.v, prints.v, .bool fell], .own 147 (⟨thr.v, tl⟩ : Ls ThV), .own 3 regs, .own 210 wait, .own 3 words, .own 3 owner, .own 3 prints, .at_ code]) [1, 2, 3, 4, 5, 6, 7, 8] (by decide) ⟨rfl, rfl, rfl, rfl, rfl, rfl, rfl, rfl, trivial⟩)
  rw [htl] at hz; exact hz

end Go.Proofs.Ytfpaahkleienoaa
