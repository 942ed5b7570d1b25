/-
  Contracts of functions of this program and of the references, each walked once.
-/
import Derived.Test.YtmgikmjmdppfmaaX17
namespace Go.Proofs.Ytmgikmjmdppfmaa
open Go.RowKit
set_option linter.unusedSimpArgs false
set_option linter.unusedVariables false
set_option maxRecDepth 100000
set_option maxHeartbeats 20000000


/-- An order's numbers are what they may be: of R registers, W words, L locks. -/
structure InsR (R W L : Nat) (i : Ins) : Prop where
  o1 : i.op = 1 → 0 ≤ i.a ∧ i.a < R
  o2 : i.op = 2 → (0 ≤ i.a ∧ i.a < R) ∧ 0 ≤ i.b ∧ i.b < R
  o3 : i.op = 3 ∨ i.op = 4 ∨ i.op = 5 ∨ i.op = 6 ∨ i.op = 7 → (0 ≤ i.a ∧ i.a < R) ∧ (0 ≤ i.b ∧ i.b < R) ∧ 0 ≤ i.c ∧ i.c < R
  o8 : i.op = 8 → (0 ≤ i.a ∧ i.a < R) ∧ 0 ≤ i.b ∧ i.b < W
  o9 : i.op = 9 → (0 ≤ i.a ∧ i.a < W) ∧ 0 ≤ i.b ∧ i.b < R
  o10 : i.op = 10 ∨ i.op = 11 → (0 ≤ i.a ∧ i.a < R) ∧ 0 ≤ i.b ∧ i.b < R
  o13 : i.op = 13 → (0 ≤ i.a ∧ i.a < W) ∧ (0 ≤ i.b ∧ i.b < R) ∧ 0 ≤ i.c ∧ i.c < R
  o15 : i.op = 15 ∨ i.op = 16 → 0 ≤ i.a ∧ i.a < R
  o17 : i.op = 17 ∨ i.op = 18 → 0 ≤ i.a ∧ i.a < L
theorem thset_pc {l tl : List ThV} {n : Nat} {p q : Int} {r v : Value} (h : n < l.length) (e : tl = l.set n ⟨p, r, v⟩) : tl.set n { nth tl n with pc := q } = l.set n ⟨q, r, v⟩ := by
  subst e
  rw [nth_set, if_pos ⟨rfl, h⟩, List.set_set]
theorem thset_wv {l tl : List ThV} {n : Nat} {p : Int} {r v v' : Value} (h : n < l.length) (e : tl = l.set n ⟨p, r, v⟩) : tl.set n { nth tl n with wv := v' } = l.set n ⟨p, r, v'⟩ := by
  subst e
  rw [nth_set, if_pos ⟨rfl, h⟩, List.set_set]
theorem thset_0 {l : List ThV} {n : Nat} {q : Int} {r v : Value} (hr : (nth l n).rv = r) (hv : (nth l n).wv = v) : l.set n { nth l n with pc := q } = l.set n ⟨q, r, v⟩ := by
  subst hr; subst hv; rfl
theorem thset_w0 {l : List ThV} {n : Nat} {r v : Value} (hr : (nth l n).rv = r) : l.set n { nth l n with wv := v } = l.set n ⟨(nth l n).pc, r, v⟩ := by
  subst hr; rfl
/-- What a move leaves of the resources of one thread. -/
def DoPost (K : Nat → Prop) (W : World) (ST TH WT INT : Nat) (g n k : Nat) (mode : Int) (c : List Ins) (thr : Ls ThV) (hd : List Value) (x : TS) (code : Ls (Ls Ins)) (w' : World) : Prop :=
  ∃ (regs' : Ls Int) (wait' : Ls Wt) (words' owner' prints' : Ls Int) (pc' : Int) (fell' : Bool), (⟨pc', regs'.l, wait'.l, words'.l, owner'.l, prints'.l, fell'⟩ : TS) = doT mode n c k x ∧
    Sh K W w' [.blk g ST (hd ++ [thr.v, words'.v, owner'.v, prints'.v, .bool fell']), .own TH (⟨thr.v, thr.l.set n ⟨pc', regs'.v, wait'.v⟩⟩ : Ls ThV), .own INT regs', .own WT wait', .own INT words', .own INT owner', .own INT prints', .at_ code]
section
variable {m : Int} {n : Nat} {i : Ins} {x : TS}
theorem execT_1 (h : i.op = 1) : execT m n i x = x.put i.a i.b := by simp [execT, h]
theorem execT_2 (h : i.op = 2) : execT m n i x = x.put i.a (x.reg i.b) := by simp [execT, h]
theorem execT_3 (h : i.op = 3) : execT m n i x = x.put i.a (wrap64 (x.reg i.b + x.reg i.c)) := by simp [execT, h]
theorem execT_4 (h : i.op = 4) : execT m n i x = x.put i.a (wrap64 (x.reg i.b - x.reg i.c)) := by simp [execT, h]
theorem execT_5 (h : i.op = 5) : execT m n i x = x.put i.a (wrap64 (x.reg i.b * x.reg i.c)) := by simp [execT, h]
theorem execT_6 (h : i.op = 6) : execT m n i x = x.put i.a (bit (decide (x.reg i.b < x.reg i.c))) := by simp [execT, h]
theorem execT_7 (h : i.op = 7) : execT m n i x = x.put i.a (bit (decide (x.reg i.b = x.reg i.c))) := by simp [execT, h]
theorem execT_8 (h : i.op = 8) : execT m n i x = x.put i.a (x.finds i.b) := by simp [execT, h]
theorem execT_9 (h : i.op = 9) : execT m n i x = x.store m ⟨false, i.a, x.reg i.b⟩ := by simp [execT, h]
theorem execT_10t (h : i.op = 10) (h1 : 0 ≤ x.reg i.b ∧ x.reg i.b < (x.words.length : Int)) : execT m n i x = x.put i.a (x.finds (x.reg i.b)) := by simp [execT, h, TS.isWord, h1]
theorem execT_10f (h : i.op = 10) (h1 : ¬ (0 ≤ x.reg i.b ∧ x.reg i.b < (x.words.length : Int))) : execT m n i x = { x with fell := true } := by
  have e : x.isWord (x.reg i.b) = false := decide_eq_false h1
  simp [execT, h, e]
theorem execT_11t (h : i.op = 11) (h1 : 0 ≤ x.reg i.a ∧ x.reg i.a < (x.words.length : Int)) : execT m n i x = x.store m ⟨false, x.reg i.a, x.reg i.b⟩ := by simp [execT, h, TS.isWord, h1]
theorem execT_11f (h : i.op = 11) (h1 : ¬ (0 ≤ x.reg i.a ∧ x.reg i.a < (x.words.length : Int))) : execT m n i x = { x with fell := true } := by
  have e : x.isWord (x.reg i.a) = false := decide_eq_false h1
  simp [execT, h, e]
theorem execT_13t (h : i.op = 13) (h1 : nth x.words i.a.toNat = x.reg i.b) : execT m n i x = { x with words := x.words.set i.a.toNat (x.reg i.c), regs := x.regs.set i.b.toNat 1 } := by simp [execT, h, h1]
theorem execT_13f (h : i.op = 13) (h1 : ¬ nth x.words i.a.toNat = x.reg i.b) : execT m n i x = x.put i.b 0 := by simp [execT, h, h1]
theorem execT_14 (h : i.op = 14) : execT m n i x = { x with pc := i.a } := by simp [execT, h]
theorem execT_15t (h : i.op = 15) (h1 : x.reg i.a = 0) : execT m n i x = { x with pc := i.b } := by simp [execT, h, h1]
theorem execT_15f (h : i.op = 15) (h1 : ¬ x.reg i.a = 0) : execT m n i x = x := by simp [execT, h, h1]
theorem execT_16 (h : i.op = 16) : execT m n i x = { x with prints := x.prints ++ [(n : Int), x.reg i.a] } := by simp [execT, h]
theorem execT_17 (h : i.op = 17) : execT m n i x = { x with owner := x.owner.set i.a.toNat n } := by simp [execT, h]
theorem execT_18a (h : i.op = 18) (h1 : nth x.owner i.a.toNat ≠ n) : execT m n i x = { x with fell := true } := by simp [execT, h, h1]
theorem execT_18b (h : i.op = 18) (h1 : ¬ nth x.owner i.a.toNat ≠ n) (j : Nat) (hj : j < x.wait.length) (hl : (nth x.wait j).lock = true) (hw : (nth x.wait j).wh = i.a) : execT m n i x = { x with fell := true } := by
  have e : x.holds i.a = true := List.any_eq_true.2 ⟨_, nth_mem _ _ hj, by simp [hl, hw]⟩
  simp [execT, h, e]
theorem execT_18c (h : i.op = 18) (h1 : ¬ nth x.owner i.a.toNat ≠ n) (hall : ∀ q, q < x.wait.length → ¬ ((nth x.wait q).lock = true ∧ (nth x.wait q).wh = i.a)) : execT m n i x = x.store m ⟨true, i.a, 0⟩ := by
  have e : x.holds i.a = false := by
    unfold TS.holds
    rw [List.any_eq_false]
    intro y hy
    obtain ⟨k, hk, rfl⟩ := List.mem_iff_getElem.1 hy
    have := hall k hk
    rw [show nth x.wait k = x.wait[k] from nth_lt _ _ hk] at this
    simpa using this
  have h1' : nth x.owner i.a.toNat = n := Decidable.not_not.1 h1
  simp [execT, h, h1', e]
theorem execT_no (h : ¬ i.op = 1 ∧ ¬ i.op = 2 ∧ ¬ i.op = 3 ∧ ¬ i.op = 4 ∧ ¬ i.op = 5 ∧ ¬ i.op = 6 ∧ ¬ i.op = 7 ∧ ¬ i.op = 8 ∧ ¬ i.op = 9 ∧ ¬ i.op = 10 ∧ ¬ i.op = 11 ∧ ¬ i.op = 13 ∧ ¬ i.op = 14 ∧ ¬ i.op = 15 ∧ ¬ i.op = 16 ∧ ¬ i.op = 17 ∧ ¬ i.op = 18) : execT m n i x = x := by
  obtain ⟨h1, h2, h3, h4, h5, h6, h7, h8, h9, h10, h11, h13, h14, h15, h16, h17, h18⟩ := h
  simp [execT, h1, h2, h3, h4, h5, h6, h7, h8, h9, h10, h11, h13, h14, h15, h16, h17, h18]
theorem store_eq {pc : Int} {regs prints : List Int} {fell : Bool} {wait wait' : Ls Wt} {words words' owner owner' : Ls Int} {y : Wt} (hst : if 0 < m then wait'.l = wait.l ++ [y] ∧ words' = words ∧ owner' = owner else wait' = wait ∧ words' = (⟨words.v, if y.lock = true then words.l else words.l.set y.wh.toNat y.what⟩ : Ls Int) ∧ owner' = (⟨owner.v, if y.lock = true then owner.l.set y.wh.toNat (-1) else owner.l⟩ : Ls Int)) :
    (⟨pc, regs, wait'.l, words'.l, owner'.l, prints, fell⟩ : TS) = TS.store m ⟨pc, regs, wait.l, words.l, owner.l, prints, fell⟩ y := by
  unfold TS.store TS.done
  split at hst
  · rename_i h
    obtain ⟨h1, rfl, rfl⟩ := hst
    rw [if_pos h, h1]
  · rename_i h
    obtain ⟨rfl, rfl, rfl⟩ := hst
    rw [if_neg h]
theorem doT_k {c : List Ins} {k : Nat} (hk : 0 < k) : doT m n c k x = { x.done (nth x.wait (k - 1)) with wait := x.wait.take (k - 1) ++ x.wait.drop k } := by
  unfold doT
  rw [if_pos hk, List.eraseIdx_eq_take_drop_succ, show k - 1 + 1 = k by omega]
theorem or_f {b : Bool} {p : Prop} [Decidable p] (h : decide p = true) : (b || !decide p) = b := by rw [h]; simp
theorem or_t {b : Bool} {p : Prop} [Decidable p] (h : decide p = false) : (b || !decide p) = true := by rw [h]; simp
end
theorem doT_0 {m : Int} {n : Nat} {c : List Ins} {k : Nat} {x : TS} (hk : k = 0) : doT m n c k x = execT m n (nextIns c x.pc) { x with pc := x.pc + 1 } := by subst hk; rfl

theorem do_c (K : Nat → Prop) (g mv : Nat) (code : Ls (Ls Ins)) (thr : Ls ThV) (regs : Ls Int) (wait : Ls Wt) (words owner prints : Ls Int) (pw : Value) (locks nregs mode : Int) (fell : Bool) (W : World) (hS : Sh K W W [.blk g 112 [code.v, pw, .int .i64 locks, .int .i64 nregs, .int .i64 mode, thr.v, words.v, owner.v, prints.v, .bool fell], .own 121 thr, .own 3 regs, .own 130 wait, .own 3 words, .own 3 owner, .own 3 prints, .at_ code]) (ht : mv / 8 < thr.l.length) (htc : mv / 8 < code.l.length) (hmv : mv < 1000000) (hrv : (nth thr.l (mv / 8)).rv = regs.v) (hwv : (nth thr.l (mv / 8)).wv = wait.v) (hpc : 0 ≤ (nth thr.l (mv / 8)).pc ∧ (nth thr.l (mv / 8)).pc < 1000000) (hwl : wait.l.length ≤ 3) (hkw : mv % 8 ≤ wait.l.length) (hpl : prints.l.length ≤ 100000000) (hol : owner.l.length ≤ 100) (hwt : ∀ j, j < wait.l.length → if (nth wait.l j).lock = true then 0 ≤ (nth wait.l j).wh ∧ (nth wait.l j).wh < owner.l.length else 0 ≤ (nth wait.l j).wh ∧ (nth wait.l j).wh < words.l.length) (hio : mv % 8 = 0 → InsR regs.l.length words.l.length owner.l.length (nextIns (nth code.l (mv / 8)).l (nth thr.l (mv / 8)).pc)) :
    Rets Try.prog 57 [.pointer (some ⟨g, 0, none⟩), .int .i64 ((mv : Nat) : Int)] W (fun v w' => v = .tuple #[] ∧ DoPost K W 112 121 130 3 g (mv / 8) (mv % 8) mode (nth code.l (mv / 8)).l thr [code.v, pw, .int .i64 locks, .int .i64 nregs, .int .i64 mode] (⟨(nth thr.l (mv / 8)).pc, regs.l, wait.l, words.l, owner.l, prints.l, fell⟩ : TS) code w') := by
 refine gen Try.func57 Try.ntmps57 hS rfl fun a10 h10 => gG h10<|sG (oM 1 rfl<|oquN _ 8 om9 rfl<|oM 1 rfl<|.nl)<|sK fun _ k12 => gNl (aO 1 rfl) fun hl13 => gRn (oM 1 rfl<|onfl 0 fl_112_2 ti_110 rfl rfl<|oM 1 rfl<|oxN sl_110 ti_121 (aO 1 rfl) _ om9 rfl<|oM 1 rfl<|.nl)<|nK k12<|sG (oM 1 rfl<|ormN _ 8 om9 rfl<|oM 1 rfl<|.nl)<|gK fun _ k15 => sG (oM 1 rfl<|ogtN _ 0 rfl<|.nl)<|?_; clear h10
 refine gcd rfl (fun hb17 hp17 => ?_) fun hb17 hp17 => ?_
 ·skip
  have hwk := hwt (mv % 8 - 1) (by omega)
  refine sK fun _ k18 => gNl (aO 3 rfl) fun hl19 => gRn (oM 2 rfl<|onl rfl<|ofE fl_121_2 rfl<|oV (Rn.same (r_lde (s := thr) (i := mv / 8) (v := ((nth thr.l (mv / 8)).wv)) ti_119 rfl rfl rfl (fun w h => (h.own 1 rfl)) (show mv / 8 < thr.l.length from om9) (Nat.le_of_ble_eq_true rfl) rfl) hwv) rfl<|oM 1 rfl<|osbN _ 1 om9 rfl<|oxN sl_119 ti_130 (aO 3 rfl) _ om9 rfl<|olw2 [.bool ((nth wait.l ((mv % 8) - 1)).lock), .int .i64 ((nth wait.l ((mv % 8) - 1)).wh), .int .i64 ((nth wait.l ((mv % 8) - 1)).what)] ti_130 (aO 3 rfl) om9 rfl<|.nl)<|gO [0, 4, 5, 1, 2, 3, 6, 7] rfl<|gM 3 rfl (fun _ _ h_ => xCl h_ bd_71 rfl (done_c _ _ (nth wait.l ((mv % 8) - 1)) words owner _ _ _ _ _ _ _ _ _ (pKl 3 h_ rfl) hwk)) rfl<|?_
  rintro _ _ w22 ⟨rfl, hs22⟩
  refine gBk hs22 rfl<|gU<|nK k18<|gF [5, 6] rfl<|gK fun _ k23 => rT 14 [0] (oM 2 rfl<|onl rfl<|ofE fl_121_2 rfl<|oV (Rn.same (r_lde (s := thr) (i := mv / 8) (v := ((nth thr.l (mv / 8)).wv)) ti_119 rfl rfl rfl (fun w h => (h.own 3 rfl)) (show mv / 8 < thr.l.length from om9) (Nat.le_of_ble_eq_true rfl) rfl) hwv) rfl<|oM 1 rfl<|osbN _ 1 om9 rfl<|oV (r_slH (s := wait) (j := (mv % 8) - 1) sl_119 ti_130 rfl rfl rfl (fun w h => (h.own 5 rfl)) (show (mv % 8) - 1 ≤ wait.l.length from om9) (show 0 < wait.l.length from om9)) rfl<|oM 1 rfl<|onl rfl<|ofE fl_121_2 rfl<|oV (Rn.same (r_lde (s := thr) (i := mv / 8) (v := ((nth thr.l (mv / 8)).wv)) ti_119 rfl rfl rfl (fun w h => (h.own 3 rfl)) (show mv / 8 < thr.l.length from om9) (Nat.le_of_ble_eq_true rfl) rfl) hwv) rfl<|oM 1 rfl<|oV (r_slL (s := wait) (k := mv % 8) sl_119 ti_130 rfl rfl rfl (fun w h => (h.own 5 rfl)) (show mv % 8 ≤ wait.l.length from om9)) rfl<|.nl)<|gE1 (fun _ _ h_ => x_del (r := 5) (j := (mv % 8) - 1) (k := mv % 8) (s := wait) h_ sl_119 ti_130 rfl rfl rfl rfl rfl rfl inferInstance (show (mv % 8) - 1 ≤ mv % 8 ∧ mv % 8 ≤ wait.l.length ∧ 0 < wait.l.length from om9) rfl rfl) rfl fun v24 => gRn (onl rfl<|ofE fl_121_2 rfl<|.nl)<|gtr 3 ({ nth thr.l (mv / 8) with wv := v24 } : ThV) ti_119 om9 (aO 5 rfl) rfl<|nK k23<|gR<|uT<|fun a26 w26 h26 => ?_; clear hs22
  refine x_ret0 (fn := Try.f57) rfl h26 <| ⟨rfl, ⟨regs.v, regs.l⟩, ⟨v24, wait.l.take ((mv % 8) - 1) ++ wait.l.drop (mv % 8)⟩, ⟨words.v, if (nth wait.l ((mv % 8) - 1)).lock = true then words.l else words.l.set (nth wait.l ((mv % 8) - 1)).wh.toNat (nth wait.l ((mv % 8) - 1)).what⟩, ⟨owner.v, if (nth wait.l ((mv % 8) - 1)).lock = true then owner.l.set (nth wait.l ((mv % 8) - 1)).wh.toNat (-1) else owner.l⟩, ⟨prints.v, prints.l⟩, (nth thr.l (mv / 8)).pc, fell, ?_, ?_⟩
  · rw [doT_k (by omega)]; rfl
  ·have hz := (h26.sh.sel (L' := [_, _, _, _, _, _, _, _]) [0, 3, 4, 5, 1, 2, 6, 7] rfl)
   rw [thset_w0 hrv] at hz; exact hz
 refine gS<|hK k15<|sK fun _ k27 => gRn (oM 2 rfl<|.nl)<|fun a29 w29 h29 => wl_ex (x_call h29 bd_67 rfl rfl rfl rfl rfl (next_c g (mv / 8) code thr _ _ _ _ _ _ _ _ _ (h29.sh.blk 0 rfl) (h29.sh.at 7 rfl) (h29.sh.own 1 rfl) htc ht (by omega))) (wanted_none rfl _) ?_
 rintro a30 w30 ⟨_, ⟨hv30, hs30⟩, hf30⟩
 obtain ⟨ins, hins⟩ : ∃ i, i = nextIns (nth code.l (mv / 8)).l (nth thr.l (mv / 8)).pc := ⟨_, rfl⟩
 rw [← hins] at hv30
 subst hv30
 have hR := hio (by omega)
 rw [← hins] at hR
 have h30 : St 384 K W a30 w30 _ _ := ⟨hf30, h29.sh.call0 hs30⟩
 clear hf30 hs30
 clear h29
 refine gG h30<|gRn (oM 1 rfl<|oxt rfl<|oxt rfl<|.nl)<|gal ti_44 rfl fun b31 => gsw 0 ti_44 rfl rfl rfl<|gRn (oM 1 rfl<|.nl)<|nK k27<|sK fun _ k33 => gRn (oM 1 rfl<|onl rfl<|ofE fl_121_0 rfl<|olI ti_3 (aO 2 rfl) om9 rfl<|oadI _ _ om9 rfl<|onl rfl<|ofE fl_121_0 rfl<|.nl)<|gte 2 ({ nth thr.l (mv / 8) with pc := ((nth thr.l (mv / 8)).pc) + 1 } : ThV) ti_3 om9 rfl rfl<|nK k33<|gF [0, 4, 5, 7] rfl<|?_; clear h30
 obtain ⟨tl, htl⟩ : ∃ tl, tl = thr.l.set (mv / 8) ({ nth thr.l (mv / 8) with pc := ((nth thr.l (mv / 8)).pc) + 1 }) := ⟨_, rfl⟩
 intro a35 w35 h35
 have h359 := h35.relist (i := 2) (l' := tl) rfl htl.symm
 clear h35
 rw [thset_0 hrv hwv] at htl
 have htll : tl.length = thr.l.length := by rw [htl, List.length_set]
 have hrv2 : (nth tl (mv / 8)).rv = regs.v := by rw [htl, nth_set, if_pos ⟨rfl, ht⟩]
 have hwv2 : (nth tl (mv / 8)).wv = wait.v := by rw [htl, nth_set, if_pos ⟨rfl, ht⟩]
 refine gG h359<|sG (oM 1 rfl<|onl rfl<|ofE fl_121_1 rfl<|oV (Rn.same (r_lde (s := (⟨thr.v, tl⟩ : Ls ThV)) (i := mv / 8) (v := ((nth tl (mv / 8)).rv)) ti_23 rfl rfl rfl (fun w h => (h.own 2 rfl)) (show mv / 8 < tl.length from om9) (Nat.le_of_ble_eq_true rfl) rfl) hrv2) rfl<|oM 1 rfl<|.nl)<|sG (ofB fl_44_0 rfl<|olB 0 ti_3 rfl rfl<|.nl)<|gB<|sG (oeqI _ _ rfl<|oM 1 rfl<|.nl)<|?_; clear h359
 refine gcd rfl (fun hb39 hp39 => ?_) fun hb39 hp39 => ?_
 ·skip
  have q9 := hR.o1 (by omega)
  refine gL<|gNl (aO 3 rfl) fun hl40 => gRn (oM 1 rfl<|ofB fl_44_1 rfl<|olB 0 ti_3 rfl rfl<|ofB fl_44_2 rfl<|olB 0 ti_3 rfl rfl<|oxI sl_23 ti_3 (aO 3 rfl) om9 rfl<|.nl)<|gte 3 (ins.b : Int) ti_3 om9 rfl rfl<|nN<|fun a42 w42 h42 => ?_
  try simp only [Exit.then, Exit.inBlock, if_true]
  refine x_end0 (fn := Try.f57) rfl h42 <| ⟨rfl, ⟨regs.v, regs.l.set ins.a.toNat ins.b⟩, ⟨wait.v, wait.l⟩, ⟨words.v, words.l⟩, ⟨owner.v, owner.l⟩, ⟨prints.v, prints.l⟩, (nth thr.l (mv / 8)).pc + 1, fell, ?_, ?_⟩
  · refine Eq.trans ?_ (doT_0 (by omega)).symm; show _ = execT mode (mv / 8) (nextIns (nth code.l (mv / 8)).l (nth thr.l (mv / 8)).pc) _; rw [← hins]; (refine Eq.trans ?_ (execT_1 (by assumption)).symm; rfl)
  ·have hz := (h42.sh.sel (L' := [_, _, _, _, _, _, _, _]) [1, 2, 3, 4, 5, 6, 7, 8] rfl)
   rw [htl] at hz; exact hz
 refine sG (oeqI _ _ rfl<|oM 1 rfl<|.nl)<|gcd rfl (fun hb44 hp44 => ?_) fun hb44 hp44 => ?_
 ·skip
  have q9 := hR.o2 (by omega)
  refine gNl (aO 3 rfl) fun hl45 => rT 9 [] (oM 1 rfl<|ofB fl_44_1 rfl<|olB 0 ti_3 rfl rfl<|oM 1 rfl<|ofB fl_44_2 rfl<|olB 0 ti_3 rfl rfl<|oxI sl_23 ti_3 (aO 3 rfl) om9 rfl<|olI ti_3 (aO 3 rfl) om9 rfl<|oxI sl_23 ti_3 (aO 3 rfl) om9 rfl<|.nl)<|gte 3 (nth regs.l ins.b.toNat : Int) ti_3 om9 rfl rfl<|nN<|fun a47 w47 h47 => ?_
  try simp only [Exit.then, Exit.inBlock, if_true]
  refine x_end0 (fn := Try.f57) rfl h47 <| ⟨rfl, ⟨regs.v, regs.l.set ins.a.toNat (nth regs.l ins.b.toNat)⟩, ⟨wait.v, wait.l⟩, ⟨words.v, words.l⟩, ⟨owner.v, owner.l⟩, ⟨prints.v, prints.l⟩, (nth thr.l (mv / 8)).pc + 1, fell, ?_, ?_⟩
  · refine Eq.trans ?_ (doT_0 (by omega)).symm; show _ = execT mode (mv / 8) (nextIns (nth code.l (mv / 8)).l (nth thr.l (mv / 8)).pc) _; rw [← hins]; (refine Eq.trans ?_ (execT_2 (by assumption)).symm; rfl)
  ·have hz := (h47.sh.sel (L' := [_, _, _, _, _, _, _, _]) [1, 2, 3, 4, 5, 6, 7, 8] rfl)
   rw [htl] at hz; exact hz
 refine sG (oeqI _ _ rfl<|oM 1 rfl<|.nl)<|gcd rfl (fun hb49 hp49 => ?_) fun hb49 hp49 => ?_
 ·skip
  have q9 := hR.o3 (by omega)
  refine gNl (aO 3 rfl) fun hl50 => rT 15 [] (oM 1 rfl<|ofB fl_44_1 rfl<|olB 0 ti_3 rfl rfl<|oM 1 rfl<|ofB fl_44_2 rfl<|olB 0 ti_3 rfl rfl<|oxI sl_23 ti_3 (aO 3 rfl) om9 rfl<|olI ti_3 (aO 3 rfl) om9 rfl<|oM 1 rfl<|ofB fl_44_3 rfl<|olB 0 ti_3 rfl rfl<|oxI sl_23 ti_3 (aO 3 rfl) om9 rfl<|olI ti_3 (aO 3 rfl) om9 rfl<|oV (r_addW (p := nth regs.l ins.b.toNat) (q := nth regs.l ins.c.toNat) rfl rfl rfl) rfl<|oxI sl_23 ti_3 (aO 3 rfl) om9 rfl<|.nl)<|gte 3 (wrap64 ((nth regs.l ins.b.toNat) + (nth regs.l ins.c.toNat)) : Int) ti_3 om9 rfl rfl<|nN<|fun a52 w52 h52 => ?_
  try simp only [Exit.then, Exit.inBlock, if_true]
  refine x_end0 (fn := Try.f57) rfl h52 <| ⟨rfl, ⟨regs.v, regs.l.set ins.a.toNat (wrap64 ((nth regs.l ins.b.toNat) + (nth regs.l ins.c.toNat)))⟩, ⟨wait.v, wait.l⟩, ⟨words.v, words.l⟩, ⟨owner.v, owner.l⟩, ⟨prints.v, prints.l⟩, (nth thr.l (mv / 8)).pc + 1, fell, ?_, ?_⟩
  · refine Eq.trans ?_ (doT_0 (by omega)).symm; show _ = execT mode (mv / 8) (nextIns (nth code.l (mv / 8)).l (nth thr.l (mv / 8)).pc) _; rw [← hins]; (refine Eq.trans ?_ (execT_3 (by assumption)).symm; rfl)
  ·have hz := (h52.sh.sel (L' := [_, _, _, _, _, _, _, _]) [1, 2, 3, 4, 5, 6, 7, 8] rfl)
   rw [htl] at hz; exact hz
 refine sG (oeqI _ _ rfl<|oM 1 rfl<|.nl)<|gcd rfl (fun hb54 hp54 => ?_) fun hb54 hp54 => ?_
 ·skip
  have q9 := hR.o3 (by omega)
  refine gNl (aO 3 rfl) fun hl55 => rT 15 [] (oM 1 rfl<|ofB fl_44_1 rfl<|olB 0 ti_3 rfl rfl<|oM 1 rfl<|ofB fl_44_2 rfl<|olB 0 ti_3 rfl rfl<|oxI sl_23 ti_3 (aO 3 rfl) om9 rfl<|olI ti_3 (aO 3 rfl) om9 rfl<|oM 1 rfl<|ofB fl_44_3 rfl<|olB 0 ti_3 rfl rfl<|oxI sl_23 ti_3 (aO 3 rfl) om9 rfl<|olI ti_3 (aO 3 rfl) om9 rfl<|oV (r_subW (p := nth regs.l ins.b.toNat) (q := nth regs.l ins.c.toNat) rfl rfl rfl) rfl<|oxI sl_23 ti_3 (aO 3 rfl) om9 rfl<|.nl)<|gte 3 (wrap64 ((nth regs.l ins.b.toNat) - (nth regs.l ins.c.toNat)) : Int) ti_3 om9 rfl rfl<|nN<|fun a57 w57 h57 => ?_
  try simp only [Exit.then, Exit.inBlock, if_true]
  refine x_end0 (fn := Try.f57) rfl h57 <| ⟨rfl, ⟨regs.v, regs.l.set ins.a.toNat (wrap64 ((nth regs.l ins.b.toNat) - (nth regs.l ins.c.toNat)))⟩, ⟨wait.v, wait.l⟩, ⟨words.v, words.l⟩, ⟨owner.v, owner.l⟩, ⟨prints.v, prints.l⟩, (nth thr.l (mv / 8)).pc + 1, fell, ?_, ?_⟩
  · refine Eq.trans ?_ (doT_0 (by omega)).symm; show _ = execT mode (mv / 8) (nextIns (nth code.l (mv / 8)).l (nth thr.l (mv / 8)).pc) _; rw [← hins]; (refine Eq.trans ?_ (execT_4 (by assumption)).symm; rfl)
  ·have hz := (h57.sh.sel (L' := [_, _, _, _, _, _, _, _]) [1, 2, 3, 4, 5, 6, 7, 8] rfl)
   rw [htl] at hz; exact hz
 refine sG (oeqI _ _ rfl<|oM 1 rfl<|.nl)<|gcd rfl (fun hb59 hp59 => ?_) fun hb59 hp59 => ?_
 ·skip
  have q9 := hR.o3 (by omega)
  refine gNl (aO 3 rfl) fun hl60 => rT 15 [] (oM 1 rfl<|ofB fl_44_1 rfl<|olB 0 ti_3 rfl rfl<|oM 1 rfl<|ofB fl_44_2 rfl<|olB 0 ti_3 rfl rfl<|oxI sl_23 ti_3 (aO 3 rfl) om9 rfl<|olI ti_3 (aO 3 rfl) om9 rfl<|oM 1 rfl<|ofB fl_44_3 rfl<|olB 0 ti_3 rfl rfl<|oxI sl_23 ti_3 (aO 3 rfl) om9 rfl<|olI ti_3 (aO 3 rfl) om9 rfl<|oV (r_mulW (p := nth regs.l ins.b.toNat) (q := nth regs.l ins.c.toNat) rfl rfl rfl) rfl<|oxI sl_23 ti_3 (aO 3 rfl) om9 rfl<|.nl)<|gte 3 (wrap64 ((nth regs.l ins.b.toNat) * (nth regs.l ins.c.toNat)) : Int) ti_3 om9 rfl rfl<|nN<|fun a62 w62 h62 => ?_
  try simp only [Exit.then, Exit.inBlock, if_true]
  refine x_end0 (fn := Try.f57) rfl h62 <| ⟨rfl, ⟨regs.v, regs.l.set ins.a.toNat (wrap64 ((nth regs.l ins.b.toNat) * (nth regs.l ins.c.toNat)))⟩, ⟨wait.v, wait.l⟩, ⟨words.v, words.l⟩, ⟨owner.v, owner.l⟩, ⟨prints.v, prints.l⟩, (nth thr.l (mv / 8)).pc + 1, fell, ?_, ?_⟩
  · refine Eq.trans ?_ (doT_0 (by omega)).symm; show _ = execT mode (mv / 8) (nextIns (nth code.l (mv / 8)).l (nth thr.l (mv / 8)).pc) _; rw [← hins]; (refine Eq.trans ?_ (execT_5 (by assumption)).symm; rfl)
  ·have hz := (h62.sh.sel (L' := [_, _, _, _, _, _, _, _]) [1, 2, 3, 4, 5, 6, 7, 8] rfl)
   rw [htl] at hz; exact hz
 refine sG (oeqI _ _ rfl<|oM 1 rfl<|.nl)<|gcd rfl (fun hb64 hp64 => ?_) fun hb64 hp64 => ?_
 ·skip
  have q9 := hR.o3 (by omega)
  intro a66 w66 h66
  refine x_tail 16 [] (by kernel_rfl) (by kernel_rfl) h66 fun _ z67 => qQ h66.fr<|qRn (oM 1 rfl<|ofB fl_44_1 rfl<|olB 0 ti_3 rfl rfl<|oM 1 rfl<|ofB fl_44_2 rfl<|olB 0 ti_3 rfl rfl<|.nl)<|?_
  have hl68 : regs.l.length ≤ 140737488355328 := (h66.sh.own 3 rfl).len
  refine qRn (oxI sl_23 ti_3 (aO 3 rfl) om9 rfl<|olI ti_3 (aO 3 rfl) om9 rfl<|oM 1 rfl<|ofB fl_44_3 rfl<|olB 0 ti_3 rfl rfl<|oxI sl_23 ti_3 (aO 3 rfl) om9 rfl<|olI ti_3 (aO 3 rfl) om9 rfl<|oltI _ _ rfl<|.nl)<|qP bd_72 rfl (fun w h => (bit_c (decide (nth regs.l ins.b.toNat < nth regs.l ins.c.toNat)) _))<|qRn (oxI sl_23 ti_3 (aO 3 rfl) om9 rfl<|.nl)<|qN z67<|gte 3 (bit (decide (nth regs.l ins.b.toNat < nth regs.l ins.c.toNat)) : Int) ti_3 om9 rfl rfl<|nN<|fun a70 w70 h70 => ?_; clear h66
  try simp only [Exit.then, Exit.inBlock, if_true]
  refine x_end0 (fn := Try.f57) rfl h70 <| ⟨rfl, ⟨regs.v, regs.l.set ins.a.toNat (bit (decide (nth regs.l ins.b.toNat < nth regs.l ins.c.toNat)))⟩, ⟨wait.v, wait.l⟩, ⟨words.v, words.l⟩, ⟨owner.v, owner.l⟩, ⟨prints.v, prints.l⟩, (nth thr.l (mv / 8)).pc + 1, fell, ?_, ?_⟩
  · refine Eq.trans ?_ (doT_0 (by omega)).symm; show _ = execT mode (mv / 8) (nextIns (nth code.l (mv / 8)).l (nth thr.l (mv / 8)).pc) _; rw [← hins]; (refine Eq.trans ?_ (execT_6 (by assumption)).symm; rfl)
  ·have hz := (h70.sh.sel (L' := [_, _, _, _, _, _, _, _]) [1, 2, 3, 4, 5, 6, 7, 8] rfl)
   rw [htl] at hz; exact hz
 refine sG (oeqI _ _ rfl<|oM 1 rfl<|.nl)<|gcd rfl (fun hb72 hp72 => ?_) fun hb72 hp72 => ?_
 ·skip
  have q9 := hR.o3 (by omega)
  intro a74 w74 h74
  refine x_tail 16 [] (by kernel_rfl) (by kernel_rfl) h74 fun _ z75 => qQ h74.fr<|qRn (oM 1 rfl<|ofB fl_44_1 rfl<|olB 0 ti_3 rfl rfl<|oM 1 rfl<|ofB fl_44_2 rfl<|olB 0 ti_3 rfl rfl<|.nl)<|?_
  have hl76 : regs.l.length ≤ 140737488355328 := (h74.sh.own 3 rfl).len
  refine qRn (oxI sl_23 ti_3 (aO 3 rfl) om9 rfl<|olI ti_3 (aO 3 rfl) om9 rfl<|oM 1 rfl<|ofB fl_44_3 rfl<|olB 0 ti_3 rfl rfl<|oxI sl_23 ti_3 (aO 3 rfl) om9 rfl<|olI ti_3 (aO 3 rfl) om9 rfl<|oeqI _ _ rfl<|.nl)<|qP bd_72 rfl (fun w h => (bit_c (decide (nth regs.l ins.b.toNat = nth regs.l ins.c.toNat)) _))<|qRn (oxI sl_23 ti_3 (aO 3 rfl) om9 rfl<|.nl)<|qN z75<|gte 3 (bit (decide (nth regs.l ins.b.toNat = nth regs.l ins.c.toNat)) : Int) ti_3 om9 rfl rfl<|nN<|fun a78 w78 h78 => ?_; clear h74
  try simp only [Exit.then, Exit.inBlock, if_true]
  refine x_end0 (fn := Try.f57) rfl h78 <| ⟨rfl, ⟨regs.v, regs.l.set ins.a.toNat (bit (decide (nth regs.l ins.b.toNat = nth regs.l ins.c.toNat)))⟩, ⟨wait.v, wait.l⟩, ⟨words.v, words.l⟩, ⟨owner.v, owner.l⟩, ⟨prints.v, prints.l⟩, (nth thr.l (mv / 8)).pc + 1, fell, ?_, ?_⟩
  · refine Eq.trans ?_ (doT_0 (by omega)).symm; show _ = execT mode (mv / 8) (nextIns (nth code.l (mv / 8)).l (nth thr.l (mv / 8)).pc) _; rw [← hins]; (refine Eq.trans ?_ (execT_7 (by assumption)).symm; rfl)
  ·have hz := (h78.sh.sel (L' := [_, _, _, _, _, _, _, _]) [1, 2, 3, 4, 5, 6, 7, 8] rfl)
   rw [htl] at hz; exact hz
 refine sG (oeqI _ _ rfl<|oM 1 rfl<|.nl)<|gcd rfl (fun hb80 hp80 => ?_) fun hb80 hp80 => ?_
 ·skip
  have q9 := hR.o8 (by omega)
  intro a81 w81 h81
  refine x_tail 9 [] (by kernel_rfl) (by kernel_rfl) h81 fun _ z82 => qQ h81.fr<|qRn (oM 1 rfl<|ofB fl_44_1 rfl<|olB 0 ti_3 rfl rfl<|oM 2 rfl<|ofB fl_44_2 rfl<|olB 0 ti_3 rfl rfl<|.nl)<|qP bd_73 rfl (fun w h => (finds_c g (mv / 8) ins.b (⟨thr.v, tl⟩ : Ls ThV) words wait _ _ _ _ _ _ _ _ _ (h.blk 1 rfl) (h.own 2 rfl) (h.own 5 rfl) (h.own 4 rfl) (show mv / 8 < tl.length by omega) hwv2 (by omega)))<|?_
  have hl83 : regs.l.length ≤ 140737488355328 := (h81.sh.own 3 rfl).len
  refine qRn (oxI sl_23 ti_3 (aO 3 rfl) om9 rfl<|.nl)<|qN z82<|gte 3 (findsL wait.l words.l ins.b : Int) ti_3 om9 rfl rfl<|nN<|fun a85 w85 h85 => ?_; clear h81
  try simp only [Exit.then, Exit.inBlock, if_true]
  refine x_end0 (fn := Try.f57) rfl h85 <| ⟨rfl, ⟨regs.v, regs.l.set ins.a.toNat (findsL wait.l words.l ins.b)⟩, ⟨wait.v, wait.l⟩, ⟨words.v, words.l⟩, ⟨owner.v, owner.l⟩, ⟨prints.v, prints.l⟩, (nth thr.l (mv / 8)).pc + 1, fell, ?_, ?_⟩
  · refine Eq.trans ?_ (doT_0 (by omega)).symm; show _ = execT mode (mv / 8) (nextIns (nth code.l (mv / 8)).l (nth thr.l (mv / 8)).pc) _; rw [← hins]; (refine Eq.trans ?_ (execT_8 (by assumption)).symm; rfl)
  ·have hz := (h85.sh.sel (L' := [_, _, _, _, _, _, _, _]) [1, 2, 3, 4, 5, 6, 7, 8] rfl)
   rw [htl] at hz; exact hz
 refine sG (oeqI _ _ rfl<|oM 1 rfl<|.nl)<|gcd rfl (fun hb87 hp87 => ?_) fun hb87 hp87 => ?_
 ·skip
  have q9 := hR.o9 (by omega)
  refine gNl (aO 3 rfl) fun hl88 => rT 10 [] (oM 2 rfl<|ofB fl_44_1 rfl<|olB 0 ti_3 rfl rfl<|oM 1 rfl<|ofB fl_44_2 rfl<|olB 0 ti_3 rfl rfl<|oxI sl_23 ti_3 (aO 3 rfl) om9 rfl<|olI ti_3 (aO 3 rfl) om9 rfl<|oV (r_build (cs := [.bool false, .int .i64 ins.a, .int .i64 (nth regs.l ins.b.toNat)]) rfl rfl (by kernel_rfl)) rfl<|.nl)<|gO [1, 2, 4, 5, 6, 0, 3, 7, 8] rfl<|gM 5 rfl (fun _ _ h_ => xCl h_ bd_74 rfl (store_c _ _ (mv / 8) (⟨false, ins.a, nth regs.l ins.b.toNat⟩ : Wt) (⟨thr.v, tl⟩ : Ls ThV) wait words owner _ _ _ _ _ _ _ _ (pKl 5 h_ rfl) (by first | (simp only [if_true]; omega) | (simp only [Bool.false_eq_true, if_false]; omega)) (show mv / 8 < tl.length by omega) hwv2 (by omega))) rfl<|?_
  rintro _ _ w91 ⟨rfl, wait91, words91, owner91, hst, hs91⟩
  refine gBk hs91 rfl<|gU<|nN<|fun a92 w92 h92 => ?_; clear hs91
  try simp only [Exit.then, Exit.inBlock, if_true]
  refine x_end0 (fn := Try.f57) rfl h92 <| ⟨rfl, ⟨regs.v, regs.l⟩, ⟨wait91.v, wait91.l⟩, ⟨words91.v, words91.l⟩, ⟨owner91.v, owner91.l⟩, ⟨prints.v, prints.l⟩, (nth thr.l (mv / 8)).pc + 1, fell, ?_, ?_⟩
  · refine Eq.trans ?_ (doT_0 (by omega)).symm; show _ = execT mode (mv / 8) (nextIns (nth code.l (mv / 8)).l (nth thr.l (mv / 8)).pc) _; rw [← hins]; exact Eq.trans (store_eq hst) (execT_9 (by assumption)).symm
  ·have hz := (h92.sh.sel (L' := [_, _, _, _, _, _, _, _]) [0, 1, 6, 2, 3, 4, 7, 8] rfl)
   rw [thset_wv ht htl] at hz; exact hz
 refine sG (oeqI _ _ rfl<|oM 1 rfl<|.nl)<|gF [0, 4, 5, 7, 9, 70, 201] rfl<|gcd rfl (fun hb94 hp94 => ?_) fun hb94 hp94 => ?_
 ·skip
  have q9 := hR.o10 (by omega)
  refine sK fun _ k95 => gNl (aO 3 rfl) fun hl96 => gRn (oM 2 rfl<|ofB fl_44_2 rfl<|olB 0 ti_3 rfl rfl<|oxI sl_23 ti_3 (aO 3 rfl) om9 rfl<|olI ti_3 (aO 3 rfl) om9 rfl<|.nl)<|gO [1, 5, 0, 2, 3, 4, 6, 7, 8] rfl<|gM 2 rfl (fun _ _ h_ => xCl h_ bd_75 rfl (word_c _ _ (nth regs.l ins.b.toNat) _ _ _ _ _ _ _ _ _ _ _ (pKl 2 h_ rfl))) rfl<|?_
  rintro _ _ w99 ⟨rfl, hs99⟩
  refine gBk hs99 rfl<|gU<|gRn (oM 1 rfl<|.nl)<|nK k95<|sG (oM 1 rfl<|.nl)<|?_; clear hs99
  refine gcd rfl (fun hb101 hp101 => ?_) fun hb101 hp101 => ?_
  ·skip
   intro a102 w102 h102
   refine x_tail 12 [] (by kernel_rfl) (by kernel_rfl) h102 fun _ z103 => qQ h102.fr<|qRn (oM 1 rfl<|ofB fl_44_1 rfl<|olB 2 ti_3 rfl rfl<|oM 3 rfl<|ofB fl_44_2 rfl<|olB 2 ti_3 rfl rfl<|oxI sl_23 ti_3 (aO 4 rfl) om9 rfl<|olI ti_3 (aO 4 rfl) om9 rfl<|.nl)<|qP bd_73 rfl (fun w h => (finds_c g (mv / 8) (nth regs.l ins.b.toNat) (⟨thr.v, tl⟩ : Ls ThV) words wait _ _ _ _ _ _ _ _ _ (h.blk 0 rfl) (h.own 3 rfl) (h.own 1 rfl) (h.own 5 rfl) (show mv / 8 < tl.length by omega) hwv2 (by omega)))<|qRn (oxI sl_23 ti_3 (aO 4 rfl) om9 rfl<|.nl)<|qN z103<|gte 4 (findsL wait.l words.l (nth regs.l ins.b.toNat) : Int) ti_3 om9 rfl rfl<|nN<|fun a105 w105 h105 => ?_; clear h102
   try simp only [Exit.then, Exit.inBlock, if_true]
   refine x_end0 (fn := Try.f57) rfl h105 ?_
   have hf9 : (fell || !decide (0 ≤ nth regs.l ins.b.toNat ∧ nth regs.l ins.b.toNat < (words.l.length : Int))) = fell := or_f hb101
   refine ⟨rfl, ⟨regs.v, regs.l.set ins.a.toNat (findsL wait.l words.l (nth regs.l ins.b.toNat))⟩, ⟨wait.v, wait.l⟩, ⟨words.v, words.l⟩, ⟨owner.v, owner.l⟩, ⟨prints.v, prints.l⟩, (nth thr.l (mv / 8)).pc + 1, fell, ?_, ?_⟩
   · refine Eq.trans ?_ (doT_0 (by omega)).symm; show _ = execT mode (mv / 8) (nextIns (nth code.l (mv / 8)).l (nth thr.l (mv / 8)).pc) _; rw [← hins]; first | (refine Eq.trans ?_ (execT_10t (by assumption) (by assumption)).symm; rfl) | (refine Eq.trans ?_ (execT_10f (by assumption) (by assumption)).symm; rfl)
   ·have hz := (h105.sh.sel (L' := [_, _, _, _, _, _, _, _]) [0, 3, 4, 5, 1, 6, 7, 8] rfl)
    rw [hf9, htl] at hz; exact hz
  refine gS<|fun a106 w106 h106 => ?_
  try simp only [Exit.then, Exit.inBlock, if_true]
  refine x_end0 (fn := Try.f57) rfl h106 ?_
  have hf9 : (fell || !decide (0 ≤ nth regs.l ins.b.toNat ∧ nth regs.l ins.b.toNat < (words.l.length : Int))) = true := or_t hb101
  refine ⟨rfl, ⟨regs.v, regs.l⟩, ⟨wait.v, wait.l⟩, ⟨words.v, words.l⟩, ⟨owner.v, owner.l⟩, ⟨prints.v, prints.l⟩, (nth thr.l (mv / 8)).pc + 1, true, ?_, ?_⟩
  · refine Eq.trans ?_ (doT_0 (by omega)).symm; show _ = execT mode (mv / 8) (nextIns (nth code.l (mv / 8)).l (nth thr.l (mv / 8)).pc) _; rw [← hins]; first | (refine Eq.trans ?_ (execT_10t (by assumption) (by assumption)).symm; rfl) | (refine Eq.trans ?_ (execT_10f (by assumption) (by assumption)).symm; rfl)
  ·have hz := (h106.sh.sel (L' := [_, _, _, _, _, _, _, _]) [0, 3, 4, 5, 1, 6, 7, 8] rfl)
   rw [hf9, htl] at hz; exact hz
 refine sG (oeqI _ _ rfl<|oM 1 rfl<|.nl)<|gcd rfl (fun hb108 hp108 => ?_) fun hb108 hp108 => ?_
 ·skip
  have q9 := hR.o10 (by omega)
  refine sK fun _ k109 => gNl (aO 3 rfl) fun hl110 => gRn (oM 2 rfl<|ofB fl_44_1 rfl<|olB 0 ti_3 rfl rfl<|oxI sl_23 ti_3 (aO 3 rfl) om9 rfl<|olI ti_3 (aO 3 rfl) om9 rfl<|.nl)<|gO [1, 5, 0, 2, 3, 4, 6, 7, 8] rfl<|gM 2 rfl (fun _ _ h_ => xCl h_ bd_75 rfl (word_c _ _ (nth regs.l ins.a.toNat) _ _ _ _ _ _ _ _ _ _ _ (pKl 2 h_ rfl))) rfl<|?_
  rintro _ _ w113 ⟨rfl, hs113⟩
  refine gBk hs113 rfl<|gU<|gRn (oM 1 rfl<|.nl)<|nK k109<|sG (oM 1 rfl<|.nl)<|?_; clear hs113
  refine gcd rfl (fun hb115 hp115 => ?_) fun hb115 hp115 => ?_
  ·skip
   refine rT 13 [] (oM 3 rfl<|ofB fl_44_1 rfl<|olB 2 ti_3 rfl rfl<|oxI sl_23 ti_3 (aO 4 rfl) om9 rfl<|olI ti_3 (aO 4 rfl) om9 rfl<|oM 1 rfl<|ofB fl_44_2 rfl<|olB 2 ti_3 rfl rfl<|oxI sl_23 ti_3 (aO 4 rfl) om9 rfl<|olI ti_3 (aO 4 rfl) om9 rfl<|oV (r_build (cs := [.bool false, .int .i64 (nth regs.l ins.a.toNat), .int .i64 (nth regs.l ins.b.toNat)]) rfl rfl (by kernel_rfl)) rfl<|.nl)<|gO [0, 3, 5, 1, 6, 2, 4, 7, 8] rfl<|gM 5 rfl (fun _ _ h_ => xCl h_ bd_74 rfl (store_c _ _ (mv / 8) (⟨false, nth regs.l ins.a.toNat, nth regs.l ins.b.toNat⟩ : Wt) (⟨thr.v, tl⟩ : Ls ThV) wait words owner _ _ _ _ _ _ _ _ (pKl 5 h_ rfl) (by first | (simp only [if_true]; omega) | (simp only [Bool.false_eq_true, if_false]; omega)) (show mv / 8 < tl.length by omega) hwv2 (by omega))) rfl<|?_
   rintro _ _ w118 ⟨rfl, wait118, words118, owner118, hst, hs118⟩
   refine gBk hs118 rfl<|gU<|nN<|fun a119 w119 h119 => ?_; clear hs118
   try simp only [Exit.then, Exit.inBlock, if_true]
   refine x_end0 (fn := Try.f57) rfl h119 ?_
   have hf9 : (fell || !decide (0 ≤ nth regs.l ins.a.toNat ∧ nth regs.l ins.a.toNat < (words.l.length : Int))) = fell := or_f hb115
   refine ⟨rfl, ⟨regs.v, regs.l⟩, ⟨wait118.v, wait118.l⟩, ⟨words118.v, words118.l⟩, ⟨owner118.v, owner118.l⟩, ⟨prints.v, prints.l⟩, (nth thr.l (mv / 8)).pc + 1, fell, ?_, ?_⟩
   · refine Eq.trans ?_ (doT_0 (by omega)).symm; show _ = execT mode (mv / 8) (nextIns (nth code.l (mv / 8)).l (nth thr.l (mv / 8)).pc) _; rw [← hins]; first | exact Eq.trans (store_eq hst) (execT_11t (by assumption) (by assumption)).symm | (refine Eq.trans ?_ (execT_11f (by assumption) (by assumption)).symm; rfl)
   ·have hz := (h119.sh.sel (L' := [_, _, _, _, _, _, _, _]) [0, 1, 6, 2, 3, 4, 7, 8] rfl)
    rw [hf9, thset_wv ht htl] at hz; exact hz
  refine gS<|fun a120 w120 h120 => ?_
  try simp only [Exit.then, Exit.inBlock, if_true]
  refine x_end0 (fn := Try.f57) rfl h120 ?_
  have hf9 : (fell || !decide (0 ≤ nth regs.l ins.a.toNat ∧ nth regs.l ins.a.toNat < (words.l.length : Int))) = true := or_t hb115
  refine ⟨rfl, ⟨regs.v, regs.l⟩, ⟨wait.v, wait.l⟩, ⟨words.v, words.l⟩, ⟨owner.v, owner.l⟩, ⟨prints.v, prints.l⟩, (nth thr.l (mv / 8)).pc + 1, true, ?_, ?_⟩
  · refine Eq.trans ?_ (doT_0 (by omega)).symm; show _ = execT mode (mv / 8) (nextIns (nth code.l (mv / 8)).l (nth thr.l (mv / 8)).pc) _; rw [← hins]; first | exact Eq.trans (store_eq hst) (execT_11t (by assumption) (by assumption)).symm | (refine Eq.trans ?_ (execT_11f (by assumption) (by assumption)).symm; rfl)
  ·have hz := (h120.sh.sel (L' := [_, _, _, _, _, _, _, _]) [0, 3, 4, 5, 1, 6, 7, 8] rfl)
   rw [hf9, htl] at hz; exact hz
 refine sG (oeqI _ _ rfl<|oM 1 rfl<|.nl)<|gcd rfl (fun hb122 hp122 => ?_) fun hb122 hp122 => ?_
 ·skip
  have q9 := hR.o13 (by omega)
  refine gK fun _ k123 => gNl (aO 5 rfl) fun hl124 => gNl (aO 3 rfl) fun hl125 => rQ (oM 1 rfl<|onfl 1 fl_112_3 ti_23 rfl rfl<|ofB fl_44_1 rfl<|olB 0 ti_3 rfl rfl<|oxI sl_23 ti_3 (aO 5 rfl) om9 rfl<|olI ti_3 (aO 5 rfl) om9 rfl<|oM 1 rfl<|ofB fl_44_2 rfl<|olB 0 ti_3 rfl rfl<|oxI sl_23 ti_3 (aO 3 rfl) om9 rfl<|olI ti_3 (aO 3 rfl) om9 rfl<|oeqI _ _ rfl<|.nl)<|hK k123<|gcd rfl (fun hb126 hp126 => ?_) fun hb126 hp126 => ?_
  ·skip
   have q9 := hR.o13 (by omega)
   refine gK fun _ k127 => rT 12 [] (oM 1 rfl<|onfl 1 fl_112_3 ti_23 rfl rfl<|ofB fl_44_1 rfl<|olB 0 ti_3 rfl rfl<|oM 1 rfl<|ofB fl_44_3 rfl<|olB 0 ti_3 rfl rfl<|oxI sl_23 ti_3 (aO 3 rfl) om9 rfl<|olI ti_3 (aO 3 rfl) om9 rfl<|oxI sl_23 ti_3 (aO 5 rfl) om9 rfl<|.nl)<|gte 5 (nth regs.l ins.c.toNat : Int) ti_3 om9 rfl rfl<|nK k127<|gF [7, 9] rfl<|gL<|gRn (oM 1 rfl<|ofB fl_44_2 rfl<|olB 0 ti_3 rfl rfl<|oxI sl_23 ti_3 (aO 3 rfl) om9 rfl<|.nl)<|gte 3 (1 : Int) ti_3 om9 rfl rfl<|nN<|fun a130 w130 h130 => ?_
   try simp only [Exit.then, Exit.inBlock, if_true]
   refine x_end0 (fn := Try.f57) rfl h130 <| ⟨rfl, ⟨regs.v, regs.l.set ins.b.toNat 1⟩, ⟨wait.v, wait.l⟩, ⟨words.v, words.l.set ins.a.toNat (nth regs.l ins.c.toNat)⟩, ⟨owner.v, owner.l⟩, ⟨prints.v, prints.l⟩, (nth thr.l (mv / 8)).pc + 1, fell, ?_, ?_⟩
   · refine Eq.trans ?_ (doT_0 (by omega)).symm; show _ = execT mode (mv / 8) (nextIns (nth code.l (mv / 8)).l (nth thr.l (mv / 8)).pc) _; rw [← hins]; first | (refine Eq.trans ?_ (execT_13t (by assumption) (by assumption)).symm; rfl) | (refine Eq.trans ?_ (execT_13f (by assumption) (by assumption)).symm; rfl)
   ·have hz := (h130.sh.sel (L' := [_, _, _, _, _, _, _, _]) [1, 2, 3, 4, 5, 6, 7, 8] rfl)
    rw [htl] at hz; exact hz
  refine gL<|gRn (oM 1 rfl<|ofB fl_44_2 rfl<|olB 0 ti_3 rfl rfl<|oxI sl_23 ti_3 (aO 3 rfl) om9 rfl<|.nl)<|gte 3 (0 : Int) ti_3 om9 rfl rfl<|nN<|fun a132 w132 h132 => ?_
  try simp only [Exit.then, Exit.inBlock, if_true]
  refine x_end0 (fn := Try.f57) rfl h132 <| ⟨rfl, ⟨regs.v, regs.l.set ins.b.toNat 0⟩, ⟨wait.v, wait.l⟩, ⟨words.v, words.l⟩, ⟨owner.v, owner.l⟩, ⟨prints.v, prints.l⟩, (nth thr.l (mv / 8)).pc + 1, fell, ?_, ?_⟩
  · refine Eq.trans ?_ (doT_0 (by omega)).symm; show _ = execT mode (mv / 8) (nextIns (nth code.l (mv / 8)).l (nth thr.l (mv / 8)).pc) _; rw [← hins]; first | (refine Eq.trans ?_ (execT_13t (by assumption) (by assumption)).symm; rfl) | (refine Eq.trans ?_ (execT_13f (by assumption) (by assumption)).symm; rfl)
  ·have hz := (h132.sh.sel (L' := [_, _, _, _, _, _, _, _]) [1, 2, 3, 4, 5, 6, 7, 8] rfl)
   rw [htl] at hz; exact hz
 refine sG (oeqI _ _ rfl<|oM 1 rfl<|.nl)<|gcd rfl (fun hb134 hp134 => ?_) fun hb134 hp134 => ?_
 ·skip
  refine gL<|gRn (oM 1 rfl<|ofB fl_44_1 rfl<|olB 0 ti_3 rfl rfl<|onl rfl<|ofE fl_121_0 rfl<|.nl)<|gte 2 ({ nth tl (mv / 8) with pc := ins.a } : ThV) ti_3 om9 rfl rfl<|nN<|fun a136 w136 h136 => ?_
  try simp only [Exit.then, Exit.inBlock, if_true]
  refine x_end0 (fn := Try.f57) rfl h136 <| ⟨rfl, ⟨regs.v, regs.l⟩, ⟨wait.v, wait.l⟩, ⟨words.v, words.l⟩, ⟨owner.v, owner.l⟩, ⟨prints.v, prints.l⟩, ins.a, fell, ?_, ?_⟩
  · refine Eq.trans ?_ (doT_0 (by omega)).symm; show _ = execT mode (mv / 8) (nextIns (nth code.l (mv / 8)).l (nth thr.l (mv / 8)).pc) _; rw [← hins]; (refine Eq.trans ?_ (execT_14 (by assumption)).symm; rfl)
  ·have hz := (h136.sh.sel (L' := [_, _, _, _, _, _, _, _]) [1, 2, 3, 4, 5, 6, 7, 8] rfl)
   rw [thset_pc ht htl] at hz; exact hz
 refine sG (oeqI _ _ rfl<|oM 1 rfl<|.nl)<|gcd rfl (fun hb138 hp138 => ?_) fun hb138 hp138 => ?_
 ·skip
  have q9 := hR.o15 (by omega)
  refine sK fun _ k139 => gNl (aO 3 rfl) fun hl140 => gRn (oM 1 rfl<|ofB fl_44_1 rfl<|olB 0 ti_3 rfl rfl<|oxI sl_23 ti_3 (aO 3 rfl) om9 rfl<|olI ti_3 (aO 3 rfl) om9 rfl<|oeqI _ _ rfl<|.nl)<|nK k139<|gcd rfl (fun hb141 hp141 => ?_) fun hb141 hp141 => ?_
  ·skip
   refine gL<|gRn (oM 1 rfl<|ofB fl_44_2 rfl<|olB 0 ti_3 rfl rfl<|onl rfl<|ofE fl_121_0 rfl<|.nl)<|gte 2 ({ nth tl (mv / 8) with pc := ins.b } : ThV) ti_3 om9 rfl rfl<|nN<|fun a143 w143 h143 => ?_
   try simp only [Exit.then, Exit.inBlock, if_true]
   refine x_end0 (fn := Try.f57) rfl h143 <| ⟨rfl, ⟨regs.v, regs.l⟩, ⟨wait.v, wait.l⟩, ⟨words.v, words.l⟩, ⟨owner.v, owner.l⟩, ⟨prints.v, prints.l⟩, ins.b, fell, ?_, ?_⟩
   · refine Eq.trans ?_ (doT_0 (by omega)).symm; show _ = execT mode (mv / 8) (nextIns (nth code.l (mv / 8)).l (nth thr.l (mv / 8)).pc) _; rw [← hins]; first | (refine Eq.trans ?_ (execT_15t (by assumption) (by assumption)).symm; rfl) | (refine Eq.trans ?_ (execT_15f (by assumption) (by assumption)).symm; rfl)
   ·have hz := (h143.sh.sel (L' := [_, _, _, _, _, _, _, _]) [1, 2, 3, 4, 5, 6, 7, 8] rfl)
    rw [thset_pc ht htl] at hz; exact hz
  refine gS<|fun a144 w144 h144 => ?_
  try simp only [Exit.then, Exit.inBlock, if_true]
  refine x_end0 (fn := Try.f57) rfl h144 <| ⟨rfl, ⟨regs.v, regs.l⟩, ⟨wait.v, wait.l⟩, ⟨words.v, words.l⟩, ⟨owner.v, owner.l⟩, ⟨prints.v, prints.l⟩, (nth thr.l (mv / 8)).pc + 1, fell, ?_, ?_⟩
  · refine Eq.trans ?_ (doT_0 (by omega)).symm; show _ = execT mode (mv / 8) (nextIns (nth code.l (mv / 8)).l (nth thr.l (mv / 8)).pc) _; rw [← hins]; first | (refine Eq.trans ?_ (execT_15t (by assumption) (by assumption)).symm; rfl) | (refine Eq.trans ?_ (execT_15f (by assumption) (by assumption)).symm; rfl)
  ·have hz := (h144.sh.sel (L' := [_, _, _, _, _, _, _, _]) [1, 2, 3, 4, 5, 6, 7, 8] rfl)
   rw [htl] at hz; exact hz
 refine sG (oeqI _ _ rfl<|oM 1 rfl<|.nl)<|gcd rfl (fun hb146 hp146 => ?_) fun hb146 hp146 => ?_
 ·skip
  have q9 := hR.o15 (by omega)
  refine gNl (aO 3 rfl) fun hl147 => rC [11, 12, 15] rfl<|pR [0, 1, 2, 3, 4, 5, 6, 7, 8, 9, 10] rfl (oM 2 rfl<|onfl 1 fl_112_5 ti_23 rfl rfl<|oM 2 rfl<|ofB fl_44_1 rfl<|olB 0 ti_3 rfl rfl<|oxI sl_23 ti_3 (aO 3 rfl) om9 rfl<|olI ti_3 (aO 3 rfl) om9 rfl<|.nl) rfl<|pX (fun _ _ h_ => x_lit (n := 2) (cs := [.int .i64 ((mv / 8 : Nat) : Int), .int .i64 (nth regs.l ins.a.toNat)]) ([((mv / 8 : Nat) : Int), nth regs.l ins.a.toNat] : List Int) h_ sl_23 ti_3 rfl rfl rfl (by decide) rfl (by kernel_rfl) rfl (fun q hq w h => Flat.inner _ _) (fun q hq b hb => (Flat.on _ _ hb).elim) rfl rfl) rfl fun v148 => pR [0, 1, 2, 3, 4] rfl (oM 2 rfl<|onfl 2 fl_112_5 ti_23 rfl rfl<|.nl) rfl<|pX (fun _ _ h_ => x_app (r := 8) (rm := 0) (s := prints) (m := (⟨v148, [((mv / 8 : Nat) : Int), nth regs.l ins.a.toNat]⟩ : Ls Int)) h_ sl_23 ti_3 rfl rfl rfl rfl rfl rfl rfl (fun w h => (h.own 0 rfl)) (fun b hb => own_on (h_.sh.ok _ (List.mem_of_getElem? (i := 0) rfl)) hb) (fun q hq b hb => ⟨q, hq, hb⟩) rfl rfl rfl inferInstance (show (prints.l.length + ([((mv / 8 : Nat) : Int), nth regs.l ins.a.toNat]).length) * 8 ≤ 140737488355328 ∧ prints.l.length + ([((mv / 8 : Nat) : Int), nth regs.l ins.a.toNat]).length ≤ 140737488355328 from om9) rfl rfl) rfl fun v149 => pR [0, 13, 14] rfl (oM 1 rfl<|onf fl_112_5 rfl<|.nl) rfl<|pS (fun _ _ h_ => x_stb (i := 2) (vs := [v149]) (cs' := [code.v, pw, .int .i64 locks, .int .i64 nregs, .int .i64 mode, thr.v, words.v, owner.v, v149, .bool fell]) h_ ti_23 rfl rfl rfl rfl rfl (cells_oneL ((h_.sh.own 8 rfl)).one) rfl (allOne_cons ((h_.sh.own 8 rfl)).one allOne_nil) (Nat.le_of_ble_eq_true rfl) rfl) rfl<|pE [] rfl (.nl) rfl<|fun a151 w151 h151 => ?_
  try simp only [Exit.then, Exit.inBlock, if_true]
  refine x_end0 (fn := Try.f57) rfl h151 <| ⟨rfl, ⟨regs.v, regs.l⟩, ⟨wait.v, wait.l⟩, ⟨words.v, words.l⟩, ⟨owner.v, owner.l⟩, ⟨v149, prints.l ++ ([((mv / 8 : Nat) : Int), nth regs.l ins.a.toNat])⟩, (nth thr.l (mv / 8)).pc + 1, fell, ?_, ?_⟩
  · refine Eq.trans ?_ (doT_0 (by omega)).symm; show _ = execT mode (mv / 8) (nextIns (nth code.l (mv / 8)).l (nth thr.l (mv / 8)).pc) _; rw [← hins]; (refine Eq.trans ?_ (execT_16 (by assumption)).symm; rfl)
  ·have hz := (h151.sh.sel (L' := [_, _, _, _, _, _, _, _]) [2, 3, 4, 5, 6, 7, 8, 9] rfl)
   rw [htl] at hz; exact hz
 refine sG (oeqI _ _ rfl<|oM 1 rfl<|.nl)<|gcd rfl (fun hb153 hp153 => ?_) fun hb153 hp153 => ?_
 ·skip
  have q9 := hR.o17 (by omega)
  refine gNl (aO 6 rfl) fun hl154 => rT 8 [] (oM 1 rfl<|onfl 1 fl_112_4 ti_23 rfl rfl<|ofB fl_44_1 rfl<|olB 0 ti_3 rfl rfl<|oM 1 rfl<|oxI sl_23 ti_3 (aO 6 rfl) om9 rfl<|.nl)<|gte 6 (((mv / 8 : Nat) : Int) : Int) ti_3 om9 rfl rfl<|nN<|fun a156 w156 h156 => ?_
  try simp only [Exit.then, Exit.inBlock, if_true]
  refine x_end0 (fn := Try.f57) rfl h156 <| ⟨rfl, ⟨regs.v, regs.l⟩, ⟨wait.v, wait.l⟩, ⟨words.v, words.l⟩, ⟨owner.v, owner.l.set ins.a.toNat ((mv / 8 : Nat) : Int)⟩, ⟨prints.v, prints.l⟩, (nth thr.l (mv / 8)).pc + 1, fell, ?_, ?_⟩
  · refine Eq.trans ?_ (doT_0 (by omega)).symm; show _ = execT mode (mv / 8) (nextIns (nth code.l (mv / 8)).l (nth thr.l (mv / 8)).pc) _; rw [← hins]; (refine Eq.trans ?_ (execT_17 (by assumption)).symm; rfl)
  ·have hz := (h156.sh.sel (L' := [_, _, _, _, _, _, _, _]) [1, 2, 3, 4, 5, 6, 7, 8] rfl)
   rw [htl] at hz; exact hz
 refine sG (oeqI _ _ rfl<|oM 1 rfl<|.nl)<|gcd rfl (fun hb158 hp158 => ?_) fun hb158 hp158 => ?_
 ·skip
  have q9 := hR.o17 (by omega)
  refine gK fun _ k159 => gK fun _ k160 => gNl (aO 6 rfl) fun hl161 => rQ (oM 1 rfl<|onfl 1 fl_112_4 ti_23 rfl rfl<|ofB fl_44_1 rfl<|olB 0 ti_3 rfl rfl<|oxI sl_23 ti_3 (aO 6 rfl) om9 rfl<|olI ti_3 (aO 6 rfl) om9 rfl<|oM 1 rfl<|oneI _ _ rfl<|.nl)<|hK k160<|gF [0, 4, 5, 7, 341] rfl<|gcd rfl (fun hb162 hp162 => ?_) fun hb162 hp162 => ?_
  ·skip
   have q9 := hR.o17 (by omega)
   refine sK fun _ k163 => gRn (oM 1 rfl<|onf fl_112_6 rfl<|.nl)<|gst (v := .bool true) 1 ti_4 rfl rfl rfl<|nK k163<|gR<|uT<|uB<|fun a165 w165 h165 => x_ret0 (fn := Try.f57) rfl h165 <| ⟨rfl, ⟨regs.v, regs.l⟩, ⟨wait.v, wait.l⟩, ⟨words.v, words.l⟩, ⟨owner.v, owner.l⟩, ⟨prints.v, prints.l⟩, (nth thr.l (mv / 8)).pc + 1, true, ?_, ?_⟩
   · refine Eq.trans ?_ (doT_0 (by omega)).symm; show _ = execT mode (mv / 8) (nextIns (nth code.l (mv / 8)).l (nth thr.l (mv / 8)).pc) _; rw [← hins]; first | (refine Eq.trans ?_ (execT_18a (by assumption) (by assumption)).symm; rfl) | exact Eq.trans (store_eq hst) (execT_18c (by assumption) (by assumption) (fun q (hq : q < wait.l.length) => hall q (by omega))).symm | (refine Eq.trans ?_ (execT_18b (by assumption) (by assumption) j (by assumption) (by assumption) (by assumption)).symm; rfl)
   ·have hz := (h165.sh.sel (L' := [_, _, _, _, _, _, _, _]) [1, 2, 3, 4, 5, 6, 7, 8] rfl)
    rw [htl] at hz; exact hz
  refine gS<|hK k159<|gK fun _ k166 => sG (oM 1 rfl<|.nl)<|gB<|fun a169 w169 h169 => x_loop (fun m a w => ∃ (j : Nat), (j ≤ wait.l.length) ∧ (∀ q, q < j → ¬ ((nth wait.l q).lock = true ∧ (nth wait.l q).wh = ins.a)) ∧ St 384 K W a w [(0, .pointer (some ⟨g, 0, none⟩)), (4, .int .i64 ((mv / 8 : Nat) : Int)), (5, .pointer (some (padr thr.v 3 (mv / 8) 0))), (7, .pointer (some ⟨b31, 0, none⟩)), (12, .int .i64 ((j : Nat) : Int))] [.blk b31 44 [.int .i64 ins.op, .int .i64 ins.a, .int .i64 ins.b, .int .i64 ins.c], .blk g 112 [code.v, pw, .int .i64 locks, .int .i64 nregs, .int .i64 mode, thr.v, words.v, owner.v, prints.v, .bool fell], .own 121 (⟨thr.v, tl⟩ : Ls ThV), .own 3 regs, .own 130 wait, .own 3 words, .own 3 owner, .own 3 prints, .at_ code] ∧ m = wait.l.length - j) ⟨_, 0, (by omega), (fun q hq => absurd hq (by omega)), h169.nf ⟨rfl, rfl, rfl, rfl, rfl, trivial⟩, rfl⟩ ?_
  clear h169
  rintro m168 a168 w168 ⟨j, hj, hall, h168, hm168⟩
  refine gG h168<|gK fun _ k170 => sK fun _ k171 => gNl (aO 4 rfl) fun hl172 => gRn (oM 2 rfl<|onl rfl<|ofE fl_121_2 rfl<|oV (Rn.same (r_lde (s := (⟨thr.v, tl⟩ : Ls ThV)) (i := mv / 8) (v := ((nth tl (mv / 8)).wv)) ti_119 rfl rfl rfl (fun w h => (h.own 2 rfl)) (show mv / 8 < tl.length from om9) (Nat.le_of_ble_eq_true rfl) rfl) hwv2) rfl<|oln sl_119 (aO 4 rfl) rfl<|oltN _ _ rfl<|.nl)<|nK k171<|?_; clear h168
  refine gcd rfl (fun hb173 hp173 => ?_) fun hb173 hp173 => ?_
  ·skip
   refine gS<|hK k170<|gK fun _ k174 => gB<|gK fun _ k175 => fun a176 w176 h176 => x_quiet (by kernel_rfl) (by kernel_rfl) h176 fun _ z177 => qQ h176.fr<|qRn (oM 1 rfl<|onl rfl<|ofE fl_121_2 rfl<|oV (Rn.same (r_lde (s := (⟨thr.v, tl⟩ : Ls ThV)) (i := mv / 8) (v := ((nth tl (mv / 8)).wv)) ti_119 rfl rfl rfl (fun w h => (h.own 2 rfl)) (show mv / 8 < tl.length from om9) (Nat.le_of_ble_eq_true rfl) rfl) hwv2) rfl<|oM 1 rfl<|oxN sl_119 ti_130 (aO 4 rfl) _ om9 rfl<|ofE fl_130_0 rfl<|olE (.bool ((nth wait.l j).lock)) ti_4 (aO 4 rfl) om9 rfl<|oM 1 rfl<|.nl)<|?_
   rcases Bool.eq_false_or_eq_true ((nth wait.l j).lock) with hb178 | hb178
   ·skip
    refine qRn (oG hb178 (r_move rfl rfl) rfl<|oG hb178 (r_nil rfl rfl) rfl<|oG hb178 (r_fieldE (r := 2) fl_121_2 rfl rfl rfl) rfl<|oG hb178 (Rn.same (r_lde (s := (⟨thr.v, tl⟩ : Ls ThV)) (i := mv / 8) (v := ((nth tl (mv / 8)).wv)) ti_119 rfl rfl rfl (fun w h => (h.own 2 rfl)) (show mv / 8 < tl.length from om9) (Nat.le_of_ble_eq_true rfl) rfl) hwv2) rfl<|oG hb178 (r_move rfl rfl) rfl<|oG hb178 (r_ixN (s := wait) (q := j) sl_119 ti_130 rfl rfl rfl (fun w h => (h.own 4 rfl)) (show j < wait.l.length from om9)) rfl<|oG hb178 (r_fieldE (r := 1) fl_130_1 rfl rfl rfl) rfl<|oG hb178 (r_lde (s := wait) (i := j) (v := .int .i64 ((nth wait.l j).wh)) ti_3 rfl rfl rfl (fun w h => (h.own 4 rfl)) (show j < wait.l.length from om9) (Nat.le_of_ble_eq_true rfl) rfl) rfl<|oG hb178 (r_fieldB (r := 1) fl_44_1 rfl rfl rfl) rfl<|oG hb178 (r_ldb (i := 0) ti_3 rfl rfl rfl rfl) rfl<|oG hb178 (r_eqlI (p := (nth wait.l j).wh) (q := ins.a) rfl rfl rfl) rfl<|opT hb178 rfl<|.nl)<|qN z177<|?_; clear h176
    refine hK k175<|gF [0, 4, 5, 7, 12, 374] rfl<|gcd rfl (fun hb190 hp190 => ?_) fun hb190 hp190 => ?_
    ·skip
     refine sK fun _ k191 => gRn (oM 1 rfl<|onf fl_112_6 rfl<|.nl)<|gst (v := .bool true) 1 ti_4 rfl rfl rfl<|nK k191<|gR<|uB<|uT<|uT<|uB<|uT<|uB<|fun a193 w193 h193 => x_ret0 (fn := Try.f57) rfl h193 <| ⟨rfl, ⟨regs.v, regs.l⟩, ⟨wait.v, wait.l⟩, ⟨words.v, words.l⟩, ⟨owner.v, owner.l⟩, ⟨prints.v, prints.l⟩, (nth thr.l (mv / 8)).pc + 1, true, ?_, ?_⟩
     · refine Eq.trans ?_ (doT_0 (by omega)).symm; show _ = execT mode (mv / 8) (nextIns (nth code.l (mv / 8)).l (nth thr.l (mv / 8)).pc) _; rw [← hins]; first | (refine Eq.trans ?_ (execT_18a (by assumption) (by assumption)).symm; rfl) | exact Eq.trans (store_eq hst) (execT_18c (by assumption) (by assumption) (fun q (hq : q < wait.l.length) => hall q (by omega))).symm | (refine Eq.trans ?_ (execT_18b (by assumption) (by assumption) j (by assumption) (by assumption) (by assumption)).symm; rfl)
     ·have hz := (h193.sh.sel (L' := [_, _, _, _, _, _, _, _]) [1, 2, 3, 4, 5, 6, 7, 8] rfl)
      rw [htl] at hz; exact hz
    refine gS<|hK k174<|gL<|gRn (oM 1 rfl<|oadN _ 1 om9 rfl<|oM 1 rfl<|.nl)<|nN<|fun a194 w194 h194 => x_again ⟨_, ?_, j + 1, ?_, ?_, h194.nf ⟨rfl, rfl, rfl, rfl, rfl, trivial⟩, rfl⟩
    · rw [hm168]; first | omega | (simp only [lens9]; omega)
    · omega
    · intro q hq; rcases Nat.lt_or_ge q j with h9 | h9; (exact hall q h9); obtain rfl : q = j := (by omega); first | (rintro ⟨h8, _⟩; exact absurd (h8.symm.trans (show _ = false by assumption)) (by decide)) | (rintro ⟨_, h8⟩; omega)
   refine qRn (oKs 11 hb178 rfl rfl<|opF hb178 rfl<|.nl)<|qN z177<|?_; clear h176
   refine hK k175<|gF [0, 4, 5, 7, 12, 374] rfl<|gcF rfl rfl<|gS<|hK k174<|gL<|gRn (oM 1 rfl<|oadN _ 1 om9 rfl<|oM 1 rfl<|.nl)<|nN<|fun a196 w196 h196 => x_again ⟨_, ?_, j + 1, ?_, ?_, h196.nf ⟨rfl, rfl, rfl, rfl, rfl, trivial⟩, rfl⟩
   · rw [hm168]; first | omega | (simp only [lens9]; omega)
   · omega
   · intro q hq; rcases Nat.lt_or_ge q j with h9 | h9; (exact hall q h9); obtain rfl : q = j := (by omega); first | (rintro ⟨h8, _⟩; exact absurd (h8.symm.trans (show _ = false by assumption)) (by decide)) | (rintro ⟨_, h8⟩; omega)
  refine gX<|hK k166<|gL<|gRn (oM 2 rfl<|ofB fl_44_1 rfl<|olB 0 ti_3 rfl rfl<|oV (r_build (cs := [.bool true, .int .i64 ins.a, .int .i64 0]) rfl rfl (by kernel_rfl)) rfl<|.nl)<|gO [1, 2, 4, 5, 6, 0, 3, 7, 8] rfl<|gM 5 rfl (fun _ _ h_ => xCl h_ bd_74 rfl (store_c _ _ (mv / 8) (⟨true, ins.a, 0⟩ : Wt) (⟨thr.v, tl⟩ : Ls ThV) wait words owner _ _ _ _ _ _ _ _ (pKl 5 h_ rfl) (by first | (simp only [if_true]; omega) | (simp only [Bool.false_eq_true, if_false]; omega)) (show mv / 8 < tl.length by omega) hwv2 (by omega))) rfl<|?_
  rintro _ _ w199 ⟨rfl, wait199, words199, owner199, hst, hs199⟩
  refine gBk hs199 rfl<|gU<|nN<|fun a200 w200 h200 => ?_; clear hs199
  try simp only [Exit.then, Exit.inBlock, if_true]
  refine x_end0 (fn := Try.f57) rfl h200 <| ⟨rfl, ⟨regs.v, regs.l⟩, ⟨wait199.v, wait199.l⟩, ⟨words199.v, words199.l⟩, ⟨owner199.v, owner199.l⟩, ⟨prints.v, prints.l⟩, (nth thr.l (mv / 8)).pc + 1, fell, ?_, ?_⟩
  · refine Eq.trans ?_ (doT_0 (by omega)).symm; show _ = execT mode (mv / 8) (nextIns (nth code.l (mv / 8)).l (nth thr.l (mv / 8)).pc) _; rw [← hins]; first | (refine Eq.trans ?_ (execT_18a (by assumption) (by assumption)).symm; rfl) | exact Eq.trans (store_eq hst) (execT_18c (by assumption) (by assumption) (fun q (hq : q < wait.l.length) => hall q (by omega))).symm | (refine Eq.trans ?_ (execT_18b (by assumption) (by assumption) j (by assumption) (by assumption) (by assumption)).symm; rfl)
  ·have hz := (h200.sh.sel (L' := [_, _, _, _, _, _, _, _]) [0, 1, 6, 2, 3, 4, 7, 8] rfl)
   rw [thset_wv ht htl] at hz; exact hz
 refine gS<|fun a201 w201 h201 => ?_
 try simp only [Exit.then, Exit.inBlock, if_true]
 refine x_end0 (fn := Try.f57) rfl h201 <| ⟨rfl, ⟨regs.v, regs.l⟩, ⟨wait.v, wait.l⟩, ⟨words.v, words.l⟩, ⟨owner.v, owner.l⟩, ⟨prints.v, prints.l⟩, (nth thr.l (mv / 8)).pc + 1, fell, ?_, ?_⟩
 · refine Eq.trans ?_ (doT_0 (by omega)).symm; show _ = execT mode (mv / 8) (nextIns (nth code.l (mv / 8)).l (nth thr.l (mv / 8)).pc) _; rw [← hins]; (refine Eq.trans ?_ (execT_no (by omega)).symm; rfl)
 ·have hz := (h201.sh.sel (L' := [_, _, _, _, _, _, _, _]) [1, 2, 3, 4, 5, 6, 7, 8] rfl)
  rw [htl] at hz; exact hz

end Go.Proofs.Ytmgikmjmdppfmaa
