/-
  The machine's law in plain Lean: states that may be. No program is in sight.
-/
import Derived.Test.YtmgikmjmdppfmaaX18
import Derived.Test.YtmgikmjmdppfmaaS9
import Derived.Test.YtmgikmjmdppfmaaS10
namespace Go.Proofs.Ytmgikmjmdppfmaa
open Go.RowKit
set_option linter.unusedSimpArgs false
set_option linter.unusedVariables false

/-! ### Orders that may be -/
theorem fit_r {p : Pg} {size n : Int} (h : fitsG p size 114 n = true) : 0 ≤ n ∧ n < p.regs := by
  unfold fitsG at h
  simp only [Int.reduceEq, if_false, if_true, Bool.and_eq_true, decide_eq_true_eq] at h
  exact h
theorem fit_w {p : Pg} {size n : Int} (h : fitsG p size 119 n = true) : 0 ≤ n ∧ n < p.words.length := by
  unfold fitsG at h
  simp only [Int.reduceEq, if_false, if_true, Bool.and_eq_true, decide_eq_true_eq] at h
  exact h
theorem fit_l {p : Pg} {size n : Int} (h : fitsG p size 108 n = true) : 0 ≤ n ∧ n < p.locks := by
  unfold fitsG at h
  simp only [Int.reduceEq, if_false, if_true, Bool.and_eq_true, decide_eq_true_eq] at h
  exact h
theorem fit_c {p : Pg} {size n : Int} (hs : 0 ≤ size ∧ size ≤ 100000) (h : fitsG p size 99 n = true) : 0 ≤ n ∧ n ≤ size := by
  unfold fitsG at h
  simp only [Int.reduceEq, if_false, if_true, Bool.and_eq_true, decide_eq_true_eq] at h
  rw [IntWalk.wrap64_in _ ⟨by omega, by omega⟩] at h
  omega
theorem num0 {p : Pg} {size : Int} {x : Ins} (h : okNumG p size x 0 = true) {b : UInt8} {r : List UInt8} (hk : kindsB x.op = ⟨(b :: r).toArray⟩) : fitsG p size (b.toNat : Int) x.a = true := by
  unfold okNumG at h
  rw [hk] at h
  rw [dif_pos (by simp [ByteArray.size])] at h
  exact h
theorem num1 {p : Pg} {size : Int} {x : Ins} (h : okNumG p size x 1 = true) {a b : UInt8} {r : List UInt8} (hk : kindsB x.op = ⟨(a :: b :: r).toArray⟩) : fitsG p size (b.toNat : Int) x.b = true := by
  unfold okNumG at h
  rw [hk] at h
  rw [dif_pos (by simp [ByteArray.size])] at h
  exact h
theorem num2 {p : Pg} {size : Int} {x : Ins} (h : okNumG p size x 2 = true) {a b c : UInt8} {r : List UInt8} (hk : kindsB x.op = ⟨(a :: b :: c :: r).toArray⟩) : fitsG p size (c.toNat : Int) x.c = true := by
  unfold okNumG at h
  rw [hk] at h
  rw [dif_pos (by simp [ByteArray.size])] at h
  exact h
theorem insR_ok {p : Pg} {size : Int} {x : Ins} (hs : 0 ≤ size ∧ size ≤ 100000) (hr : 0 ≤ p.regs) (hl : 0 ≤ p.locks) (h : OkIns p size x) : InsR p.regs.toNat p.words.length p.locks.toNat x ∧ (x.op = 14 → 0 ≤ x.a ∧ x.a ≤ size) ∧ (x.op = 15 → 0 ≤ x.b ∧ x.b ≤ size) := by
  have er : (p.regs.toNat : Int) = p.regs := Int.toNat_of_nonneg hr
  have el : (p.locks.toNat : Int) = p.locks := Int.toNat_of_nonneg hl
  have h0 := h.n0
  have h1 := h.n1
  have h2 := h.n2
  refine ⟨⟨fun e => ?_, fun e => ?_, fun e => ?_, fun e => ?_, fun e => ?_, fun e => ?_, fun e => ?_, fun e => ?_, fun e => ?_⟩, fun e => ?_, fun e => ?_⟩
  · have k : kindsB x.op = ⟨[114, 110].toArray⟩ := by rw [e]; unfold kindsB; simp
    rw [er]; exact fit_r (num0 h0 k)
  · have k : kindsB x.op = ⟨[114, 114].toArray⟩ := by rw [e]; unfold kindsB; simp
    rw [er]; exact ⟨fit_r (num0 h0 k), fit_r (num1 h1 k)⟩
  · have k : kindsB x.op = ⟨[114, 114, 114].toArray⟩ := by rcases e with e | e | e | e | e <;> (rw [e]; unfold kindsB; simp)
    rw [er]; exact ⟨fit_r (num0 h0 k), fit_r (num1 h1 k), fit_r (num2 h2 k)⟩
  · have k : kindsB x.op = ⟨[114, 119].toArray⟩ := by rw [e]; unfold kindsB; simp
    rw [er]; exact ⟨fit_r (num0 h0 k), fit_w (num1 h1 k)⟩
  · have k : kindsB x.op = ⟨[119, 114].toArray⟩ := by rw [e]; unfold kindsB; simp
    rw [er]; exact ⟨fit_w (num0 h0 k), fit_r (num1 h1 k)⟩
  · have k : kindsB x.op = ⟨[114, 114].toArray⟩ := by rcases e with e | e <;> (rw [e]; unfold kindsB; simp)
    rw [er]; exact ⟨fit_r (num0 h0 k), fit_r (num1 h1 k)⟩
  · have k : kindsB x.op = ⟨[119, 114, 114].toArray⟩ := by rw [e]; unfold kindsB; simp
    rw [er]; exact ⟨fit_w (num0 h0 k), fit_r (num1 h1 k), fit_r (num2 h2 k)⟩
  · rw [er]
    rcases e with e | e
    · have k : kindsB x.op = ⟨[114, 99].toArray⟩ := by rw [e]; unfold kindsB; simp
      exact fit_r (num0 h0 k)
    · have k : kindsB x.op = ⟨[114].toArray⟩ := by rw [e]; unfold kindsB; simp
      exact fit_r (num0 h0 k)
  · have k : kindsB x.op = ⟨[108].toArray⟩ := by rcases e with e | e <;> (rw [e]; unfold kindsB; simp)
    rw [el]; exact fit_l (num0 h0 k)
  · have k : kindsB x.op = ⟨[99].toArray⟩ := by rw [e]; unfold kindsB; simp
    exact fit_c hs (num0 h0 k)
  · have k : kindsB x.op = ⟨[114, 99].toArray⟩ := by rw [e]; unfold kindsB; simp
    exact fit_c hs (num1 h1 k)
theorem OkPg.insR {p : Pg} (h : OkPg p) {t i : Nat} (ht : t < p.code.length) (hi : i < (nth p.code t).length) : InsR p.regs.toNat p.words.length p.locks.toNat (nth (nth p.code t) i) ∧ ((nth (nth p.code t) i).op = 14 → 0 ≤ (nth (nth p.code t) i).a ∧ (nth (nth p.code t) i).a ≤ (nth p.code t).length) ∧ ((nth (nth p.code t) i).op = 15 → 0 ≤ (nth (nth p.code t) i).b ∧ (nth (nth p.code t) i).b ≤ (nth p.code t).length) := by
  have hl := h.len t ht
  have := h.regs
  have := h.locks
  exact insR_ok ⟨by omega, by omega⟩ (by omega) (by omega) (h.ins t i ht hi)

/-! ### States that may be -/
structure WfS (R W L C : Nat) (x : TS) : Prop where
  pc : 0 ≤ x.pc ∧ x.pc ≤ C
  regs : x.regs.length = R
  wait : x.wait.length ≤ 3
  wt : ∀ w ∈ x.wait, if w.lock = true then 0 ≤ w.wh ∧ w.wh < L else 0 ≤ w.wh ∧ w.wh < W
  words : x.words.length = W
  owner : x.owner.length = L
section
variable {R W L C : Nat} {x : TS}
theorem WfS.put (h : WfS R W L C x) (k v : Int) : WfS R W L C (x.put k v) := ⟨h.pc, by simpa [TS.put] using h.regs, h.wait, h.wt, h.words, h.owner⟩
theorem WfS.fell (h : WfS R W L C x) : WfS R W L C { x with fell := true } := ⟨h.pc, h.regs, h.wait, h.wt, h.words, h.owner⟩
theorem WfS.done (h : WfS R W L C x) (w : Wt) : WfS R W L C (x.done w) := by
  refine ⟨h.pc, h.regs, h.wait, h.wt, ?_, ?_⟩
  · show (if w.lock = true then x.words else x.words.set w.wh.toNat w.what).length = W
    split
    · exact h.words
    · rw [List.length_set]; exact h.words
  · show (if w.lock = true then x.owner.set w.wh.toNat (-1) else x.owner).length = L
    split
    · rw [List.length_set]; exact h.owner
    · exact h.owner
theorem WfS.store (h : WfS R W L C x) {m : Int} {w : Wt} (hw : if w.lock = true then 0 ≤ w.wh ∧ w.wh < L else 0 ≤ w.wh ∧ w.wh < W) (hl : x.wait.length < 3) : WfS R W L C (x.store m w) := by
  unfold TS.store
  split
  · refine ⟨h.pc, h.regs, by simp; omega, fun y hy => ?_, h.words, h.owner⟩
    rcases List.mem_append.1 hy with hy | hy
    · exact h.wt y hy
    · obtain rfl : y = w := by simpa using hy
      exact hw
  · exact h.done w
theorem WfS.exec (h : WfS R W L C x) {m : Int} {n : Nat} {i : Ins} (hR : InsR R W L i) (h14 : i.op = 14 → 0 ≤ i.a ∧ i.a ≤ C) (h15 : i.op = 15 → 0 ≤ i.b ∧ i.b ≤ C) (ha : ableL x.owner x.wait.length i = true) : WfS R W L C (execT m n i x) := by
  have hst : i.op = 9 ∨ i.op = 11 ∨ i.op = 18 → x.wait.length < 3 := by
    intro e
    unfold ableL at ha
    rw [if_pos e] at ha
    exact of_decide_eq_true ha
  by_cases e1 : i.op = 1
  · rw [execT_1 e1]; exact h.put _ _
  by_cases e2 : i.op = 2
  · rw [execT_2 e2]; exact h.put _ _
  by_cases e3 : i.op = 3
  · rw [execT_3 e3]; exact h.put _ _
  by_cases e4 : i.op = 4
  · rw [execT_4 e4]; exact h.put _ _
  by_cases e5 : i.op = 5
  · rw [execT_5 e5]; exact h.put _ _
  by_cases e6 : i.op = 6
  · rw [execT_6 e6]; exact h.put _ _
  by_cases e7 : i.op = 7
  · rw [execT_7 e7]; exact h.put _ _
  by_cases e8 : i.op = 8
  · rw [execT_8 e8]; exact h.put _ _
  by_cases e9 : i.op = 9
  · rw [execT_9 e9]
    have q := hR.o9 e9
    exact h.store (by show if (false = true) then _ else _; rw [if_neg Bool.false_ne_true]; exact q.1) (hst (.inl e9))
  by_cases e10 : i.op = 10
  · by_cases hw : 0 ≤ x.reg i.b ∧ x.reg i.b < (x.words.length : Int)
    · rw [execT_10t e10 hw]; exact h.put _ _
    · rw [execT_10f e10 hw]; exact h.fell
  by_cases e11 : i.op = 11
  · by_cases hw : 0 ≤ x.reg i.a ∧ x.reg i.a < (x.words.length : Int)
    · rw [execT_11t e11 hw]
      rw [h.words] at hw
      exact h.store (by show if (false = true) then _ else _; rw [if_neg Bool.false_ne_true]; exact hw) (hst (.inr (.inl e11)))
    · rw [execT_11f e11 hw]; exact h.fell
  by_cases e13 : i.op = 13
  · by_cases hw : nth x.words i.a.toNat = x.reg i.b
    · rw [execT_13t e13 hw]
      exact ⟨h.pc, by simpa using h.regs, h.wait, h.wt, by simpa using h.words, h.owner⟩
    · rw [execT_13f e13 hw]; exact h.put _ _
  by_cases e14 : i.op = 14
  · rw [execT_14 e14]; exact ⟨h14 e14, h.regs, h.wait, h.wt, h.words, h.owner⟩
  by_cases e15 : i.op = 15
  · by_cases hw : x.reg i.a = 0
    · rw [execT_15t e15 hw]; exact ⟨h15 e15, h.regs, h.wait, h.wt, h.words, h.owner⟩
    · rw [execT_15f e15 hw]; exact h
  by_cases e16 : i.op = 16
  · rw [execT_16 e16]; exact ⟨h.pc, h.regs, h.wait, h.wt, h.words, h.owner⟩
  by_cases e17 : i.op = 17
  · rw [execT_17 e17]; exact ⟨h.pc, h.regs, h.wait, h.wt, h.words, by simpa using h.owner⟩
  by_cases e18 : i.op = 18
  · have q := hR.o17 (.inr e18)
    by_cases hw : nth x.owner i.a.toNat ≠ n
    · rw [execT_18a e18 hw]; exact h.fell
    · by_cases hh : ∃ j, j < x.wait.length ∧ (nth x.wait j).lock = true ∧ (nth x.wait j).wh = i.a
      · obtain ⟨j, hj, h1, h2⟩ := hh
        rw [execT_18b e18 hw j hj h1 h2]; exact h.fell
      · rw [execT_18c e18 hw (fun q hq hc => hh ⟨q, hq, hc⟩)]
        exact h.store (by show if (true = true) then _ else _; rw [if_pos rfl]; exact q) (hst (.inr (.inr e18)))
  rw [execT_no ⟨e1, e2, e3, e4, e5, e6, e7, e8, e9, e10, e11, e13, e14, e15, e16, e17, e18⟩]
  exact h
end
theorem mvOK_k {m : Int} {c : List Ins} {x : TS} {k : Nat} (h : mvOK m c x k = true) : (k = 0 ∧ x.pc < c.length ∧ ableL x.owner x.wait.length (nextIns c x.pc) = true) ∨ (0 < k ∧ k ≤ x.wait.length ∧ mayK m x.wait (k - 1) = true) := by
  unfold mvOK at h
  split at h
  · rename_i hk
    left
    unfold ableV at h
    simp only [Bool.and_eq_true, decide_eq_true_eq] at h
    exact ⟨hk, h⟩
  · right
    simp only [Bool.and_eq_true, decide_eq_true_eq] at h
    exact ⟨by omega, h⟩
theorem WfS.doT {R W L : Nat} {x : TS} {m : Int} {n k : Nat} {c : List Ins} (h : WfS R W L c.length x) (hR : ∀ i, i < c.length → InsR R W L (nth c i) ∧ ((nth c i).op = 14 → 0 ≤ (nth c i).a ∧ (nth c i).a ≤ c.length) ∧ ((nth c i).op = 15 → 0 ≤ (nth c i).b ∧ (nth c i).b ≤ c.length)) (hk : mvOK m c x k = true) : WfS R W L c.length (Go.Proofs.Ytmgikmjmdppfmaa.doT m n c k x) := by
  have hpc := h.pc
  rcases mvOK_k hk with ⟨rfl, h1, h2⟩ | ⟨h1, h2, h3⟩
  · rw [doT_0 rfl]
    have hn : nextIns c x.pc = nth c x.pc.toNat := nextIns_t h1
    obtain ⟨q1, q2, q3⟩ := hR x.pc.toNat (by omega)
    rw [hn] at h2 ⊢
    exact WfS.exec (x := { x with pc := x.pc + 1 }) ⟨⟨by show 0 ≤ x.pc + 1; omega, by show x.pc + 1 ≤ _; omega⟩, h.regs, h.wait, h.wt, h.words, h.owner⟩ q1 q2 q3 h2
  · unfold Go.Proofs.Ytmgikmjmdppfmaa.doT
    rw [if_pos h1]
    have hd := h.done (nth x.wait (k - 1))
    exact ⟨hd.pc, hd.regs, by show (x.wait.eraseIdx (k - 1)).length ≤ 3; have := List.length_eraseIdx_le x.wait (k - 1); have := h.wait; omega, fun w hw => h.wt w (List.mem_of_mem_eraseIdx hw), hd.words, hd.owner⟩

structure Wf (p : Pg) (s : MSt) : Prop where
  ths : s.ths.length = p.code.length
  th : ∀ t, t < p.code.length → WfS p.regs.toNat p.words.length p.locks.toNat (nth p.code t).length (s.view t)
  words : s.words.length = p.words.length
  owner : s.owner.length = p.locks.toNat
theorem nth_set0 {α : Type} [Inhabited α] (l : List α) (i k : Nat) (x : α) : nth (l.set i x) k = if i = k ∧ i < l.length then x else nth l k := by
  simp only [nth, List.getD, List.getElem?_set]
  by_cases h : i = k
  · subst h
    by_cases h2 : i < l.length <;> simp [h2]
  · simp [h]
theorem putT_view {s : MSt} {t : Nat} {y : TS} (ht : t < s.ths.length) : (s.putT t y).view t = { y with fell := false } := by
  unfold MSt.view MSt.putT
  simp [nth_set0, ht]
theorem putT_other {s : MSt} {t u : Nat} {y : TS} (h : t ≠ u) : (s.putT t y).view u = ⟨(s.view u).pc, (s.view u).regs, (s.view u).wait, y.words, y.owner, y.prints, false⟩ := by
  unfold MSt.view MSt.putT
  simp only [nth_set0]
  rw [if_neg (fun hh => h hh.1)]
theorem Wf.begin_ {p : Pg} (h : OkPg p) : Wf p (begin_ p) := by
  refine ⟨by simp [Go.Proofs.Ytmgikmjmdppfmaa.begin_], fun t ht => ?_, rfl, by simp [Go.Proofs.Ytmgikmjmdppfmaa.begin_]⟩
  have e : nth (Go.Proofs.Ytmgikmjmdppfmaa.begin_ p).ths t = ⟨0, List.replicate p.regs.toNat 0, []⟩ := by
    unfold Go.Proofs.Ytmgikmjmdppfmaa.begin_
    rw [nth_map' _ _ _ ht]
  unfold MSt.view
  rw [e]
  exact ⟨⟨Int.le_refl _, by simp⟩, by simp, by simp, fun w hw => (by cases hw), rfl, by simp [Go.Proofs.Ytmgikmjmdppfmaa.begin_]⟩
theorem Wf.step {p : Pg} (hok : OkPg p) {s : MSt} (h : Wf p s) {m : Int} {t k : Nat} (ht : t < p.code.length) (hk : mvOK m (nth p.code t) (s.view t) k = true) : Wf p (s.putT t (stepT p m s t k)) := by
  have h1 := (h.th t ht).doT (m := m) (n := t) (fun i hi => hok.insR ht hi) hk
  refine ⟨by simpa [MSt.putT] using h.ths, fun u hu => ?_, h1.words, h1.owner⟩
  by_cases e : t = u
  · subst e
    rw [putT_view (by rw [h.ths]; exact ht)]
    exact ⟨h1.pc, h1.regs, h1.wait, h1.wt, h1.words, h1.owner⟩
  · rw [putT_other e]
    have h2 := h.th u hu
    exact ⟨h2.pc, h2.regs, h2.wait, h2.wt, h1.words, h1.owner⟩

/-! ### Runs and outcomes -/
inductive Reach (p : Pg) (m : Int) : MSt → Prop
  | start : Reach p m (begin_ p)
  | step {s : MSt} {t k : Nat} : Reach p m s → t < p.code.length → mvOK m (nth p.code t) (s.view t) k = true → (stepT p m s t k).fell = false → Reach p m (s.putT t (stepT p m s t k))
def Stuck_ (p : Pg) (m : Int) (s : MSt) : Prop := ∀ t k, t < p.code.length → mvOK m (nth p.code t) (s.view t) k = false
/-- What runs come to. -/
inductive Outs (p : Pg) (m : Int) : Outc → Prop
  | done {s : MSt} : Reach p m s → ended p s = true → Outs p m ⟨0, s.words, s.prints⟩
  | stuck {s : MSt} : Reach p m s → ended p s = false → Stuck_ p m s → Outs p m ⟨2, s.words, s.prints⟩
  | fell {s : MSt} {t k : Nat} : Reach p m s → t < p.code.length → mvOK m (nth p.code t) (s.view t) k = true → (stepT p m s t k).fell = true → Outs p m ⟨1, [], (stepT p m s t k).prints⟩
theorem Reach.wf {p : Pg} (hok : OkPg p) {m : Int} {s : MSt} (h : Reach p m s) : Wf p s := by
  induction h with
  | start => exact Wf.begin_ hok
  | step _ ht hk _ ih => exact ih.step hok ht hk
end Go.Proofs.Ytmgikmjmdppfmaa
