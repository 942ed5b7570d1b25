/-
  Which registers are live, which clash: least solutions, in plain Lean. No program is in sight.
-/
import Derived.Test.YtmgikmjmdppfmaaX10
import Derived.Test.YtmgikmjmdppfmaaX32
import Derived.Test.YtmgikmjmdppfmaaS14
namespace Go.Proofs.Ytmgikmjmdppfmaa
open Go.RowKit
set_option linter.unusedSimpArgs false
set_option linter.unusedVariables false

/-- The registers that an order reads. -/
def rdG (x : Ins) : List Int :=
  if x.op = 2 ∨ x.op = 9 ∨ x.op = 10 then [x.b]
  else if (3 ≤ x.op ∧ x.op ≤ 7) ∨ x.op = 13 then [x.b, x.c]
  else if x.op = 11 then [x.a, x.b]
  else if x.op = 15 ∨ x.op = 16 then [x.a]
  else []
theorem rdG_len (x : Ins) : (rdG x).length ≤ 2 := by unfold rdG; (repeat' split) <;> simp
inductive LiveI (code : List Ins) (r : Nat) : Nat → Prop
  | read (i : Nat) : i < code.length → (r : Int) ∈ rdG (nth code i) → LiveI code r i
  | pass (i : Nat) (y : Int) : i < code.length → wrG (nth code i) ≠ (r : Int) → y ∈ nextsL code i → LiveI code r y.toNat → LiveI code r i
/-- Is a register needed ahead of an order, when one knows what is needed behind it? -/
def needB (g : Nat → Bool) (code : List Ins) (i r : Nat) : Bool :=
  ((rdG (nth code i)).any fun v => decide (v = (r : Int))) || (decide (wrG (nth code i) ≠ (r : Int)) && (nextsL code i).any fun y => g y.toNat)
theorem need_live {g : Nat → Bool} {code : List Ins} {i r : Nat} (hi : i < code.length) (hg : ∀ j, g j = true → LiveI code r j) (h : needB g code i r = true) : LiveI code r i := by
  unfold needB at h
  rcases (Bool.or_eq_true _ _).mp h with h | h
  · obtain ⟨v, hv, e⟩ := List.any_eq_true.1 h
    have e := of_decide_eq_true e
    subst e
    exact .read i hi hv
  · obtain ⟨h1, h2⟩ := (Bool.and_eq_true _ _).mp h
    obtain ⟨y, hy, e⟩ := List.any_eq_true.1 h2
    exact .pass i y hi (of_decide_eq_true h1) hy (hg _ e)
theorem need_mono {g g' : Nat → Bool} {code : List Ins} {i r : Nat} (hg : ∀ j, g j = true → g' j = true) (h : needB g code i r = true) : needB g' code i r = true := by
  unfold needB at h ⊢
  rcases (Bool.or_eq_true _ _).mp h with h | h
  · rw [h, Bool.true_or]
  · obtain ⟨h1, h2⟩ := (Bool.and_eq_true _ _).mp h
    obtain ⟨y, hy, e⟩ := List.any_eq_true.1 h2
    rw [h1, Bool.true_and, List.any_eq_true.2 ⟨y, hy, hg _ e⟩, Bool.or_true]
theorem live_all {g : Nat → Bool} {code : List Ins} {r : Nat} (hs : ∀ j, g j = true → LiveI code r j) (hc : ∀ i, i < code.length → needB g code i r = true → g i = true) (j : Nat) : g j = true ↔ LiveI code r j := by
  refine ⟨hs j, fun h => ?_⟩
  induction h with
  | read i hi hr =>
    refine hc i hi ?_
    unfold needB
    rw [List.any_eq_true.2 ⟨_, hr, decide_eq_true rfl⟩, Bool.true_or]
  | pass i y hi hw hy _ ih =>
    refine hc i hi ?_
    unfold needB
    rw [decide_eq_true hw, List.any_eq_true.2 ⟨y, hy, ih⟩, Bool.true_and, Bool.or_true]
theorem any_step {β : Type} [Inhabited β] {l : List β} {p : β → Bool} {k : Nat} (hk : k < l.length) : (l.take (k + 1)).any p = ((l.take k).any p || p (nth l k)) := by
  rw [List.take_add_one, List.any_append, List.getElem?_eq_getElem hk, nth_lt _ _ hk]
  simp
theorem any_zero {β : Type} {l : List β} {p : β → Bool} : (l.take 0).any p = false := by simp
theorem any_all {β : Type} {l : List β} {p : β → Bool} {k : Nat} (hk : l.length ≤ k) : (l.take k).any p = l.any p := by rw [List.take_of_length_le hk]
theorem nextsV_ok {code : List Ins} (hj : JumpsOK code) {k : Nat} (hk : k < code.length) {y : Int} (hy : y ∈ nextsL code k) : 0 ≤ y ∧ y ≤ code.length := by
  have := hj k hk
  unfold nextsL at hy
  split at hy
  · rename_i h; obtain rfl : y = _ := by simpa using hy
    exact this.1 h
  · split at hy
    · rename_i h
      rcases (by simpa using hy : y = _ ∨ y = _) with rfl | rfl
      · omega
      · exact this.2 h
    · obtain rfl : y = _ := by simpa using hy
      omega
theorem nextsV_len (code : List Ins) (k : Nat) : (nextsL code k).length ≤ 2 := by
  unfold nextsL
  split
  · simp
  · split <;> simp
/-! ### Counting -/
def cntV (l : List Bool) : Nat := l.countP id
theorem cntV_le (l : List Bool) : cntV l ≤ l.length := List.countP_le_length
theorem cntV_lt : ∀ {l m : List Bool}, l.length = m.length → (∀ r, nth l r = true → nth m r = true) → cntV l ≤ cntV m ∧ (l ≠ m → cntV l < cntV m)
  | [], [], _, _ => ⟨Nat.le_refl _, fun h => absurd rfl h⟩
  | [], _ :: _, h, _ => by simp at h
  | _ :: _, [], h, _ => by simp at h
  | b :: l, c :: m, hl, h => by
    have ih := cntV_lt (l := l) (m := m) (by simpa using hl) fun r hr => h (r + 1) (by simpa [nth] using hr)
    have h0 : b = true → c = true := fun hb => h 0 hb
    have e : ∀ (b : Bool) (l : List Bool), cntV (b :: l) = cntV l + if b = true then 1 else 0 := fun b l => by simp [cntV, List.countP_cons]
    rw [e, e]
    cases b with
    | true =>
      have hc := h0 rfl
      subst hc
      refine ⟨by have := ih.1; omega, fun hn => ?_⟩
      have := ih.2 (fun e => hn (by rw [e]))
      omega
    | false =>
      cases c with
      | true => exact ⟨by have := ih.1; simp; omega, fun _ => by have := ih.1; simp; omega⟩
      | false =>
        refine ⟨by have := ih.1; omega, fun hn => ?_⟩
        have := ih.2 (fun e => hn (by rw [e]))
        omega
theorem zerosV (n j : Nat) : nth (List.replicate n false) j = false := by
  rcases Nat.lt_or_ge j n with h | h
  · exact nth_replicate _ _ _ h
  · simp [nth, List.getD, h]
/-! ### One register alone -/
structure VI (code : List Ins) (r : Nat) (l : List Bool) : Prop where
  l1 : l.length = code.length + 1
  s1 : ∀ j, nth l j = true → LiveI code r j
theorem VI.start (code : List Ins) (r : Nat) : VI code r (List.replicate (code.length + 1) false) := ⟨by simp, fun j hj => by rw [zerosV] at hj; cases hj⟩
theorem VI.set {code : List Ins} {r k : Nat} {l : List Bool} (h : VI code r l) (hk : k < code.length) (hn : needB (nth l) code k r = true) : VI code r (l.set k true) := by
  refine ⟨by simpa using h.l1, fun j hj => ?_⟩
  rw [nth_set] at hj
  split at hj
  · rename_i hh; obtain ⟨rfl, _⟩ := hh
    exact need_live hk h.s1 hn
  · exact h.s1 j hj
theorem VI.fin {code : List Ins} {r : Nat} {l : List Bool} (h : VI code r l) (hc : ∀ i, i < code.length → needB (nth l) code i r = true → nth l i = true) : ∀ j, nth l j = true ↔ LiveI code r j := live_all h.s1 hc
/-- A round's end, with nothing new. -/
theorem vr_same {α : Type} {C : α → Nat → Prop} {l l2 : α} {ag2 : Bool} {j n : Nat} (h20 : ag2 = false → l2 = l ∧ ∀ i, j + 1 ≤ i → i < n → C l2 i) (hs : C l2 j) : ag2 = false → l2 = l ∧ ∀ i, j ≤ i → i < n → C l2 i := by
  intro h
  obtain ⟨e, hc⟩ := h20 h
  refine ⟨e, fun i h1 h2 => ?_⟩
  rcases Nat.lt_or_ge j i with h9 | h9
  · exact hc i h9 h2
  · obtain rfl : i = j := by omega
    exact hs
theorem vr_down {ag ag2 : Bool} {α : Type} {C : Prop} {l l2 : α} {c c2 n : Nat} (h : ag = true) (h0 : c2 ≤ n) (h20 : ag2 = false → l2 = l ∧ C) (he : l2 = l → c2 = c) (h21 : ag2 = true → c < c2) :
    (bif ag2 then 1 else 0) + 2 * (n - c2) < (bif ag then 1 else 0) + 2 * (n - c) := by
  subst h
  cases ag2 with
  | false =>
    have := he (h20 rfl).1
    subst this
    simp only [cond_true, cond_false]
    omega
  | true =>
    have := h21 rfl
    simp only [cond_true]
    omega
theorem vr_le {ag2 : Bool} {α : Type} {C : Prop} {l l2 : α} {c c2 : Nat} (h20 : ag2 = false → l2 = l ∧ C) (he : l2 = l → c2 = c) (h21 : ag2 = true → c < c2) : c ≤ c2 := by
  cases ag2 with
  | false => rw [he (h20 rfl).1]; exact Nat.le_refl _
  | true => exact Nat.le_of_lt (h21 rfl)
/-! ### All registers at once -/
def cntA (a : List BArr) : Nat := (a.map fun x => cntV x.l).sum
theorem cntA_set : ∀ {a : List BArr} {k : Nat} {x : BArr}, k < a.length → cntA (a.set k x) + cntV (nth a k).l = cntA a + cntV x.l
  | [], _, _, h => by simp at h
  | y :: a, 0, x, _ => by simp [cntA, nth]; omega
  | y :: a, k + 1, x, h => by
    have ih := cntA_set (a := a) (k := k) (x := x) (by simpa using h)
    simp only [cntA, List.set_cons_succ, List.map_cons, List.sum_cons] at ih ⊢
    have e : nth (y :: a) (k + 1) = nth a k := by simp [nth]
    rw [e]
    omega
theorem cntA_le : ∀ {a : List BArr}, (∀ j, j < a.length → (nth a j).l.length = 200) → cntA a ≤ 200 * a.length
  | [], _ => by simp [cntA]
  | y :: a, h => by
    have ih := cntA_le (a := a) fun j hj => by have := h (j + 1) (by simpa using hj); simpa [nth] using this
    have h0 := h 0 (by simp)
    have h1 : cntV y.l ≤ 200 := by
      have : y.l.length = 200 := h0
      rw [← this]; exact cntV_le _
    simp only [cntA, List.map_cons, List.sum_cons, List.length_cons] at ih ⊢
    omega
def col (a : List BArr) (r : Nat) : Nat → Bool := fun j => nth (nth a j).l r
structure AI (code : List Ins) (a : List BArr) : Prop where
  l1 : a.length = code.length + 1
  l2 : ∀ j, j < a.length → (nth a j).l.length = 200
  s1 : ∀ r j, col a r j = true → LiveI code r j
  pf : ∀ r j, j < code.length → col a r j = true → needB (col a r) code j r = true
theorem col_zero (n r j : Nat) : col (List.replicate n ⟨List.replicate 200 false⟩) r j = false := by
  unfold col
  rcases Nat.lt_or_ge j n with h | h
  · have : nth (List.replicate n (⟨List.replicate 200 false⟩ : BArr)) j = ⟨List.replicate 200 false⟩ := by simp [nth, h]
    rw [this]; exact zerosV _ _
  · have : nth (List.replicate n (⟨List.replicate 200 false⟩ : BArr)) j = default := by simp [nth, List.getD, h]
    rw [this]; exact zerosV _ _
theorem AI.start (code : List Ins) : AI code (List.replicate (code.length + 1) ⟨List.replicate 200 false⟩) := by
  refine ⟨by simp, fun j hj => ?_, fun r j hj => (by rw [col_zero] at hj; cases hj), fun r j _ hj => (by rw [col_zero] at hj; cases hj)⟩
  have h : j < code.length + 1 := by simpa using hj
  have : nth (List.replicate (code.length + 1) (⟨List.replicate 200 false⟩ : BArr)) j = ⟨List.replicate 200 false⟩ := by simp [nth, h]
  rw [this]; exact List.length_replicate
theorem col_set {a : List BArr} {k r j : Nat} {x : BArr} (hk : k < a.length) : col (a.set k x) r j = if k = j then nth x.l r else col a r j := by
  unfold col
  rw [nth_set]
  by_cases h : k = j
  · rw [if_pos ⟨h, hk⟩, if_pos h]
  · rw [if_neg (fun e => h e.1), if_neg h]
theorem nth_out {l : List Bool} {r : Nat} (h : l.length ≤ r) : nth l r = false := by simp [nth, List.getD, h]
section
variable {code : List Ins} {a : List BArr} {k : Nat} {nw : List Bool}
/-- What is needed ahead of order k, by what is known. -/
def NowIs (code : List Ins) (a : List BArr) (k : Nat) (nw : List Bool) : Prop := ∀ r, r < 200 → nth nw r = needB (col a r) code k r
theorem AI.up (h : AI code a) (hk : k < code.length) (hl : nw.length = 200) (hn : NowIs code a k nw) (r : Nat) : nth (nth a k).l r = true → nth nw r = true := by
  intro hr
  have h200 : (nth a k).l.length = 200 := h.l2 k (by rw [h.l1]; omega)
  have hr2 : r < 200 := by
    rcases Nat.lt_or_ge r 200 with h9 | h9
    · exact h9
    · rw [nth_out (by omega)] at hr; cases hr
  rw [hn r hr2]
  exact h.pf r k hk hr
theorem AI.set (h : AI code a) (hk : k < code.length) (hl : nw.length = 200) (hn : NowIs code a k nw) : AI code (a.set k ⟨nw⟩) := by
  have hka : k < a.length := by rw [h.l1]; omega
  have hup : ∀ r j, col a r j = true → col (a.set k ⟨nw⟩) r j = true := fun r j hj => by
    rw [col_set hka]
    split
    · rename_i e; subst e; exact h.up hk hl hn r hj
    · exact hj
  have hnd : ∀ r, nth nw r = true → needB (col a r) code k r = true := fun r hr => by
    rcases Nat.lt_or_ge r 200 with h9 | h9
    · rw [← hn r h9]; exact hr
    · rw [nth_out (by omega)] at hr; cases hr
  refine ⟨by simpa using h.l1, fun j hj => ?_, fun r j hj => ?_, fun r j hjl hj => ?_⟩
  · rw [nth_set]
    split
    · exact hl
    · exact h.l2 j (by simpa using hj)
  · rw [col_set hka] at hj
    split at hj
    · rename_i e; subst e
      exact need_live hk (h.s1 r) (hnd r hj)
    · exact h.s1 r j hj
  · rw [col_set hka] at hj
    split at hj
    · rename_i e; subst e
      exact need_mono (hup r) (hnd r hj)
    · exact need_mono (hup r) (h.pf r j hjl hj)
theorem AI.grow (h : AI code a) (hk : k < code.length) (hl : nw.length = 200) (hn : NowIs code a k nw) (hne : nw ≠ (nth a k).l) : cntA a < cntA (a.set k ⟨nw⟩) := by
  have hka : k < a.length := by rw [h.l1]; omega
  have h1 : cntA (a.set k ⟨nw⟩) + cntV (nth a k).l = cntA a + cntV nw := cntA_set hka
  have h2 := (cntV_lt (by rw [hl]; exact h.l2 k hka) (h.up hk hl hn)).2 (fun e => hne e.symm)
  omega
def ClA (code : List Ins) (a : List BArr) (i : Nat) : Prop := ∀ r, r < 200 → needB (col a r) code i r = true → col a r i = true
theorem clA_same (hn : NowIs code a k nw) (he : nw = (nth a k).l) : ClA code a k := fun r hr h => by
  have := hn r hr
  rw [h, he] at this
  exact this
theorem AI.fin (h : AI code a) (hc : ∀ i, i < code.length → ClA code a i) (r j : Nat) (hr : r < 200) : col a r j = true ↔ LiveI code r j := live_all (h.s1 r) (fun i hi => hc i hi r hr) j
end
/-! ### Lists of what is -/
theorem nth_mapR {β : Type} [Inhabited β] {f : Nat → β} {n i : Nat} (h : i < n) : nth ((List.range n).map f) i = f i := by simp [nth, h]
theorem eq_mapR {f : Nat → Bool} {l : List Bool} {n : Nat} (hl : l.length = n) (h : ∀ i, i < n → nth l i = f i) : l = (List.range n).map f := by
  apply List.ext_getElem (by simp [hl])
  intro i h1 h2
  have := h i (by omega)
  rw [nth_lt _ _ h1] at this
  simpa using this
/-! ### Who clashes -/
/-! ### Orders that may be -/
def OkV (code : List Ins) (regs : Int) : Prop := ∀ i, i < code.length → (1 ≤ (nth code i).op ∧ (nth code i).op ≤ 18) ∧ ((nth code i).op ≤ 8 ∨ (nth code i).op = 10 → 0 ≤ (nth code i).a) ∧ (-1 ≤ wrG (nth code i) ∧ wrG (nth code i) < regs) ∧ ∀ v ∈ rdG (nth code i), 0 ≤ v ∧ v < regs
def liveA (f : Nat → Nat → Bool) (n : Nat) : List BArr := (List.range (n + 1)).map fun j => ⟨(List.range 200).map fun r => f r j⟩
theorem ra_fin {code : List Ins} {a : List BArr} {f : Nat → Nat → Bool} (hf : ∀ r j, (f r j = true ↔ LiveI code r j)) (h : AI code a) (hc : ∀ i, i < code.length → ClA code a i) : a = liveA f code.length := by
  apply List.ext_getElem (by simp [liveA, h.l1])
  intro j h1 h2
  have h3 := h.l2 j h1
  rw [nth_lt _ _ h1] at h3
  have e : a[j].l = (List.range 200).map fun r => f r j := eq_mapR h3 fun r hr => by
    have := Bool.eq_iff_iff.2 ((h.fin hc r j hr).trans (hf r j).symm)
    rw [← this]; unfold col; rw [nth_lt _ _ h1]
  have e2 : (liveA f code.length)[j] = ⟨(List.range 200).map fun r => f r j⟩ := by simp [liveA]
  rw [e2, ← e]
/-! ### The rows that grow -/
theorem or_step {nw nw2 A : List Bool} {r : Nat} {v : Bool} (hl : nw2.length = 200) (hr : r < 200) (h : ∀ b, b < 200 → nth nw2 b = (nth nw b || (decide (b < r) && nth A b))) (hv : v = (nth nw2 r || nth A r)) :
    ∀ b, b < 200 → nth (nw2.set r v) b = (nth nw b || (decide (b < r + 1) && nth A b)) := by
  intro b hb
  rw [nth_set]
  by_cases hrb : r = b
  · subst hrb
    rw [if_pos ⟨rfl, by omega⟩, hv, h r hr, decide_eq_false (by omega), decide_eq_true (by omega)]
    simp
  · rw [if_neg (fun e => hrb e.1), h b hb, show decide (b < r + 1) = decide (b < r) by rw [decide_eq_decide]; omega]
theorem or_zero {nw A : List Bool} : ∀ b, b < 200 → nth nw b = (nth nw b || (decide (b < 0) && nth A b)) := fun b _ => by simp
theorem or_end {nw nw2 : List Bool} {a : List BArr} {l : List Int} {q r : Nat} (hq : q < l.length) (hr : ¬ r < 200) (hn : ∀ b, b < 200 → nth nw b = (l.take q).any fun y => col a b y.toNat) (h : ∀ b, b < 200 → nth nw2 b = (nth nw b || (decide (b < r) && nth (nth a (nth l q).toNat).l b))) :
    ∀ b, b < 200 → nth nw2 b = (l.take (q + 1)).any fun y => col a b y.toNat := by
  intro b hb
  rw [h b hb, hn b hb, any_step hq, decide_eq_true (by omega), Bool.true_and]
  rfl
theorem wr_off {nw : List Bool} {w : Int} {T : Nat → Bool} (hl : nw.length = 200) (h : ∀ b, b < 200 → nth nw b = T b) (hw : 0 ≤ w) : ∀ b, b < 200 → nth (nw.set w.toNat false) b = ((decide (w ≠ (b : Int)) && T b) || false) := by
  intro b hb
  rw [nth_set, Bool.or_false]
  by_cases hwb : w.toNat = b
  · rw [if_pos ⟨hwb, by omega⟩, decide_eq_false (by omega), Bool.false_and]
  · rw [if_neg (fun e => hwb e.1), h b hb, decide_eq_true (by omega), Bool.true_and]
theorem wr_none {nw : List Bool} {w : Int} {T : Nat → Bool} (h : ∀ b, b < 200 → nth nw b = T b) (hw : ¬ 0 ≤ w) : ∀ b, b < 200 → nth nw b = ((decide (w ≠ (b : Int)) && T b) || false) := by
  intro b hb
  rw [h b hb, decide_eq_true (by omega), Bool.true_and, Bool.or_false]
theorem rd_step {nw : List Bool} {l : List Int} {q : Nat} {T : Nat → Bool} (hl : nw.length = 200) (hq : q < l.length) (hy : 0 ≤ nth l q) (h : ∀ b, b < 200 → nth nw b = (T b || (l.take q).any fun v => decide (v = (b : Int)))) :
    ∀ b, b < 200 → nth (nw.set (nth l q).toNat true) b = (T b || (l.take (q + 1)).any fun v => decide (v = (b : Int))) := by
  intro b hb
  rw [nth_set, any_step hq]
  by_cases hwb : (nth l q).toNat = b
  · rw [if_pos ⟨hwb, by omega⟩, decide_eq_true (show nth l q = (b : Int) by omega)]; simp
  · rw [if_neg (fun e => hwb e.1), h b hb, decide_eq_false (show ¬ nth l q = (b : Int) by omega), Bool.or_false]
theorem now_is {code : List Ins} {a : List BArr} {k : Nat} {nw : List Bool} {q : Nat} (hq : (rdG (nth code k)).length ≤ q) (h : ∀ b, b < 200 → nth nw b = ((decide (wrG (nth code k) ≠ (b : Int)) && (nextsL code k).any fun y => col a b y.toNat) || ((rdG (nth code k)).take q).any fun v => decide (v = (b : Int)))) : NowIs code a k nw := by
  intro b hb
  rw [h b hb, any_all hq, Bool.or_comm]
  rfl
end Go.Proofs.Ytmgikmjmdppfmaa
