/-
  What is the same already, in plain Lean: what the document's rounds come to.
-/
import Derived.Test.YtanhbpofhebbaaaU1
namespace Go.Proofs.Ytanhbpofhebbaaa
open Go.RowKit
set_option linter.unusedSimpArgs false
set_option linter.unusedVariables false

theorem cntB_set (b : Bool) : ∀ (l : List Bool) (i : Nat), i < l.length → nth l i = b → (l.set i (!b)).count b + 1 = l.count b
  | [], _, h, _ => by simp at h
  | x :: l, 0, _, h => by
    have e : x = b := h
    subst e
    rw [List.set_cons_zero, List.count_cons, List.count_cons]
    cases x <;> simp
  | x :: l, i + 1, h, h2 => by
    have ih := cntB_set b l i (by simpa using h) h2
    rw [List.set_cons_succ, List.count_cons, List.count_cons]
    omega
theorem nth_setB (l : List Bool) (i j : Nat) (b : Bool) (hi : i < l.length) : nth (l.set i b) j = if j = i then b else nth l j := by
  rw [nth_set1]
  by_cases h : j = i
  · rw [if_pos h, if_pos ⟨h.symm, hi⟩]
  · rw [if_neg h, if_neg (fun e => h e.1.symm)]
def bN (b : Bool) : Nat := if b = true then 1 else 0
-- ---------------------------------------------------------------- where a way leads
structure RcB (code : List Ins) (out : List Bool) : Prop where
  len : out.length = code.length + 1
  zero : nth out 0 = true
  sound : ∀ i, i ≤ code.length → nth out i = true → RchC code i
def RcC (code : List Ins) (out : List Bool) (i : Nat) : Prop := nth out i = true → ∀ y ∈ nextsL code i, nth out y.toNat = true
section
variable {code : List Ins} {out out2 : List Bool} {a k n : Nat} {ag : Bool}
theorem RcB.start (code : List Ins) : RcB code ((List.replicate (code.length + 1) false).set 0 true) := by
  have hn : ∀ i, nth ((List.replicate (code.length + 1) false).set 0 true) i = if i = 0 then true else nth (List.replicate (code.length + 1) false) i := fun i => nth_setB _ 0 i true (by simp)
  refine ⟨by simp, by rw [hn, if_pos rfl], fun i hi h => ?_⟩
  rw [hn] at h
  by_cases e : i = 0
  · subst e; exact .zero
  · rw [if_neg e] at h
    have : nth (List.replicate (code.length + 1) false) i = false := by simp [nth, List.getD, List.getElem?_replicate, show i < code.length + 1 by omega]
    rw [this] at h; cases h
theorem RcB.put (hc : CodeC code) (h : RcB code out) (ha : a < code.length) (hk : k < (nextsL code a).length) (h1 : nth out a = true) : RcB code (out.set (nth (nextsL code a) k).toNat true) := by
  have hx := hc.nx a ha _ (nth_mem _ _ hk)
  have hl := h.len
  have hn := fun j => nth_setB out (nth (nextsL code a) k).toNat j true (by omega)
  refine ⟨by rw [List.length_set]; exact hl, ?_, fun i hi hs => ?_⟩
  · rw [hn]; split; rfl; exact h.zero
  · rw [hn] at hs
    split at hs
    · rename_i e; rw [e]; exact .step a _ (h.sound a (by omega) h1) ha (nth_mem _ _ hk)
    · exact h.sound i hi hs
theorem rc_cnt (hc : CodeC code) (h : RcB code out) (ha : a < code.length) (hk : k < (nextsL code a).length) (h2 : nth out (nth (nextsL code a) k).toNat = false) (hn : out.count false + bN ag ≤ n) : (out.set (nth (nextsL code a) k).toNat true).count false + bN true ≤ n := by
  have hx := hc.nx a ha _ (nth_mem _ _ hk)
  have hl := h.len
  have := cntB_set false out (nth (nextsL code a) k).toNat (by omega) h2
  simp only [Bool.not_false] at this
  have e : bN true = 1 := rfl
  rw [e]
  omega
theorem rc_end (hc : CodeC code) (h : RcB code out) (hcl : ∀ i, i < code.length → RcC code out i) {i : Nat} (hi : i ≤ code.length) : nth out i = true ↔ RchC code i := by
  refine ⟨h.sound i hi, fun hr => ?_⟩
  induction hr with
  | zero => exact h.zero
  | step i y hr hl hy ih => exact hcl i hl (ih (by omega)) y hy
end
-- ---------------------------------------------------------------- where the one is the other
def isB (x : Ins) (a b : Int) (o : Bool) : Bool := if wrG x = a ∨ wrG x = b then decide (x.op = 2 ∧ x.a = a ∧ x.b = b) else o
structure IsB (code : List Ins) (a b : Int) (out : List Bool) : Prop where
  len : out.length = code.length + 1
  zero : nth out 0 = false
  rch : ∀ i, i ≤ code.length → nth out i = true → RchC code i
  sup : ∀ i, i ≤ code.length → SameI code a b i → nth out i = true
def IsC (code : List Ins) (a b : Int) (out : List Bool) (i : Nat) : Prop := RchC code i → isB (nth code i) a b (nth out i) = false → ∀ y ∈ nextsL code i, nth out y.toNat = false
section
variable {code : List Ins} {out : List Bool} {a b : Int} {i k n : Nat} {ag : Bool}
theorem IsB.start {goes : List Bool} (hg : ∀ i, i ≤ code.length → (nth goes i = true ↔ RchC code i)) (hl : out.length = code.length + 1) (h0 : nth out 0 = false) (hv : ∀ j, 1 ≤ j → j < code.length + 1 → nth out j = nth goes j) : IsB code a b out := by
  refine ⟨hl, h0, fun i hi h => ?_, fun i hi h => ?_⟩
  · by_cases e : i = 0
    · subst e; exact .zero
    · rw [hv i (by omega) (by omega)] at h; exact (hg i hi).1 h
  · by_cases e : i = 0
    · subst e; exact absurd .zero h.2
    · rw [hv i (by omega) (by omega)]; exact (hg i hi).2 h.1
theorem is_no (h : IsB code a b out) (hi : i < code.length) (hr : RchC code i) {is : Bool} (he : is = isB (nth code i) a b (nth out i)) (hf : is = false) : ∀ y ∈ nextsL code i, ¬ SameI code a b y.toNat := by
  intro y hy hs
  rw [he] at hf
  unfold isB at hf
  rcases same_step hr hi hy hs.2 with ⟨h1, h2⟩ | ⟨h1, h2⟩
  · rw [if_pos (show wrG (nth code i) = a ∨ wrG (nth code i) = b from h1)] at hf
    exact (of_decide_eq_false hf) h2
  · rw [if_neg (show ¬ (wrG (nth code i) = a ∨ wrG (nth code i) = b) from h1), h.sup i (by omega) ⟨hr, h2⟩] at hf
    cases hf
theorem IsB.put (hc : CodeC code) (h : IsB code a b out) (hi : i < code.length) (hk : k < (nextsL code i).length) (hno : ∀ y ∈ nextsL code i, ¬ SameI code a b y.toNat) : IsB code a b (out.set (nth (nextsL code i) k).toNat false) := by
  have hx := hc.nx i hi _ (nth_mem _ _ hk)
  have hl := h.len
  have hn := fun j => nth_setB out (nth (nextsL code i) k).toNat j false (by omega)
  refine ⟨by rw [List.length_set]; exact hl, ?_, fun j hj hs => ?_, fun j hj hs => ?_⟩
  · rw [hn]; split; rfl; exact h.zero
  · rw [hn] at hs
    split at hs
    · cases hs
    · exact h.rch j hj hs
  · rw [hn]
    split
    · rename_i e
      rw [e] at hs
      exact absurd hs (hno _ (nth_mem _ _ hk))
    · exact h.sup j hj hs
theorem is_cnt (hc : CodeC code) (h : IsB code a b out) (hi : i < code.length) (hk : k < (nextsL code i).length) (h2 : nth out (nth (nextsL code i) k).toNat = true) (hn : out.count true + bN ag ≤ n) : (out.set (nth (nextsL code i) k).toNat false).count true + bN true ≤ n := by
  have hx := hc.nx i hi _ (nth_mem _ _ hk)
  have hl := h.len
  have := cntB_set true out (nth (nextsL code i) k).toNat (by omega) h2
  simp only [Bool.not_true] at this
  have e : bN true = 1 := rfl
  rw [e]
  omega
theorem is_end (hc : CodeC code) (h : IsB code a b out) (hcl : ∀ i, i < code.length → IsC code a b out i) {i : Nat} (hi : i ≤ code.length) : nth out i = true ↔ SameI code a b i := by
  refine ⟨fun ht => ⟨h.rch i hi ht, fun hn => ?_⟩, h.sup i hi⟩
  have key : ∀ i, NotI code a b i → i ≤ code.length → nth out i = false := by
    intro i hn
    induction hn with
    | zero => intro _; exact h.zero
    | gen i y hr hl hy h1 h2 =>
      intro _
      refine hcl i hl hr ?_ y hy
      unfold isB
      rw [if_pos (show wrG (nth code i) = a ∨ wrG (nth code i) = b from h1)]
      exact decide_eq_false h2
    | pass i y hr hl hy h1 h2 ih =>
      intro _
      refine hcl i hl hr ?_ y hy
      unfold isB
      rw [if_neg (show ¬ (wrG (nth code i) = a ∨ wrG (nth code i) = b) from h1)]
      exact ih (by omega)
  rw [key i hn hi] at ht
  cases ht
end
end Go.Proofs.Ytanhbpofhebbaaa
