/-
  What is the same already, in plain Lean: what the document's rounds come to.
-/
import Derived.Test.YtfpaahkleienoaaU1
namespace Go.Proofs.Ytfpaahkleienoaa
open Go.RowKit
set_option linter.unusedSimpArgs false
set_option linter.unusedVariables false

theorem nth_setB (l : List Bool) (i j : Nat) (b : Bool) (hi : i < l.length) : nth (l.set i b) j = if j = i then b else nth l j := by
  rw [nth_set1]
  by_cases h : j = i
  · rw [if_pos h, if_pos ⟨h.symm, hi⟩]
  · rw [if_neg h, if_neg (fun e => h e.1.symm)]
structure RcB (code : List Ins) (out : List Bool) : Prop where
  len : out.length = code.length + 1
  zero : nth out 0 = true
  sound : ∀ i, i ≤ code.length → nth out i = true → RchC code i
section
variable {code : List Ins} {out out2 : List Bool} {a k n : Nat} {ag : Bool}
theorem RcB.start (code : List Ins) : RcB code ((List.replicate (code.length + 1) false).set 0 true) := by
  have hn : ∀ i, nth ((List.replicate (code.length + 1) false).set 0 true) i = if i = 0 then true else nth (List.replicate (code.length + 1) false) i := fun i => nth_setB _ 0 i true (by simp)
  refine ⟨by simp, by rw [hn, if_pos rfl], fun i hi h => ?_⟩
  rw [hn] at h
  by_cases e : i = 0
  · subst e; exact .zero
  · rw [if_neg e] at h
    have : nth (List.replicate (code.length + 1) false) i = false := by simp [nth, List.getD, List.getElem?_replicate, show i < code.length + 1 by omega]
    rw [this] at h; cases h
theorem RcB.put (hc : CodeC code) (h : RcB code out) (ha : a < code.length) (hk : k < (nextsL code a).length) (h1 : nth out a = true) : RcB code (out.set (nth (nextsL code a) k).toNat true) := by
  have hx := hc.nx a ha _ (nth_mem _ _ hk)
  have hl := h.len
  have hn := fun j => nth_setB out (nth (nextsL code a) k).toNat j true (by omega)
  refine ⟨by rw [List.length_set]; exact hl, ?_, fun i hi hs => ?_⟩
  · rw [hn]; split; rfl; exact h.zero
  · rw [hn] at hs
    split at hs
    · rename_i e; rw [e]; exact .step a _ (h.sound a (by omega) h1) ha (nth_mem _ _ hk)
    · exact h.sound i hi hs
end
-- ---------------------------------------------------------------- where the one is the other
structure IsB (code : List Ins) (a b : Int) (out : List Bool) : Prop where
  len : out.length = code.length + 1
  zero : nth out 0 = false
  rch : ∀ i, i ≤ code.length → nth out i = true → RchC code i
  sup : ∀ i, i ≤ code.length → SameI code a b i → nth out i = true
section
variable {code : List Ins} {out : List Bool} {a b : Int} {i k n : Nat} {ag : Bool}
theorem IsB.start {goes : List Bool} (hg : ∀ i, i ≤ code.length → (nth goes i = true ↔ RchC code i)) (hl : out.length = code.length + 1) (h0 : nth out 0 = false) (hv : ∀ j, 1 ≤ j → j < code.length + 1 → nth out j = nth goes j) : IsB code a b out := by
  refine ⟨hl, h0, fun i hi h => ?_, fun i hi h => ?_⟩
  · by_cases e : i = 0
    · subst e; exact .zero
    · rw [hv i (by omega) (by omega)] at h; exact (hg i hi).1 h
  · by_cases e : i = 0
    · subst e; exact absurd .zero h.2
    · rw [hv i (by omega) (by omega)]; exact (hg i hi).2 h.1
theorem IsB.put (hc : CodeC code) (h : IsB code a b out) (hi : i < code.length) (hk : k < (nextsL code i).length) (hno : ∀ y ∈ nextsL code i, ¬ SameI code a b y.toNat) : IsB code a b (out.set (nth (nextsL code i) k).toNat false) := by
  have hx := hc.nx i hi _ (nth_mem _ _ hk)
  have hl := h.len
  have hn := fun j => nth_setB out (nth (nextsL code i) k).toNat j false (by omega)
  refine ⟨by rw [List.length_set]; exact hl, ?_, fun j hj hs => ?_, fun j hj hs => ?_⟩
  · rw [hn]; split; rfl; exact h.zero
  · rw [hn] at hs
    split at hs
    · cases hs
    · exact h.rch j hj hs
  · rw [hn]
    split
    · rename_i e
      rw [e] at hs
      exact absurd hs (hno _ (nth_mem _ _ hk))
    · exact h.sup j hj hs
end
end Go.Proofs.Ytfpaahkleienoaa
