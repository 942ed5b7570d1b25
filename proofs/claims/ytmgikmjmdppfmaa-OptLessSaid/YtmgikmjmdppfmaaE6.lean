/-
  What nobody needs, taken away: in plain Lean.
-/
import Derived.Test.YtmgikmjmdppfmaaX35
import Derived.Test.YtmgikmjmdppfmaaX5
import Derived.Test.YtmgikmjmdppfmaaE5
section
namespace Go.Proofs.Ytmgikmjmdppfmaa
open Go.RowKit
set_option linter.unusedSimpArgs false
set_option linter.unusedVariables false


theorem liveA_len (f : Nat → Nat → Bool) (n : Nat) : (liveA f n).length = n + 1 := by simp [liveA]
theorem liveA_nth {f : Nat → Nat → Bool} {n j : Nat} (h : j < n + 1) : (nth (liveA f n) j).l = (List.range 200).map fun r => f r j := by
  unfold liveA
  rw [nth_mapR h]
theorem barr_noRd {E : TypeId} {s : Ls BArr} {X : Prop} {b : Nat} (h : (Asn.own E s).rd b) : X := by
  obtain ⟨i, _, hi⟩ := h
  exact hi.elim
end Go.Proofs.Ytmgikmjmdppfmaa
end
namespace Go.Proofs.Ytmgikmjmdppfmaa
open Go.RowKit
set_option linter.unusedSimpArgs false
set_option linter.unusedVariables false

noncomputable def liveC (code : List Ins) (r j : Nat) : Bool := @decide (LiveI code r j) (Classical.propDecidable _)
theorem liveC_iff (code : List Ins) (r j : Nat) : liveC code r j = true ↔ LiveI code r j := @decide_eq_true_iff _ (Classical.propDecidable _)
/-- What an order becomes. -/
def deadB (f : Nat → Nat → Bool) (i : Nat) (x : Ins) : List Ins := if x.op ≤ 8 ∧ f x.a.toNat (i + 1) = false then [] else [x]
noncomputable def deadL (code : List Ins) : List Ins := movedL (deadB (liveC code)) code
theorem deadB_len (f : Nat → Nat → Bool) (i : Nat) (x : Ins) : (deadB f i x).length ≤ 1 := by
  unfold deadB
  split <;> simp
theorem deadB_ok {f : Nat → Nat → Bool} {code : List Ins} (hj : JumpsOK code) : BecB (deadB f) code := by
  intro i hi k hk
  have h1 := hj i hi
  have hl := deadB_len f i (nth code i)
  obtain rfl : k = 0 := by omega
  revert hk
  unfold deadB
  split
  · exact fun hk => absurd hk (by simp)
  · intro _
    show ((nth code i).op ≠ 14 ∨ _ ∨ _) ∧ ((nth code i).op ≠ 15 ∨ _ ∨ _)
    refine ⟨?_, ?_⟩
    · by_cases h14 : (nth code i).op = 14
      · exact .inr (.inr (h1.1 h14))
      · exact .inl h14
    · by_cases h15 : (nth code i).op = 15
      · exact .inr (.inr (h1.2 h15))
      · exact .inl h15
end Go.Proofs.Ytmgikmjmdppfmaa
