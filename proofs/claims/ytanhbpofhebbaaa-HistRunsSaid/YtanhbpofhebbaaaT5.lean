import Derived.Test.YtanhbpofhebbaaaT4
import Derived.Test.YtanhbpofhebbaaaMaps
namespace Go.Proofs.Ytanhbpofhebbaaa
open Go.RowKit
set_option linter.unusedSimpArgs false
set_option linter.unusedVariables false

/-- Is a number an order's? -/
def opB (op : Int) : Bool := decide (1 ≤ op ∧ op ≤ 18)
theorem cases18 (op : Int) (h : 1 ≤ op ∧ op ≤ 18) : op = 1 ∨ op = 2 ∨ op = 3 ∨ op = 4 ∨ op = 5 ∨ op = 6 ∨ op = 7 ∨ op = 8 ∨ op = 9 ∨ op = 10 ∨ op = 11 ∨ op = 12 ∨ op = 13 ∨ op = 14 ∨ op = 15 ∨ op = 16 ∨ op = 17 ∨ op = 18 := by omega
theorem nameB_none (op : Int) (h : ¬ (1 ≤ op ∧ op ≤ 18)) : nameB op = ⟨#[]⟩ := by
  unfold nameB
  iterate 18 rw [if_neg (by omega)]
theorem nameB_empty (op : Int) : (nameB op).toList.isEmpty = !opB op := by
  unfold opB
  by_cases h : 1 ≤ op ∧ op ≤ 18
  · rw [decide_eq_true h]
    rcases cases18 op h with h | h | h | h | h | h | h | h | h | h | h | h | h | h | h | h | h | h <;> subst h <;> first | (simp [nameB]; done) | (unfold nameB; decide +kernel)
  · rw [decide_eq_false h, nameB_none op h]; first | (simp; done) | decide +kernel
end Go.Proofs.Ytanhbpofhebbaaa
