/-
  Contracts of functions of this program and of the references, each walked once.
-/
import Derived.Test.YtanhbpofhebbaaaX0
namespace Go.Proofs.Ytanhbpofhebbaaa
open Go.RowKit
set_option linter.unusedSimpArgs false
set_option linter.unusedVariables false


theorem opB3 (a b c : Bool) : (bif a then true else bif b then true else c) = (a || b || c) := by cases a <;> cases b <;> rfl
/-- The first thread that has too many orders; -1: none. -/
def LongIs (code : List (List Ins)) (n : Int) : Prop := (∃ k : Nat, n = k ∧ k < code.length ∧ 400 < (nth code k).length ∧ ∀ j, j < k → (nth code j).length ≤ 400) ∨ (n = -1 ∧ ∀ j, j < code.length → (nth code j).length ≤ 400)
def waitsB (op : Int) : Bool := decide (op = 9 ∨ op = 11 ∨ op = 18)

end Go.Proofs.Ytanhbpofhebbaaa
