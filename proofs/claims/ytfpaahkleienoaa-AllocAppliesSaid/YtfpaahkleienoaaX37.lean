/-
  Contracts of functions of this program and of the references, each walked once.
-/
import Derived.Test.YtfpaahkleienoaaX36
import Derived.Test.YtfpaahkleienoaaX34
import Derived.Test.YtfpaahkleienoaaX6
namespace Go.Proofs.Ytfpaahkleienoaa
open Go.RowKit
set_option linter.unusedSimpArgs false
set_option linter.unusedVariables false


theorem rets_nat {P : Program} {f : FuncId} {x : Value} {z : Int} {W : World} {R : Value → World → Prop} (h0 : 0 ≤ z) (h : Rets P f [x, .int .i64 ((z.toNat : Nat) : Int)] W R) : Rets P f [x, .int .i64 z] W R := by rwa [Int.toNat_of_nonneg h0] at h
theorem liveF3 (code : Ls (Ls Ins)) : ∃ f : Nat → Nat → Nat → Bool, ∀ t r j, (f t r j = true ↔ LiveI (nth code.l t).l r j) :=
  ⟨fun t => Classical.choose (liveF_ex (nth code.l t).l), fun t => Classical.choose_spec (liveF_ex (nth code.l t).l)⟩
theorem cl_lt {code : List Ins} {f : Nat → Nat → Bool} {regs : Int} (hok : OkV code regs) (hf : ∀ r j, (f r j = true ↔ LiveI code r j)) {k a b : Nat} (hk : k ≤ code.length) (h : clTo code f k a b = true) : (a : Int) < regs ∧ (b : Int) < regs ∧ a ≠ b := by
  unfold clTo at h
  obtain ⟨i, hi, h⟩ := List.any_eq_true.1 h
  have hi : i < code.length := by have := List.mem_range.1 hi; omega
  obtain ⟨y, hy, h⟩ := List.any_eq_true.1 h
  unfold clE at h
  obtain ⟨h0, h⟩ := (Bool.and_eq_true _ _).mp h
  have hw := (hok i hi).2.2.1
  rcases (Bool.or_eq_true _ _).mp h with h | h
  · obtain ⟨h1, h2⟩ := (Bool.and_eq_true _ _).mp h
    have h1 := of_decide_eq_true h1
    have := live_lt hok ((hf _ _).1 h2)
    exact ⟨this, by omega, of_decide_eq_true h0⟩
  · obtain ⟨h1, h2⟩ := (Bool.and_eq_true _ _).mp h
    have h1 := of_decide_eq_true h1
    have := live_lt hok ((hf _ _).1 h2)
    exact ⟨by omega, this, of_decide_eq_true h0⟩
theorem row_clash {code : List Ins} {f : Nat → Nat → Bool} {regs : Int} (hok : OkV code regs) (hr : 0 ≤ regs ∧ regs ≤ 200) (hf : ∀ r j, (f r j = true ↔ LiveI code r j)) (a : Nat) : listB ((List.range 200).map fun b => clTo code f code.length a b) = listB ((List.range regs.toNat).map fun b => clTo code f code.length a b) :=
  listB_cut (by omega) fun r hr2 => Bool.eq_false_iff.2 fun h9 => by have := (cl_lt hok hf (Nat.le_refl _) h9).2.1; omega

end Go.Proofs.Ytfpaahkleienoaa
