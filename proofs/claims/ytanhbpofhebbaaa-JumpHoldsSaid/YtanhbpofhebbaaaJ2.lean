/-
  A program with shorter ways may be, and has the same outcomes: in plain Lean.
-/
import Derived.Test.YtanhbpofhebbaaaJ1
import Derived.Test.YtanhbpofhebbaaaL4
namespace Go.Proofs.Ytanhbpofhebbaaa
open Go.RowKit
set_option linter.unusedSimpArgs false
set_option linter.unusedVariables false

theorem pS_small {c : List Ins} : ∀ i, i ≤ c.length → pS c i ≤ i
  | 0, _ => by simp [pS, placeL]
  | i + 1, h => by
    have := pS_small (c := c) i (by omega)
    by_cases hg : goneS c i
    · rw [pS_gone (by omega) hg]; omega
    · rw [(pS_kept (c := c) (by omega) hg).1]; omega
theorem jumpPg_ok {p : Pg} (h : OkPg p) : OkPg (jumpPg p) := by
  refine ⟨by rw [jumpPg_len]; exact h.code, h.words, h.locks, h.regs, fun t ht => ?_, fun t j ht hj => ?_⟩
  · rw [jumpPg_len] at ht
    rw [jumpPg_code ht, pS_len]
    have := pS_small (c := nth p.code t) _ (Nat.le_refl _)
    have := h.len t ht
    omega
  · rw [jumpPg_len] at ht
    rw [jumpPg_code ht] at hj ⊢
    have hsz : (straightL (nth p.code t)).length ≤ 400 := by
      rw [pS_len]
      have := pS_small (c := nth p.code t) _ (Nat.le_refl _)
      have := h.len t ht
      omega
    obtain ⟨i, k, hi, hk, e⟩ := moved_from becS (toL (nth p.code t)) _ (Nat.le_refl _) j (by rw [← moved_len]; exact hj)
    rw [toL_len] at hi
    have hg : ¬ goneS (nth p.code t) i := by
      intro hg
      have h1 := place_succ becS (toL (nth p.code t)) (i := i) (by rw [toL_len]; exact hi)
      have h2 := pS_gone hi hg
      unfold pS at h2
      omega
    have hb := becS_kept hi hg
    rw [hb] at hk
    obtain rfl : k = 0 := by simpa using hk
    have e' : j = pS (nth p.code t) i := e
    rw [e']
    have ho := h.ins t i ht hi
    have hjo := h.jumps ht
    by_cases h14 : (nth (nth p.code t) i).op = 14
    · rw [kept_14 hi h14 hg]
      have ha := (hjo i hi).1 h14
      exact OkIns.jump h14 ho ⟨by omega, by omega⟩ ⟨by omega, by have := pS_le (c := nth p.code t) ((endF_flow (nth p.code t) (nth p.code t).length (nth (nth p.code t) i).a.toNat).le hjo (by omega)); omega⟩
    by_cases h15 : (nth (nth p.code t) i).op = 15
    · rw [kept_15 hi h15]
      have hb := (hjo i hi).2 h15
      exact OkIns.zero (p := p) (p' := jumpPg p) rfl rfl rfl h15 ho ⟨by omega, by omega⟩ ⟨by omega, by have := pS_le (c := nth p.code t) ((endF_flow (nth p.code t) (nth p.code t).length (nth (nth p.code t) i).b.toNat).le hjo (by omega)); omega⟩
    rw [kept_other hi h14 h15]
    exact OkIns.move (p := p) (p' := jumpPg p) rfl rfl rfl h14 h15 ho
end Go.Proofs.Ytanhbpofhebbaaa
