/-
  A run by a script, in plain Lean. No program is in sight.
-/
import Derived.Test.YtfpaahkleienoaaL2
namespace Go.Proofs.Ytfpaahkleienoaa
open Go.RowKit
set_option linter.unusedSimpArgs false
set_option linter.unusedVariables false

/-- What a run comes to: how it ended, after how many steps, with which words, having printed what. -/
structure TrM where
  st : Int
  steps : Nat
  words : List Int
  prints : List Int
/-- Which one of so many moves is picked. -/
def pickM (script : List Int) (nx l : Nat) : Nat := if 1 < l ∧ nx < script.length then (nth script nx % (l : Int)).toNat else 0
def nextM (script : List Int) (nx l : Nat) : Nat := if 1 < l ∧ nx < script.length then nx + 1 else nx
def mvM (p : Pg) (m : Int) (s : MSt) (script : List Int) (nx : Nat) : Nat := (nth (moves p m s) (pickM script nx (moves p m s).length)).toNat
def goM (p : Pg) (m : Int) (script : List Int) : Nat → Nat → MSt → Nat → TrM
  | 0, _, s, k => if ended p s = true then ⟨0, k, s.words, s.prints⟩ else if (moves p m s).length = 0 then ⟨2, k, s.words, s.prints⟩ else ⟨3, k, s.words, s.prints⟩
  | n + 1, nx, s, k =>
    if ended p s = true then ⟨0, k, s.words, s.prints⟩
    else if (moves p m s).length = 0 then ⟨2, k, s.words, s.prints⟩
    else if (stepT p m s (mvM p m s script nx / 8) (mvM p m s script nx % 8)).fell = true then ⟨1, k + 1, (stepT p m s (mvM p m s script nx / 8) (mvM p m s script nx % 8)).words, (stepT p m s (mvM p m s script nx / 8) (mvM p m s script nx % 8)).prints⟩
    else goM p m script n (nextM script nx (moves p m s).length) (s.putT (mvM p m s script nx / 8) (stepT p m s (mvM p m s script nx / 8) (mvM p m s script nx % 8))) (k + 1)
def runM (p : Pg) (m : Int) (script : List Int) : TrM := goM p m script 5000 0 (begin_ p) 0
/-- Where a run stands: it goes on as it began, and the state may be. -/
structure GoI (p : Pg) (m : Int) (script : List Int) (nx : Nat) (s : MSt) (k : Nat) : Prop where
  le : k ≤ 5000
  nxk : nx ≤ k
  eq : goM p m script (5000 - k) nx s k = runM p m script
  reach : Reach p m s
  pr : s.prints.length ≤ 2 * k
section
variable {p : Pg} {m : Int} {script : List Int} {nx k : Nat} {s : MSt}
theorem goI_start : GoI p m script 0 (begin_ p) 0 := ⟨by omega, Nat.le_refl _, rfl, .start, by simp [begin_]⟩
theorem goI_ended (h : GoI p m script nx s k) (he : ended p s = true) : runM p m script = ⟨0, k, s.words, s.prints⟩ := by
  rw [← h.eq]
  cases 5000 - k with
  | zero => rw [goM, if_pos he]
  | succ n => rw [goM, if_pos he]
theorem goI_stuck (h : GoI p m script nx s k) (he : ended p s = false) (hl : (moves p m s).length = 0) : runM p m script = ⟨2, k, s.words, s.prints⟩ := by
  rw [← h.eq]
  cases 5000 - k with
  | zero => rw [goM, if_neg (by rw [he]; decide), if_pos hl]
  | succ n => rw [goM, if_neg (by rw [he]; decide), if_pos hl]
theorem goI_out (h : GoI p m script nx s k) (he : ended p s = false) (hl : (moves p m s).length ≠ 0) (hk : k = 5000) : runM p m script = ⟨3, k, s.words, s.prints⟩ := by
  rw [← h.eq, show 5000 - k = 0 by omega, goM, if_neg (by rw [he]; decide), if_neg hl]
theorem pick_lt (script : List Int) (nx : Nat) {l : Nat} (hl : l ≠ 0) : pickM script nx l < l := by
  unfold pickM
  split
  · have := Int.emod_lt_of_pos (nth script nx) (show (0 : Int) < (l : Int) by omega)
    have := Int.emod_nonneg (nth script nx) (show (l : Int) ≠ 0 by omega)
    omega
  · omega
theorem next_le {l : Nat} : nextM script nx l ≤ nx + 1 := by unfold nextM; split <;> omega
/-- Which thread's which move is picked. -/
theorem mv_at (hl : (moves p m s).length ≠ 0) : ∃ t j, t < p.code.length ∧ mvOK m (nth p.code t) (s.view t) j = true ∧ nth (moves p m s) (pickM script nx (moves p m s).length) = ((8 * t + j : Nat) : Int) ∧ mvM p m s script nx = 8 * t + j := by
  obtain ⟨t, j, h1, h2, h3⟩ := mem_moves.1 (nth_mem _ _ (pick_lt script nx hl))
  exact ⟨t, j, h1, h2, h3, by unfold mvM; rw [h3]; omega⟩
theorem goI_next (h : GoI p m script nx s k) (he : ended p s = false) (hl : (moves p m s).length ≠ 0) (hk : k ≠ 5000) {t j : Nat} (hj : j < 8) (e : mvM p m s script nx = 8 * t + j) (ht : t < p.code.length) (hm : mvOK m (nth p.code t) (s.view t) j = true) (hpl : (stepT p m s t j).prints.length ≤ s.prints.length + 2) :
    ((stepT p m s t j).fell = true → runM p m script = ⟨1, k + 1, (stepT p m s t j).words, (stepT p m s t j).prints⟩) ∧ ((stepT p m s t j).fell = false → GoI p m script (nextM script nx (moves p m s).length) (s.putT t (stepT p m s t j)) (k + 1)) := by
  have hle := h.le
  have h5 : 5000 - k = (5000 - (k + 1)) + 1 := by omega
  have e1 : (8 * t + j) / 8 = t := by omega
  have e2 : (8 * t + j) % 8 = j := by omega
  have h1 := h.eq
  rw [h5, goM, if_neg (by rw [he]; decide), if_neg hl] at h1
  simp only [e, e1, e2] at h1
  refine ⟨fun hf => ?_, fun hf => ?_⟩
  · rw [if_pos hf] at h1; exact h1.symm
  · rw [if_neg (by rw [hf]; decide)] at h1
    refine ⟨by omega, ?_, h1, .step h.reach ht hm hf, ?_⟩
    · have := next_le (script := script) (nx := nx) (l := (moves p m s).length); have := h.nxk; omega
    · show (stepT p m s t j).prints.length ≤ _
      have := h.pr
      omega
end
end Go.Proofs.Ytfpaahkleienoaa
