/-
  A run of the document's machine by a script: its states, in plain Lean.
-/
import Derived.Test.YtfpaahkleienoaaM3
namespace Go.Proofs.Ytfpaahkleienoaa
open Go.RowKit
set_option linter.unusedSimpArgs false
set_option linter.unusedVariables false

section
variable {code : Ls (Ls Ins)} {words0 : Ls Int} {Lk R : Nat} {m : Int} {script : List Int} {nx k : Nat} {x z : SD}
theorem goS_pick (hgo : GoI (pgN code words0 Lk R) m script nx x.st k) (hth : x.thr.l.length = code.l.length) {ml : List Int} (hml : ml = moves (pgN code words0 Lk R) m x.st) (hl : ml.length ≠ 0) (h3 : ∀ t, t < code.l.length → (nth x.thr.l t).wait.l.length ≤ 3) :
    ∃ t j, t < code.l.length ∧ mvOK m (nth code.l t).l ⟨(nth x.thr.l t).pc, (nth x.thr.l t).regs.l, (nth x.thr.l t).wait.l, x.words.l, x.owner.l, x.prints.l, false⟩ j = true ∧ j < 8 ∧ j ≤ (nth x.thr.l t).wait.l.length ∧ nth ml (pickM script nx ml.length) = ((8 * t + j : Nat) : Int) ∧ mvM (pgN code words0 Lk R) m x.st script nx = 8 * t + j := by
  subst hml
  obtain ⟨t, j, h1, h2, h4, h5⟩ := mv_at (p := pgN code words0 Lk R) (m := m) (s := x.st) (script := script) (nx := nx) hl
  rw [pgN_len] at h1
  rw [pgN_code h1, st_view (by rw [hth]; exact h1)] at h2
  have h6 : j ≤ (nth x.thr.l t).wait.l.length := by
    rcases mvOK_k h2 with ⟨h9, _⟩ | ⟨_, h9, _⟩
    · omega
    · exact h9
  have := h3 t h1
  exact ⟨t, j, h1, h2, by omega, h6, h4, h5⟩
theorem goS_next (hgo : GoI (pgN code words0 Lk R) m script nx x.st k) (hth : x.thr.l.length = code.l.length) (he : ended (pgN code words0 Lk R) x.st = false) {l : Nat} (hl : l = (moves (pgN code words0 Lk R) m x.st).length) (hl0 : l ≠ 0) (hk : k ≠ 5000) {t j : Nat} (ht : t < code.l.length) (hj : j < 8)
    (hm : mvOK m (nth code.l t).l ⟨(nth x.thr.l t).pc, (nth x.thr.l t).regs.l, (nth x.thr.l t).wait.l, x.words.l, x.owner.l, x.prints.l, false⟩ j = true) (e : mvM (pgN code words0 Lk R) m x.st script nx = 8 * t + j) {y : TS} (hy : y = stepT (pgN code words0 Lk R) m x.st t j) (hz : z.st = x.st.putT t y) :
    (y.fell = true → runM (pgN code words0 Lk R) m script = ⟨1, k + 1, y.words, y.prints⟩) ∧ (y.fell = false → GoI (pgN code words0 Lk R) m script (nextM script nx l) z.st (k + 1)) := by
  obtain ⟨a, b⟩ := goI_next hgo he (by rw [← hl]; exact hl0) hk hj e (by rw [pgN_len]; exact ht) (by rw [pgN_code ht, st_view (by rw [hth]; exact ht)]; exact hm) (by unfold stepT; exact doT_pr)
  rw [← hy] at a b
  refine ⟨a, fun hf => ?_⟩
  rw [hz, hl]
  exact b hf
end
end Go.Proofs.Ytfpaahkleienoaa
