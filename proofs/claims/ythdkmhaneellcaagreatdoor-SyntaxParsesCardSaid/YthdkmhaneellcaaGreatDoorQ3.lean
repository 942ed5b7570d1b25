/-
  Tokens of a text, step by step, in plain Lean.
-/
import Derived.Test.YthdkmhaneellcaaGreatDoorQ2
namespace Go.Proofs.YthdkmhaneellcaaGreatDoor
open Go.RowKit
set_option linter.unusedSimpArgs false
set_option linter.unusedVariables false

section
variable {s : ByteArray} {f i k e : Nat} {l : List Tok} {t : Tok}
theorem scan_bad (h : (skipS s false i).2 = true) : scanF s (f + 1) i l = (l, some (4, (skipS s false i).1)) := by
  show (if (skipS s false i).2 = true then _ else _) = _
  rw [if_pos h]
theorem scan_end (h : skipS s false i = (k, false)) (hk : s.size ≤ k) : scanF s (f + 1) i l = (l, none) := by
  show (if (skipS s false i).2 = true then _ else _) = _
  rw [h, if_neg (fun h9 : (k, false).2 = true => by cases h9), if_pos hk]
theorem scan_none (h : skipS s false i = (k, false)) (hk : k < s.size) (h1 : oneF s k = none) : scanF s (f + 1) i l = (l, some (5, k)) := by
  show (if (skipS s false i).2 = true then _ else _) = _
  rw [h, if_neg (fun h9 : (k, false).2 = true => by cases h9), if_neg (show ¬ s.size ≤ k by omega)]
  show (match oneF s k with | none => _ | some (t, e) => _) = _
  rw [h1]
theorem scan_some (h : skipS s false i = (k, false)) (hk : k < s.size) (h1 : oneF s k = some (t, e)) : scanF s (f + 1) i l = scanF s f e (l ++ [t]) := by
  show (if (skipS s false i).2 = true then _ else _) = _
  rw [h, if_neg (fun h9 : (k, false).2 = true => by cases h9), if_neg (show ¬ s.size ≤ k by omega)]
  show (match oneF s k with | none => _ | some (t, e) => _) = _
  rw [h1]
theorem signN_le (hi : i < s.size) : i + signN s i ≤ s.size := by
  unfold signN
  split
  · omega
  · split <;> omega
theorem one_lt (hi : i < s.size) (h : oneF s i = some (t, e)) : i < e ∧ e ≤ s.size := by
  unfold oneF at h
  by_cases hl : letterN (bt s i) = true
  · have h9 : i + 1 ≤ runS wordN s i := by
      rw [runS_eq hi, if_pos (by unfold wordN; rw [hl]; rfl)]
      exact (runS_ge (by omega)).1
    have h8 := (runS_ge (p := wordN) (s := s) (i := i) (by omega)).2
    rw [if_pos hl] at h
    simp only at h
    split at h
    · cases h; omega
    · split at h
      · cases h
      · cases h; omega
  · rw [if_neg hl] at h
    by_cases hd : digitN (bt s i) = true
    · have h9 : i + 1 ≤ runS digitN s i := by
        rw [runS_eq hi, if_pos hd]
        exact (runS_ge (by omega)).1
      have h8 := (runS_ge (p := digitN) (s := s) (i := i) (by omega)).2
      rw [if_pos hd] at h
      simp only at h
      split at h
      · cases h
      · cases h; omega
    · rw [if_neg hd] at h
      have h7 := signN_le hi
      split at h
      · cases h
      · cases h; omega
end
/-- What a text's tokens are; its first fault: code and place. -/
def scanR (s : ByteArray) : List Tok × Int × Nat :=
  if 4000 < s.size then ([], 1, 0) else match scanF s (s.size + 1) 0 [] with
    | (l, none) => (l, 0, 0)
    | (_, some (c, i)) => ([], c, i)
theorem scanR_big {s : ByteArray} (h : 4000 < s.size) : scanR s = ([], 1, 0) := by unfold scanR; rw [if_pos h]
theorem scanR_ok {s : ByteArray} {l : List Tok} (h : s.size ≤ 4000) (h2 : scanF s (s.size + 1) 0 [] = (l, none)) : scanR s = (l, 0, 0) := by unfold scanR; rw [if_neg (by omega), h2]
theorem scanR_no {s : ByteArray} {l : List Tok} {c : Int} {i : Nat} (h : s.size ≤ 4000) (h2 : scanF s (s.size + 1) 0 [] = (l, some (c, i))) : scanR s = ([], c, i) := by unfold scanR; rw [if_neg (by omega), h2]
end Go.Proofs.YthdkmhaneellcaaGreatDoor
