/-
  What the tokens of a text are like; a whole text, read: in plain Lean.
-/
import Derived.Test.YthdkmhaneellcaaGreatDoorP2
namespace Go.Proofs.YthdkmhaneellcaaGreatDoor
open Go.RowKit
set_option linter.unusedSimpArgs false
set_option linter.unusedVariables false

/-- What a token is like. -/
def TokOK (t : Tok) : Prop := (t.k = 2 → t.t ∈ wordL) ∧ (t.k = 4 → t.t ∈ signL) ∧ 0 ≤ t.n ∧ t.n < 1000000000
theorem numF_le9 {s : ByteArray} {i : Nat} : ∀ k : Nat, k ≤ 9 → (∀ q, q < k → digitN (bt s (i + q)) = true) → 0 ≤ numF s i k ∧ numF s i k < 1000000000 := by
  have key : ∀ k : Nat, (∀ q, q < k → digitN (bt s (i + q)) = true) → 0 ≤ numF s i k ∧ numF s i k < 10 ^ k := by
    intro k
    induction k with
    | zero => intro _; exact ⟨Int.le_refl _, show (0 : Int) < 10 ^ 0 by decide⟩
    | succ k ih =>
      intro hd
      have h1 := ih fun q hq => hd q (by omega)
      have h2 := digitN_iff.1 (hd k (by omega))
      have e : (10 : Int) ^ (k + 1) = 10 * 10 ^ k := by rw [Int.pow_succ, Int.mul_comm]
      show 0 ≤ 10 * numF s i k + (bt s (i + k) - 48) ∧ 10 * numF s i k + (bt s (i + k) - 48) < _
      rw [e]
      omega
  intro k hk hd
  have h1 := key k hd
  have h2 : (10 : Int) ^ k ≤ 10 ^ 9 := by
    rcases (by omega : k = 0 ∨ k = 1 ∨ k = 2 ∨ k = 3 ∨ k = 4 ∨ k = 5 ∨ k = 6 ∨ k = 7 ∨ k = 8 ∨ k = 9) with rfl | rfl | rfl | rfl | rfl | rfl | rfl | rfl | rfl | rfl <;> decide
  have h3 : (10 : Int) ^ 9 = 1000000000 := by decide
  omega
theorem hasP_one {s x : ByteArray} {i : Nat} : hasP (s.extract i s.size) x = true → s.extract i (i + x.size) = x := fun h => (hasP_ext h).1
theorem sign_mem {s : ByteArray} {i : Nat} (hi : i < s.size) (h : signN s i ≠ 0) : s.extract i (i + signN s i) ∈ signL := by
  by_cases hn : ∀ y ∈ signL, hasP (s.extract i s.size) y = false
  · exact absurd (sign_none hi hn) h
  · -- the first that fits
    have key : ∀ (l : List ByteArray), (∃ y ∈ l, hasP (s.extract i s.size) y = true) → ∃ j, j < l.length ∧ hasP (s.extract i s.size) (nth l j) = true ∧ ∀ y ∈ l.take j, hasP (s.extract i s.size) y = false := by
      intro l
      induction l with
      | nil => rintro ⟨y, hy, _⟩; cases hy
      | cons x l ih =>
        rintro ⟨y, hy, hyt⟩
        by_cases hx : hasP (s.extract i s.size) x = true
        · exact ⟨0, by simp, hx, by simp⟩
        · rcases List.mem_cons.1 hy with rfl | hy
          · exact absurd hyt hx
          · obtain ⟨j, h1, h2, h3⟩ := ih ⟨y, hy, hyt⟩
            refine ⟨j + 1, by simp only [List.length_cons]; omega, h2, fun z hz => ?_⟩
            rw [List.take_succ_cons] at hz
            rcases List.mem_cons.1 hz with rfl | hz
            · simpa using hx
            · exact h3 z hz
    obtain ⟨j, h1, h2, h3⟩ := key signL (by
      apply Classical.byContradiction
      intro hc
      exact hn fun y hy => by
        cases hb : hasP (s.extract i s.size) y
        · rfl
        · exact absurd ⟨y, hy, hb⟩ hc)
    rw [sign_some h1 h2 h3, hasP_one h2]
    exact nth_mem _ _ h1
theorem one_tok {s : ByteArray} {i : Nat} {t : Tok} {e : Nat} (hi : i < s.size) (h : oneF s i = some (t, e)) : TokOK t := by
  unfold oneF at h
  by_cases hl : letterN (bt s i) = true
  · rw [if_pos hl] at h
    simp only at h
    split at h
    · rename_i hw
      cases h
      refine ⟨fun _ => ?_, fun h => absurd (show (2 : Int) = 4 from h) (by decide), by show (0 : Int) ≤ 0; decide, by show (0 : Int) < _; decide⟩
      unfold isWord at hw
      obtain ⟨y, hy, h9⟩ := List.any_eq_true.1 hw
      exact of_decide_eq_true h9 ▸ hy
    · split at h
      · cases h
      · cases h; exact ⟨fun h => absurd (show (1 : Int) = 2 from h) (by decide), fun h => absurd (show (1 : Int) = 4 from h) (by decide), by show (0 : Int) ≤ 0; decide, by show (0 : Int) < _; decide⟩
  · rw [if_neg hl] at h
    by_cases hd : digitN (bt s i) = true
    · rw [if_pos hd] at h
      simp only at h
      split at h
      · cases h
      · rename_i h9
        cases h
        have hb := numF_le9 (s := s) (i := i) (runS digitN s i - i) (by omega) fun q hq => run_all (s.size - i) i (i + q) (by omega) (show i + q < runS digitN s i by omega)
        exact ⟨fun h => absurd (show (3 : Int) = 2 from h) (by decide), fun h => absurd (show (3 : Int) = 4 from h) (by decide), hb.1, hb.2⟩
    · rw [if_neg hd] at h
      split at h
      · cases h
      · rename_i h9
        cases h
        exact ⟨fun h => absurd (show (4 : Int) = 2 from h) (by decide), fun _ => sign_mem hi h9, by show (0 : Int) ≤ 0; decide, by show (0 : Int) < _; decide⟩
theorem scan_props {s : ByteArray} : ∀ (f i : Nat) (l : List Tok), i ≤ s.size → (∀ t ∈ l, TokOK t) → (∀ t ∈ (scanF s f i l).1, TokOK t) ∧ (scanF s f i l).1.length ≤ l.length + (s.size - i) ∧ ∀ c k, (scanF s f i l).2 = some (c, k) → c = 4 ∨ c = 5
  | 0, i, l, hi, hl => ⟨hl, by show l.length ≤ _; omega, fun c k h => by cases h⟩
  | f + 1, i, l, hi, hl => by
    unfold scanF
    dsimp only
    have hge := skipS_ge (s := s) (note := false) (i := i) hi
    split
    · exact ⟨hl, by show l.length ≤ _; omega, fun c k h => by cases h; exact .inl rfl⟩
    · split
      · exact ⟨hl, by show l.length ≤ _; omega, fun c k h => by cases h⟩
      · rename_i h2
        split
        · exact ⟨hl, by show l.length ≤ _; omega, fun c k h => by cases h; exact .inr rfl⟩
        · rename_i t e h3
          have hlt := one_lt (by omega) h3
          have := scan_props f e (l ++ [t]) hlt.2 fun x hx => by
            rcases List.mem_append.1 hx with hx | hx
            · exact hl x hx
            · obtain rfl := List.mem_singleton.1 hx; exact one_tok (by omega) h3
          refine ⟨this.1, ?_, this.2.2⟩
          have h4 := this.2.1
          rw [List.length_append] at h4
          simp only [List.length_cons, List.length_nil] at h4
          omega
theorem scanR_props {s : ByteArray} {l : List Tok} {i : Nat} (h : scanR s = (l, 0, i)) : i = 0 ∧ s.size ≤ 4000 ∧ l.length ≤ 4000 ∧ ∀ t ∈ l, TokOK t := by
  unfold scanR at h
  split at h
  · cases h
  · rename_i hs
    have hp := scan_props (s := s) (s.size + 1) 0 [] (by omega) (by simp)
    split at h
    · rename_i l2 h2
      cases h
      rw [h2] at hp
      exact ⟨rfl, by omega, by have := hp.2.1; simp only [List.length_nil] at this; omega, hp.1⟩
    · rename_i l2 c k h2
      cases h
      rw [h2] at hp
      rcases hp.2.2 0 i rfl with h | h <;> cases h
section
variable {X : TE}
theorem adv_glob {s : PS} : Adv X.T.length 1 0 1 (globP X s) s := by
  unfold globP
  split
  · rename_i hb
    refine Adv.weak (m := 1) (q := 5) (Adv.skip (m := 0) (q := 3) (is_lt hb) ?_)
    exact Adv.and (m2 := 0) (d2 := 0) (q2 := 1) adv_name fun _ _ _ => Adv.and (m2 := 0) (d2 := 0) (q2 := -1) adv_take fun _ _ _ => adv_put
  · refine Adv.and (m2 := 0) (d2 := 0) (q2 := 0) adv_take fun _ _ _ => Adv.and (m2 := 0) (d2 := 0) (q2 := 0) adv_name fun _ s2 _ => ?_
    split
    · rename_i hb
      dsimp only
      generalize hj : (if isT X (s2.i + 1) ⟨#[45]⟩ = true then s2.i + 1 + 1 else s2.i + 1) = j
      have hj2 : s2.i + 1 ≤ j := by rw [← hj]; split <;> omega
      by_cases hk : kindT X j 3 = true
      · rw [if_pos hk]
        intro a s' h
        have hlt := kd_lt hk
        have := (Adv.and (n := X.T.length) (m := 0) (dd := 0) (q := 1) (m2 := 0) (d2 := 0) (q2 := -1) adv_take (fun _ _ _ => adv_put)) a s' h
        have e3 := this.2.2.2 (by show j + 1 ≤ _; omega)
        have e1 := this.1; have e2 := this.2.1; have e4 := this.2.2.1
        dsimp only at e1 e2 e4
        exact ⟨by omega, e2, by omega, fun _ => e3⟩
      · rw [if_neg hk]
        exact Adv.bad
    · exact Adv.and (m2 := 0) (d2 := 0) (q2 := -1) adv_take fun _ _ _ => adv_put
end
/-- A text's nodes; its first fault: code and place. -/
def parseR (s : ByteArray) : List Nd × Int × Int := match scanR s with
  | (l, c, i) => if c = 0 then (match progP ⟨l, (s.size : Int)⟩ with
      | .error (c, a) => ([], c, a)
      | .ok (_, p) => if 600 < p.l.length then ([], 10, (s.size : Int)) else (p.l, 0, 0))
    else ([], c, (i : Int))
end Go.Proofs.YthdkmhaneellcaaGreatDoor
