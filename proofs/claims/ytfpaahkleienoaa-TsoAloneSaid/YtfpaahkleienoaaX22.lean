/-
  Contracts of functions of this program and of the references, each walked once.
-/
import Derived.Test.YtfpaahkleienoaaX18
import Derived.Test.YtfpaahkleienoaaS9
import Derived.Test.YtfpaahkleienoaaS10
section
namespace Go.Proofs.Ytfpaahkleienoaa
open Go.RowKit
set_option linter.unusedSimpArgs false
set_option linter.unusedVariables false


def sumStep (h : Nat) (x : Int) : Nat := ((h ^^^ toU x) * 1099511628211 % 18446744073709551616) ^^^ (((h ^^^ toU x) * 1099511628211 % 18446744073709551616) / 2 ^ 29)
def sumL (l : List Int) : Nat := l.foldl sumStep (toU (l.length : Int)) % 4096
theorem sumL_lt (l : List Int) : sumL l < 4096 := Nat.mod_lt _ (by decide)
/-- The order of lists. -/
def lessB : List Int → List Int → Bool
  | a :: l, b :: m => if a = b then lessB l m else decide (a < b)
  | l, m => decide (l.length < m.length)
/-- The order of outcomes. -/
def aheadB (a b : Outc) : Bool := if a.st = b.st then (if a.words = b.words then lessB a.prints b.prints else lessB a.words b.words) else decide (a.st < b.st)

end Go.Proofs.Ytfpaahkleienoaa
end
namespace Go.Proofs.Ytfpaahkleienoaa
open Go.RowKit
set_option linter.unusedSimpArgs false
set_option linter.unusedVariables false


/-- The last of n keys with a sum. -/
def LastSum (ks : List (List Int)) (n h : Nat) (r : Int) : Prop := (r = -1 ∧ ∀ j, j < n → sumL (nth ks j) ≠ h) ∨ ∃ k : Nat, r = k ∧ k < n ∧ sumL (nth ks k) = h ∧ ∀ j, k < j → j < n → sumL (nth ks j) ≠ h
theorem LastSum.lt {ks : List (List Int)} {n h : Nat} {r : Int} (hl : LastSum ks n h r) : -1 ≤ r ∧ r < n := by
  rcases hl with ⟨h, _⟩ | ⟨k, h, h2, _⟩ <;> omega
theorem LastSum.at {ks : List (List Int)} {n h : Nat} {r : Int} (hl : LastSum ks n h r) (h0 : 0 ≤ r) : sumL (nth ks r.toNat) = h ∧ ∀ j, r.toNat < j → j < n → sumL (nth ks j) ≠ h := by
  rcases hl with ⟨h, _⟩ | ⟨k, rfl, h2, h3, h4⟩
  · omega
  · exact ⟨by simpa using h3, fun j hj => h4 j (by simpa using hj)⟩
theorem LastSum.none {ks : List (List Int)} {n h : Nat} {r : Int} (hl : LastSum ks n h r) (h0 : ¬ 0 ≤ r) : ∀ j, j < n → sumL (nth ks j) ≠ h := by
  rcases hl with ⟨_, h⟩ | ⟨k, rfl, _⟩
  · exact h
  · omega
structure HeadsOK (ks : List (List Int)) (heads before : List Int) : Prop where
  hl : heads.length = 4096
  bl : before.length = ks.length
  hd : ∀ h, h < 4096 → LastSum ks ks.length h (nth heads h)
  bf : ∀ i, i < ks.length → LastSum ks i (sumL (nth ks i)) (nth before i)
theorem nth_app0 {α : Type} [Inhabited α] (l m : List α) (k : Nat) : nth (l ++ m) k = if k < l.length then nth l k else nth m (k - l.length) := by
  simp only [nth, List.getD]
  by_cases h : k < l.length
  · rw [List.getElem?_append_left h, if_pos h]
  · rw [List.getElem?_append_right (by omega), if_neg h]
theorem LastSum.more {ks : List (List Int)} {n h : Nat} {r : Int} (x : List Int) (hl : LastSum ks n h r) (hn : n ≤ ks.length) : LastSum (ks ++ [x]) n h r := by
  have e : ∀ j, j < n → nth (ks ++ [x]) j = nth ks j := fun j hj => by rw [nth_app0, if_pos (by omega)]
  rcases hl with ⟨h1, h2⟩ | ⟨k, h1, h2, h3, h4⟩
  · exact .inl ⟨h1, fun j hj => by rw [e j hj]; exact h2 j hj⟩
  · exact .inr ⟨k, h1, h2, by rw [e k h2]; exact h3, fun j hj hj2 => by rw [e j hj2]; exact h4 j hj hj2⟩
theorem HeadsOK.put {ks : List (List Int)} {heads before : List Int} (h : HeadsOK ks heads before) (x : List Int) : HeadsOK (ks ++ [x]) (heads.set (sumL x) ((ks.length : Nat) : Int)) (before ++ [nth heads (sumL x)]) := by
  have hx : nth (ks ++ [x]) ks.length = x := by rw [nth_app0, if_neg (by omega)]; simp [nth]
  refine ⟨by simpa using h.hl, by simp [h.bl], fun s hs => ?_, fun i hi => ?_⟩
  · rw [nth_set]
    by_cases e : sumL x = s
    · rw [if_pos ⟨e, by rw [h.hl]; exact sumL_lt x⟩]
      exact .inr ⟨ks.length, rfl, by simp, by rw [hx]; exact e, fun j hj hj2 => by simp at hj2; omega⟩
    · rw [if_neg (fun hh => e hh.1)]
      rcases h.hd s hs with ⟨h1, h2⟩ | ⟨k, h1, h2, h3, h4⟩
      · refine .inl ⟨h1, fun j hj => ?_⟩
        simp at hj
        rcases Nat.lt_or_ge j ks.length with hlt | hge
        · rw [nth_app0, if_pos hlt]; exact h2 j hlt
        · obtain rfl : j = ks.length := by omega
          rw [hx]; exact e
      · refine .inr ⟨k, h1, by simp; omega, by rw [nth_app0, if_pos h2]; exact h3, fun j hj hj2 => ?_⟩
        simp at hj2
        rcases Nat.lt_or_ge j ks.length with hlt | hge
        · rw [nth_app0, if_pos hlt]; exact h4 j hj hlt
        · obtain rfl : j = ks.length := by omega
          rw [hx]; exact e
  · simp at hi
    rcases Nat.lt_or_ge i ks.length with hlt | hge
    · rw [nth_app0 ks, if_pos hlt, nth_app0 before, if_pos (by rw [h.bl]; exact hlt)]
      exact (h.bf i hlt).more x (by omega)
    · obtain rfl : i = ks.length := by omega
      rw [hx, nth_app0 before, if_neg (by rw [h.bl]; omega), h.bl]
      have := (h.hd (sumL x) (sumL_lt x)).more x (Nat.le_refl _)
      simpa [nth] using this
/-- Which outcomes are there when one more is put in. -/
def PutRel (o : OutL) (l l' : List OutL) : Prop := ((∃ i, i < l.length ∧ aheadB o.out (nth l i).out = false ∧ aheadB (nth l i).out o.out = false) ∧ l' = l) ∨
  ∃ k, k ≤ l.length ∧ (∀ j, j < k → aheadB o.out (nth l j).out = false ∧ aheadB (nth l j).out o.out = true) ∧ (k < l.length → aheadB o.out (nth l k).out = true) ∧ l' = l.take k ++ o :: l.drop k
def PutInv (o : OutL) (l : List OutL) (i : Nat) (dn : Bool) (ol : List OutL) : Prop := (dn = false ∧ ol = l.take i ∧ ∀ j, j < i → aheadB o.out (nth l j).out = false ∧ aheadB (nth l j).out o.out = true) ∨
  (dn = true ∧ ∃ k, k < i ∧ k < l.length ∧ (∀ j, j < k → aheadB o.out (nth l j).out = false ∧ aheadB (nth l j).out o.out = true) ∧ aheadB o.out (nth l k).out = true ∧ ol = l.take k ++ o :: (l.drop k).take (i - k))
theorem PutInv.one {o : OutL} {l ol : List OutL} {i : Nat} (h : PutInv o l i false ol) (hi : i < l.length) (h1 : aheadB o.out (nth l i).out = true) : PutInv o l (i + 1) true ((ol ++ [o]) ++ [nth l i]) := by
  rcases h with ⟨_, h2, h3⟩ | ⟨h, _⟩
  · refine .inr ⟨rfl, i, by omega, hi, h3, h1, ?_⟩
    have e1 : (l.drop i).take 1 = [nth l i] := by rw [List.drop_eq_getElem_cons hi, nth_lt l i hi]; rfl
    rw [h2, show i + 1 - i = 1 by omega, e1]
    simp
  · cases h
theorem PutInv.two {o : OutL} {l ol : List OutL} {i : Nat} {dn : Bool} (h : PutInv o l i dn ol) (hi : i < l.length) (h1 : dn = true ∨ (aheadB o.out (nth l i).out = false ∧ aheadB (nth l i).out o.out = true)) : PutInv o l (i + 1) dn (ol ++ [nth l i]) := by
  rcases h with ⟨h, h2, h3⟩ | ⟨h, k, h2, h3, h4, h5, h6⟩
  · refine .inl ⟨h, by rw [h2, take_succ_nth _ _ hi], fun j hj => ?_⟩
    rcases Nat.lt_or_ge j i with hlt | hge
    · exact h3 j hlt
    · obtain rfl : j = i := by omega
      rcases h1 with h1 | h1
      · rw [h] at h1; cases h1
      · exact h1
  · refine .inr ⟨h, k, by omega, h3, h4, h5, ?_⟩
    rw [h6, show i + 1 - k = (i - k) + 1 by omega, take_succ_nth _ _ (by simp; omega)]
    have : nth (l.drop k) (i - k) = nth l i := by simp only [nth, List.getD, List.getElem?_drop, show k + (i - k) = i by omega]
    rw [this]; simp
theorem PutInv.rel {o : OutL} {l ol : List OutL} {i : Nat} (h : PutInv o l i true ol) (hi : i = l.length) : PutRel o l ol := by
  rcases h with ⟨h, _⟩ | ⟨_, k, h2, h3, h4, h5, h6⟩
  · cases h
  · exact .inr ⟨k, by omega, h4, fun _ => h5, by rw [h6, List.take_of_length_le (l := l.drop k) (by rw [List.length_drop]; omega)]⟩
theorem PutInv.len {o : OutL} {l ol : List OutL} {i : Nat} {dn : Bool} (h : PutInv o l i dn ol) (hi : i ≤ l.length) : ol.length ≤ i + 1 := by
  rcases h with ⟨_, h2, _⟩ | ⟨_, k, h2, h3, _, _, h6⟩
  · rw [h2]; simp; omega
  · rw [h6]; simp; omega
end Go.Proofs.Ytfpaahkleienoaa
