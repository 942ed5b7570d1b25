/-
  Contracts of functions of this program and of the references, each walked once.
-/
import Derived.Test.YtanhbpofhebbaaaX2
namespace Go.Proofs.Ytanhbpofhebbaaa
open Go.RowKit
set_option linter.unusedSimpArgs false
set_option linter.unusedVariables false


theorem own_blk {α : Type} [Enc α] {w : World} {E : TypeId} {v : Value} {l : List α} (h0 : 0 < l.length) (h : w.ownsRow 0 E (Enc.sz α) v l.length (encL l)) : v.ownBlock = some (vblk v) := by
  rcases h.2 with ⟨_, hn⟩ | ⟨g, cap, cur, hv, _⟩
  · omega
  · rw [hv]; rfl
theorem nth_app_ge {α : Type} [Inhabited α] (l m : List α) (i : Nat) (h : l.length ≤ i) : nth (l ++ m) i = nth m (i - l.length) := by simp only [nth, List.getD, List.getElem?_append_right h]
theorem nth_replicate {α : Type} [Inhabited α] (n : Nat) (x : α) (i : Nat) (h : i < n) : nth (List.replicate n x) i = x := by simp [nth, h]
theorem nth_snoc {α : Type} [Inhabited α] (l : List α) (x : α) : nth (l ++ [x]) l.length = x := by simp [nth]
theorem nth_app_lt {α : Type} [Inhabited α] (l m : List α) (i : Nat) (h : i < l.length) : nth (l ++ m) i = nth l i := by simp [nth, List.getElem?_append_left h]

/-- What each order becomes, as a list. -/
def becL (B : Nat → Ins → List Ins) (code : List Ins) : List (List Ins) := (List.range code.length).map fun i => B i (nth code i)
theorem becL_len (B : Nat → Ins → List Ins) (code : List Ins) : (becL B code).length = code.length := by simp [becL]
theorem becL_nth (B : Nat → Ins → List Ins) (code : List Ins) (i : Nat) (h : i < code.length) : nth (becL B code) i = B i (nth code i) := by simp [becL, nth, h]
def fixMv (become : List (List Ins)) (code : List Ins) (i : Nat) (x : Ins) : Ins :=
  if x.op = 14 ∧ ((nth code i).op = 14 ∨ (nth code i).op = 15) then { x with a := placeL become x.a.toNat }
  else if x.op = 15 ∧ (nth code i).op = 15 then { x with b := placeL become x.b.toNat } else x
def outUpto (B : Nat → Ins → List Ins) (code : List Ins) (k : Nat) : List Ins := (List.range k).flatMap fun i => B i (nth code i)
def fromUpto (B : Nat → Ins → List Ins) (code : List Ins) (k : Nat) : List Int := (List.range k).flatMap fun i => List.replicate (B i (nth code i)).length (i : Int)
theorem outUpto_succ (B : Nat → Ins → List Ins) (code : List Ins) (k : Nat) : outUpto B code (k + 1) = outUpto B code k ++ B k (nth code k) := by simp [outUpto, List.range_succ]
theorem fromUpto_succ (B : Nat → Ins → List Ins) (code : List Ins) (k : Nat) : fromUpto B code (k + 1) = fromUpto B code k ++ List.replicate (B k (nth code k)).length (k : Int) := by simp [fromUpto, List.range_succ]
theorem fromUpto_len (B : Nat → Ins → List Ins) (code : List Ins) (k : Nat) : (fromUpto B code k).length = (outUpto B code k).length := by
  induction k with
  | zero => rfl
  | succ k ih => rw [fromUpto_succ, outUpto_succ]; simp [ih]
theorem fromUpto_at (B : Nat → Ins → List Ins) (code : List Ins) (k q : Nat) (h : q < (fromUpto B code k).length) : 0 ≤ nth (fromUpto B code k) q ∧ (nth (fromUpto B code k) q).toNat < k ∧ ∃ j, j < (B (nth (fromUpto B code k) q).toNat (nth code (nth (fromUpto B code k) q).toNat)).length ∧ nth (outUpto B code k) q = nth (B (nth (fromUpto B code k) q).toNat (nth code (nth (fromUpto B code k) q).toNat)) j := by
  induction k with
  | zero => simp [fromUpto] at h
  | succ k ih =>
    rw [fromUpto_succ] at h ⊢
    by_cases hq : q < (fromUpto B code k).length
    · obtain ⟨h1, h2, j, h3, h4⟩ := ih hq
      rw [nth_app_lt _ _ _ hq]
      refine ⟨h1, by omega, j, h3, ?_⟩
      rw [outUpto_succ, nth_app_lt _ _ _ (by rw [← fromUpto_len]; exact hq)]
      exact h4
    · rw [List.length_append, List.length_replicate] at h
      have hn : nth (fromUpto B code k ++ List.replicate (B k (nth code k)).length (k : Int)) q = (k : Int) := by
        have hq2 : q - (fromUpto B code k).length < (B k (nth code k)).length := by omega
        rw [nth_app_ge _ _ _ (by omega), nth_replicate _ _ _ hq2]
      rw [hn]
      refine ⟨by omega, by omega, q - (fromUpto B code k).length, by simp; omega, ?_⟩
      rw [outUpto_succ]
      simp only [nth, List.getD, List.getElem?_append_right (show (outUpto B code k).length ≤ q by rw [← fromUpto_len]; omega), fromUpto_len]
      rfl
theorem placeL_out (B : Nat → Ins → List Ins) (code : List Ins) (k : Nat) (h : k ≤ code.length) : (outUpto B code k).length = placeL (becL B code) k := by
  induction k with
  | zero => rfl
  | succ k ih =>
    rw [outUpto_succ, placeL_succ _ _ (by rw [becL_len]; omega), becL_nth _ _ _ (by omega), List.length_append, ih (by omega)]
def movedL (B : Nat → Ins → List Ins) (code : List Ins) : List Ins := (List.range code.length).flatMap fun i => (B i (nth code i)).map (fixMv (becL B code) code i)
theorem movedL_of (B : Nat → Ins → List Ins) (code : List Ins) (ou : List Ins) (hl : ou.length = (outUpto B code code.length).length)
    (h : ∀ q, q < ou.length → nth ou q = fixMv (becL B code) code (nth (fromUpto B code code.length) q).toNat (nth (outUpto B code code.length) q)) : ou = movedL B code := by
  have key : ∀ k, (List.range k).flatMap (fun i => (B i (nth code i)).map (fixMv (becL B code) code i)) = (List.range (outUpto B code k).length).map fun q => fixMv (becL B code) code (nth (fromUpto B code k) q).toNat (nth (outUpto B code k) q) := by
    intro k
    induction k with
    | zero => rfl
    | succ k ih =>
      rw [List.range_succ, List.flatMap_append, ih]
      apply ext_nth
      · simp [outUpto_succ]
      · intro q hq
        have hql : q < (outUpto B code k).length + (B k (nth code k)).length := by simpa using hq
        have hq2 : q < (outUpto B code (k + 1)).length := by rw [outUpto_succ]; simpa using hql
        have e2 : nth ((List.range (outUpto B code (k + 1)).length).map fun q => fixMv (becL B code) code (nth (fromUpto B code (k + 1)) q).toNat (nth (outUpto B code (k + 1)) q)) q = fixMv (becL B code) code (nth (fromUpto B code (k + 1)) q).toNat (nth (outUpto B code (k + 1)) q) := by simp [nth, hq2]
        rw [e2, fromUpto_succ, outUpto_succ]
        by_cases h1 : q < (outUpto B code k).length
        · rw [nth_app_lt _ _ _ (by simpa using h1), nth_app_lt _ _ _ (by rw [fromUpto_len]; exact h1), nth_app_lt _ _ _ h1]
          simp [nth, h1]
        · have h3 : q - (outUpto B code k).length < (B k (nth code k)).length := by omega
          have e3 : nth (fromUpto B code k ++ List.replicate (B k (nth code k)).length (k : Int)) q = (k : Int) := by
            rw [nth_app_ge _ _ _ (by rw [fromUpto_len]; omega), fromUpto_len, nth_replicate _ _ _ h3]
          have e4 : nth (outUpto B code k ++ B k (nth code k)) q = nth (B k (nth code k)) (q - (outUpto B code k).length) := by
            simp only [nth, List.getD, List.getElem?_append_right (show (outUpto B code k).length ≤ q by omega)]
          rw [e3, e4]
          rw [nth_app_ge _ _ _ (by simp; omega)]
          simp only [List.flatMap_cons, List.flatMap_nil, List.append_nil, List.length_map, List.length_range]
          rw [nth_map' _ _ _ h3]
          simp
  unfold movedL
  rw [key]
  apply ext_nth
  · simpa using hl
  · intro q hq
    rw [h q hq]
    have : q < (outUpto B code code.length).length := by omega
    simp [nth, this]
/-- The jumps of what orders become tell old places. -/
def BecB (B : Nat → Ins → List Ins) (code : List Ins) : Prop := ∀ i, i < code.length → ∀ k, k < (B i (nth code i)).length →
  ((nth (B i (nth code i)) k).op ≠ 14 ∨ ((nth code i).op ≠ 14 ∧ (nth code i).op ≠ 15) ∨ (0 ≤ (nth (B i (nth code i)) k).a ∧ (nth (B i (nth code i)) k).a ≤ code.length)) ∧
  ((nth (B i (nth code i)) k).op ≠ 15 ∨ (nth code i).op ≠ 15 ∨ (0 ≤ (nth (B i (nth code i)) k).b ∧ (nth (B i (nth code i)) k).b ≤ code.length))

end Go.Proofs.Ytanhbpofhebbaaa
