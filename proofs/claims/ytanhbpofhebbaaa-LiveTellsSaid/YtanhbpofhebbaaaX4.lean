/-
  Contracts of functions of this program and of the references, each walked once.
-/
import Derived.Test.YtanhbpofhebbaaaX3
namespace Go.Proofs.Ytanhbpofhebbaaa
open Go.RowKit
set_option linter.unusedSimpArgs false
set_option linter.unusedVariables false


theorem endF_le (code : List Ins) (hj : JumpsOK code) : ∀ (n at_ : Nat), at_ ≤ code.length → endF code n at_ ≤ code.length
  | 0, at_, h => h
  | n + 1, at_, h => by
    unfold endF
    split
    · rename_i hh
      have := (hj at_ hh.1).1 hh.2
      exact endF_le code hj n _ (by omega)
    · exact h
def straightIns (code : List Ins) (x : Ins) : Ins :=
  if x.op = 14 then { x with a := endF code code.length x.a.toNat } else if x.op = 15 then { x with b := endF code code.length x.b.toNat } else x
theorem straightIns_op (code : List Ins) (x : Ins) : (straightIns code x).op = x.op := by unfold straightIns; split; rfl; split <;> rfl
def toL (code : List Ins) : List Ins := code.map (straightIns code)
theorem toL_ok (code : List Ins) (hj : JumpsOK code) : JumpsOK (toL code) := by
  intro i hi
  have hi' : i < code.length := by simpa [toL] using hi
  have e : nth (toL code) i = straightIns code (nth code i) := nth_map' _ _ _ hi'
  have hl : (toL code).length = code.length := by simp [toL]
  rw [e, straightIns_op, hl]
  refine ⟨fun h => ?_, fun h => ?_⟩
  · have := (hj i hi').1 h
    have := endF_le code hj code.length (nth code i).a.toNat (by omega)
    have e2 : straightIns code (nth code i) = { nth code i with a := endF code code.length (nth code i).a.toNat } := by unfold straightIns; rw [if_pos h]
    rw [e2]
    show 0 ≤ ((endF code code.length (nth code i).a.toNat : Nat) : Int) ∧ ((endF code code.length (nth code i).a.toNat : Nat) : Int) ≤ _
    omega
  · have := (hj i hi').2 h
    have := endF_le code hj code.length (nth code i).b.toNat (by omega)
    have h14 : ¬ (nth code i).op = 14 := by omega
    have e2 : straightIns code (nth code i) = { nth code i with b := endF code code.length (nth code i).b.toNat } := by unfold straightIns; rw [if_neg h14, if_pos h]
    rw [e2]
    show 0 ≤ ((endF code code.length (nth code i).b.toNat : Nat) : Int) ∧ ((endF code code.length (nth code i).b.toNat : Nat) : Int) ≤ _
    omega
def becS (i : Nat) (x : Ins) : List Ins := if x.op = 14 ∧ x.a = ((i + 1 : Nat) : Int) then [] else [x]
theorem becS_len (i : Nat) (x : Ins) : (becS i x).length ≤ 1 := by unfold becS; split <;> simp
theorem becS_nth (i : Nat) (x : Ins) (k : Nat) (h : k < (becS i x).length) : nth (becS i x) k = x := by
  unfold becS at h ⊢
  split at h
  · simp at h
  · rename_i hn
    rw [if_neg hn]
    obtain rfl : k = 0 := by simpa using h
    rfl
theorem becS_ok (code : List Ins) (hj : JumpsOK code) : BecB becS code := by
  intro i hi k hk
  rw [becS_nth _ _ _ hk]
  have := hj i hi
  refine ⟨?_, ?_⟩
  · by_cases h : (nth code i).op = 14
    · exact .inr (.inr (this.1 h))
    · exact .inl h
  · by_cases h : (nth code i).op = 15
    · exact .inr (.inr (this.2 h))
    · exact .inl h
theorem becS_ok2 (code : List Ins) (hj : JumpsOK code) (bc : List (Ls Ins)) (hb : bc.map (·.l) = becL becS code) : BecomeOK2 bc code := by
  intro i hi k hk
  have hl : bc.length = code.length := by have := congrArg List.length hb; simpa [becL] using this
  have e : (nth bc i).l = becS i (nth code i) := by
    rw [← nth_map' (fun x : Ls Ins => x.l) bc i (by omega), hb, becL_nth _ _ _ hi]
  rw [e] at hk ⊢
  exact becS_ok code hj i hi k hk
theorem moved_put (B : Nat → Ins → List Ins) (code : List Ins) (h : ∀ i, i < code.length → ∀ x ∈ B i (nth code i), x.op = 15 → (nth code i).op ≠ 17) : movedL B code = putL (becL B code) code := by
  unfold movedL putL putUpto
  simp only [List.flatMap]
  congr 1
  apply List.map_congr_left
  intro i hi
  have hi' : i < code.length := by simpa using hi
  rw [becL_nth _ _ _ hi']
  apply List.map_congr_left
  intro x hx
  unfold fixMv fixIns
  have := h i hi' x hx
  split
  · rfl
  · split
    · rfl
    · rw [if_neg (fun hh => this hh.1 hh.2)]
theorem becS_put (code : List Ins) : movedL becS code = putL (becL becS code) code := by
  refine moved_put _ _ fun i hi x hx h15 => ?_
  unfold becS at hx
  split at hx
  · cases hx
  · obtain rfl : x = nth code i := by simpa using hx
    omega
def straightL (code : List Ins) : List Ins := movedL becS (toL code)
theorem ok_thread {code : Ls (Ls Ins)} {words : Ls Int} {locks regs : Int} (h : OkPg (pgOf code words locks regs)) (t : Nat) (ht : t < code.l.length) : (nth code.l t).l.length ≤ 400 ∧ JumpsOK (nth code.l t).l := by
  have e : nth (pgOf code words locks regs).code t = (nth code.l t).l := nth_map' _ _ _ ht
  have ht' : t < (pgOf code words locks regs).code.length := by simpa [pgOf] using ht
  refine ⟨by rw [← e]; exact h.len t ht', fun i hi => ?_⟩
  have hi2 := h.ins t i ht' (by rw [e]; exact hi)
  rw [e] at hi2
  have hw : wrap64 (((nth code.l t).l.length : Int) + 1) = ((nth code.l t).l.length : Int) + 1 := by
    have hlen := h.len t ht'
    rw [e] at hlen
    exact IntWalk.wrap64_in _ ⟨by omega, by omega⟩
  refine ⟨fun h14 => ?_, fun h15 => ?_⟩
  · have h0 := hi2.n0
    unfold okNumG at h0
    rw [h14] at h0
    have hk : kindsB 14 = ⟨#[99]⟩ := by unfold kindsB; simp
    rw [hk] at h0
    simp only [show (0 : Nat) < (⟨#[99]⟩ : ByteArray).size from by decide, dif_pos] at h0
    have : fitsG (pgOf code words locks regs) (nth code.l t).l.length 99 (nth (nth code.l t).l i).a = true := h0
    unfold fitsG at this
    simp only [Int.reduceEq, if_false, if_true, hw, Bool.and_eq_true, decide_eq_true_eq] at this
    omega
  · have h0 := hi2.n1
    unfold okNumG at h0
    rw [h15] at h0
    have hk : kindsB 15 = ⟨#[114, 99]⟩ := by unfold kindsB; simp
    rw [hk] at h0
    simp only [show (1 : Nat) < (⟨#[114, 99]⟩ : ByteArray).size from by decide, dif_pos] at h0
    have : fitsG (pgOf code words locks regs) (nth code.l t).l.length 99 (nth (nth code.l t).l i).b = true := h0
    unfold fitsG at this
    simp only [Int.reduceEq, if_false, if_true, hw, Bool.and_eq_true, decide_eq_true_eq] at this
    omega
theorem ok_len {code : Ls (Ls Ins)} {words : Ls Int} {locks regs : Int} (h : OkPg (pgOf code words locks regs)) : 1 ≤ code.l.length ∧ code.l.length ≤ 4 ∧ words.l.length ≤ 64 ∧ 0 ≤ locks ∧ locks ≤ 4 ∧ 1 ≤ regs ∧ regs ≤ 200 := by
  have h1 := h.code
  have h2 := h.words
  have h3 := h.locks
  have h4 := h.regs
  simp only [pgOf, List.length_map] at h1 h2 h3 h4
  omega

end Go.Proofs.Ytanhbpofhebbaaa
