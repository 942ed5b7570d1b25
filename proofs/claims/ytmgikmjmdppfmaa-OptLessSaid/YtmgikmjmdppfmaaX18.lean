/-
  Contracts of functions of this program and of the references, each walked once.
-/
import Derived.Test.YtmgikmjmdppfmaaX1
import Derived.Test.YtmgikmjmdppfmaaX2
import Derived.Test.YtmgikmjmdppfmaaS7
import Derived.Test.YtmgikmjmdppfmaaS8
namespace Go.Proofs.Ytmgikmjmdppfmaa
open Go.RowKit
set_option linter.unusedSimpArgs false
set_option linter.unusedVariables false
set_option maxRecDepth 100000
set_option maxHeartbeats 20000000


/-- An order's numbers are what they may be: of R registers, W words, L locks. -/
structure InsR (R W L : Nat) (i : Ins) : Prop where
  o1 : i.op = 1 → 0 ≤ i.a ∧ i.a < R
  o2 : i.op = 2 → (0 ≤ i.a ∧ i.a < R) ∧ 0 ≤ i.b ∧ i.b < R
  o3 : i.op = 3 ∨ i.op = 4 ∨ i.op = 5 ∨ i.op = 6 ∨ i.op = 7 → (0 ≤ i.a ∧ i.a < R) ∧ (0 ≤ i.b ∧ i.b < R) ∧ 0 ≤ i.c ∧ i.c < R
  o8 : i.op = 8 → (0 ≤ i.a ∧ i.a < R) ∧ 0 ≤ i.b ∧ i.b < W
  o9 : i.op = 9 → (0 ≤ i.a ∧ i.a < W) ∧ 0 ≤ i.b ∧ i.b < R
  o10 : i.op = 10 ∨ i.op = 11 → (0 ≤ i.a ∧ i.a < R) ∧ 0 ≤ i.b ∧ i.b < R
  o13 : i.op = 13 → (0 ≤ i.a ∧ i.a < W) ∧ (0 ≤ i.b ∧ i.b < R) ∧ 0 ≤ i.c ∧ i.c < R
  o15 : i.op = 15 ∨ i.op = 16 → 0 ≤ i.a ∧ i.a < R
  o17 : i.op = 17 ∨ i.op = 18 → 0 ≤ i.a ∧ i.a < L
section
variable {m : Int} {n : Nat} {i : Ins} {x : TS}
theorem execT_1 (h : i.op = 1) : execT m n i x = x.put i.a i.b := by simp [execT, h]
theorem execT_2 (h : i.op = 2) : execT m n i x = x.put i.a (x.reg i.b) := by simp [execT, h]
theorem execT_3 (h : i.op = 3) : execT m n i x = x.put i.a (wrap64 (x.reg i.b + x.reg i.c)) := by simp [execT, h]
theorem execT_4 (h : i.op = 4) : execT m n i x = x.put i.a (wrap64 (x.reg i.b - x.reg i.c)) := by simp [execT, h]
theorem execT_5 (h : i.op = 5) : execT m n i x = x.put i.a (wrap64 (x.reg i.b * x.reg i.c)) := by simp [execT, h]
theorem execT_6 (h : i.op = 6) : execT m n i x = x.put i.a (bit (decide (x.reg i.b < x.reg i.c))) := by simp [execT, h]
theorem execT_7 (h : i.op = 7) : execT m n i x = x.put i.a (bit (decide (x.reg i.b = x.reg i.c))) := by simp [execT, h]
theorem execT_8 (h : i.op = 8) : execT m n i x = x.put i.a (x.finds i.b) := by simp [execT, h]
theorem execT_9 (h : i.op = 9) : execT m n i x = x.store m ⟨false, i.a, x.reg i.b⟩ := by simp [execT, h]
theorem execT_10t (h : i.op = 10) (h1 : 0 ≤ x.reg i.b ∧ x.reg i.b < (x.words.length : Int)) : execT m n i x = x.put i.a (x.finds (x.reg i.b)) := by simp [execT, h, TS.isWord, h1]
theorem execT_10f (h : i.op = 10) (h1 : ¬ (0 ≤ x.reg i.b ∧ x.reg i.b < (x.words.length : Int))) : execT m n i x = { x with fell := true } := by
  have e : x.isWord (x.reg i.b) = false := decide_eq_false h1
  simp [execT, h, e]
theorem execT_11t (h : i.op = 11) (h1 : 0 ≤ x.reg i.a ∧ x.reg i.a < (x.words.length : Int)) : execT m n i x = x.store m ⟨false, x.reg i.a, x.reg i.b⟩ := by simp [execT, h, TS.isWord, h1]
theorem execT_11f (h : i.op = 11) (h1 : ¬ (0 ≤ x.reg i.a ∧ x.reg i.a < (x.words.length : Int))) : execT m n i x = { x with fell := true } := by
  have e : x.isWord (x.reg i.a) = false := decide_eq_false h1
  simp [execT, h, e]
theorem execT_13t (h : i.op = 13) (h1 : nth x.words i.a.toNat = x.reg i.b) : execT m n i x = { x with words := x.words.set i.a.toNat (x.reg i.c), regs := x.regs.set i.b.toNat 1 } := by simp [execT, h, h1]
theorem execT_13f (h : i.op = 13) (h1 : ¬ nth x.words i.a.toNat = x.reg i.b) : execT m n i x = x.put i.b 0 := by simp [execT, h, h1]
theorem execT_14 (h : i.op = 14) : execT m n i x = { x with pc := i.a } := by simp [execT, h]
theorem execT_15t (h : i.op = 15) (h1 : x.reg i.a = 0) : execT m n i x = { x with pc := i.b } := by simp [execT, h, h1]
theorem execT_15f (h : i.op = 15) (h1 : ¬ x.reg i.a = 0) : execT m n i x = x := by simp [execT, h, h1]
theorem execT_16 (h : i.op = 16) : execT m n i x = { x with prints := x.prints ++ [(n : Int), x.reg i.a] } := by simp [execT, h]
theorem execT_17 (h : i.op = 17) : execT m n i x = { x with owner := x.owner.set i.a.toNat n } := by simp [execT, h]
theorem execT_18a (h : i.op = 18) (h1 : nth x.owner i.a.toNat ≠ n) : execT m n i x = { x with fell := true } := by simp [execT, h, h1]
theorem execT_18b (h : i.op = 18) (h1 : ¬ nth x.owner i.a.toNat ≠ n) (j : Nat) (hj : j < x.wait.length) (hl : (nth x.wait j).lock = true) (hw : (nth x.wait j).wh = i.a) : execT m n i x = { x with fell := true } := by
  have e : x.holds i.a = true := List.any_eq_true.2 ⟨_, nth_mem _ _ hj, by simp [hl, hw]⟩
  simp [execT, h, e]
theorem execT_18c (h : i.op = 18) (h1 : ¬ nth x.owner i.a.toNat ≠ n) (hall : ∀ q, q < x.wait.length → ¬ ((nth x.wait q).lock = true ∧ (nth x.wait q).wh = i.a)) : execT m n i x = x.store m ⟨true, i.a, 0⟩ := by
  have e : x.holds i.a = false := by
    unfold TS.holds
    rw [List.any_eq_false]
    intro y hy
    obtain ⟨k, hk, rfl⟩ := List.mem_iff_getElem.1 hy
    have := hall k hk
    rw [show nth x.wait k = x.wait[k] from nth_lt _ _ hk] at this
    simpa using this
  have h1' : nth x.owner i.a.toNat = n := Decidable.not_not.1 h1
  simp [execT, h, h1', e]
theorem execT_no (h : ¬ i.op = 1 ∧ ¬ i.op = 2 ∧ ¬ i.op = 3 ∧ ¬ i.op = 4 ∧ ¬ i.op = 5 ∧ ¬ i.op = 6 ∧ ¬ i.op = 7 ∧ ¬ i.op = 8 ∧ ¬ i.op = 9 ∧ ¬ i.op = 10 ∧ ¬ i.op = 11 ∧ ¬ i.op = 13 ∧ ¬ i.op = 14 ∧ ¬ i.op = 15 ∧ ¬ i.op = 16 ∧ ¬ i.op = 17 ∧ ¬ i.op = 18) : execT m n i x = x := by
  obtain ⟨h1, h2, h3, h4, h5, h6, h7, h8, h9, h10, h11, h13, h14, h15, h16, h17, h18⟩ := h
  simp [execT, h1, h2, h3, h4, h5, h6, h7, h8, h9, h10, h11, h13, h14, h15, h16, h17, h18]
end
theorem doT_0 {m : Int} {n : Nat} {c : List Ins} {k : Nat} {x : TS} (hk : k = 0) : doT m n c k x = execT m n (nextIns c x.pc) { x with pc := x.pc + 1 } := by subst hk; rfl

end Go.Proofs.Ytmgikmjmdppfmaa
