/-
  What is ahead of each order, as maps tell it: going on from an order.
-/
import Derived.Test.YtmgikmjmdppfmaaX125
import Derived.Test.YtmgikmjmdppfmaaX35
namespace Go.Proofs.Ytmgikmjmdppfmaa
open Go.RowKit
set_option linter.unusedSimpArgs false
set_option linter.unusedVariables false

section
variable {code : List Ins} {R t T : Nat} {c : List (KA VV)} {x : Ins} {e : List VV} {A : AF} {C : List (KA MA)} {n : Nat}
theorem out_1 (he : EnvC R c) (h : decide (1 ≤ x.op ∧ x.op ≤ 7) = true) (ha : 0 ≤ x.a) (ha2 : x.a < (R : Int)) : EnvC R (putKv x.a (rkD x R c) t c) ∧ envL R (putKv x.a (rkD x R c) t c) = outE x (envL R c) := by
  have h' := of_decide_eq_true h
  refine ⟨he.put ⟨ha, ha2⟩, ?_⟩
  rw [envL_put ⟨ha, ha2⟩]
  unfold outE rkD
  rw [if_pos h', if_pos h']
theorem out_2 (he : EnvC R c) (h : decide (1 ≤ x.op ∧ x.op ≤ 7) = false) (hw : 0 ≤ wrG x) (hw2 : wrG x < (R : Int)) : EnvC R (putKv (wrG x) ⟨2, 0⟩ t c) ∧ envL R (putKv (wrG x) ⟨2, 0⟩ t c) = outE x (envL R c) := by
  refine ⟨he.put ⟨hw, hw2⟩, ?_⟩
  rw [envL_put ⟨hw, hw2⟩]
  unfold outE
  rw [if_neg (of_decide_eq_false h), if_pos hw]
theorem out_3 (he : EnvC R c) (h : decide (1 ≤ x.op ∧ x.op ≤ 7) = false) (hw : ¬ 0 ≤ wrG x) : EnvC R c ∧ envL R c = outE x (envL R c) := by
  refine ⟨he, ?_⟩
  unfold outE
  rw [if_neg (of_decide_eq_false h), if_neg hw]
theorem nx_le (hj : JumpsOK code) (ht : t < code.length) : ∀ y ∈ nextsL code t, 0 ≤ y ∧ y ≤ (code.length : Int) := by
  intro y hy
  have h1 := hj t ht
  unfold nextsL at hy
  split at hy
  · rename_i h; rw [List.mem_singleton.1 hy]; exact h1.1 h
  · split at hy
    · rename_i h
      rcases List.mem_cons.1 hy with rfl | hy
      · omega
      · rw [List.mem_singleton.1 hy]; exact h1.2 h
    · rw [List.mem_singleton.1 hy]; omega
theorem nxtE_no (h : (nth code t).op ≠ 15) : nxtE code t e = (nextsL code t).map Int.toNat := by unfold nxtE; rw [if_neg h]
theorem nxtE_15 {d : Nat} (h : (nth code t).op = 15) : d ∈ nxtE code t e ↔ (((nth e (nth code t).a.toNat).s = 2 ∨ ((nth e (nth code t).a.toNat).s = 1 ∧ (nth e (nth code t).a.toNat).n ≠ 0)) ∧ d = t + 1) ∨ (((nth e (nth code t).a.toNat).s = 2 ∨ ((nth e (nth code t).a.toNat).s = 1 ∧ (nth e (nth code t).a.toNat).n = 0)) ∧ d = (nth code t).b.toNat) := by
  unfold nxtE
  rw [if_pos h, List.mem_append]
  refine or_congr ?_ ?_
  · split
    · rename_i h2; rw [List.mem_singleton]; exact ⟨fun h3 => ⟨h2, h3⟩, fun h3 => h3.2⟩
    · rename_i h2; exact ⟨fun h3 => (by cases h3), fun h3 => absurd h3.1 h2⟩
  · split
    · rename_i h2; rw [List.mem_singleton]; exact ⟨fun h3 => ⟨h2, h3⟩, fun h3 => h3.2⟩
    · rename_i h2; exact ⟨fun h3 => (by cases h3), fun h3 => absurd h3.1 h2⟩
/-- The next one that is led to. -/
theorem nx_mem (hj : JumpsOK code) (ht : t < code.length) (h : (nth code t).op ≠ 15) {k d : Nat} (hk : k < (nextsL code t).length) (hd : nth (nextsL code t) k = ((d : Nat) : Int)) : d ∈ nxtE code t e ∧ d ≤ code.length ∧ ((nextsL code t).take (k + 1)).map Int.toNat = ((nextsL code t).take k).map Int.toNat ++ [d] := by
  have h1 := nth_mem _ _ hk
  have h2 := nx_le hj ht _ h1
  rw [hd] at h1 h2
  refine ⟨?_, by omega, ?_⟩
  · rw [nxtE_no h]; exact List.mem_map.2 ⟨_, h1, by omega⟩
  · rw [take_succ_nth _ _ hk, List.map_append, hd]; rfl
theorem was_some (hC : WfC R C) (h : absA R C t ≠ none) : wasP (getK ((t : Nat) : Int) C) ≠ none ∧ EnvC R (wasC (getK ((t : Nat) : Int) C)) ∧ absA R C t = some (envL R (wasC (getK ((t : Nat) : Int) C))) := by
  unfold absA at h ⊢
  cases hk : getK ((t : Nat) : Int) C with
  | none => rw [hk] at h; exact absurd rfl h
  | some m => exact ⟨fun h9 => (by cases h9), hC _ _ hk, rfl⟩
/-- How much there is to rise. -/
theorem hA_le (hA' : OkA R n A) : hA R A t ≤ 2 * R + 1 := by
  unfold hA
  split
  · exact Nat.le_refl _
  · rename_i e h
    have := sum_c 2 (fun r => rankV (nth e r)) R fun r _ => rank_2 ((hA' _ _ h).2.2 r)
    omega
theorem mu_max (hA' : OkA R n A) : ∀ k, muA R A k ≤ k * (2 * R + 1)
  | 0 => Nat.zero_le _
  | k + 1 => by
    have h1 := mu_max hA' k
    have h2 := hA_le (t := k) hA'
    rw [muA, Nat.succ_mul]
    omega
end
end Go.Proofs.Ytmgikmjmdppfmaa
