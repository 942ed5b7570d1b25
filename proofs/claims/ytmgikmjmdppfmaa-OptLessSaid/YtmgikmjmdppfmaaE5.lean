/-
  Numbers put where they always are: in plain Lean.
-/
import Derived.Test.YtmgikmjmdppfmaaX127
import Derived.Test.YtmgikmjmdppfmaaX3
namespace Go.Proofs.Ytmgikmjmdppfmaa
open Go.RowKit
set_option linter.unusedSimpArgs false
set_option linter.unusedVariables false

/-- What an order becomes. -/
def bcC (A : AF) (i : Nat) (x : Ins) : List Ins := match A i with
  | none => []
  | some e => if 2 ≤ x.op ∧ x.op ≤ 7 ∧ (rkV x e).s = 1 then [⟨1, x.a, (rkV x e).n, 0⟩] else if x.op = 15 ∧ (nth e x.a.toNat).s = 1 then (if (nth e x.a.toNat).n ≠ 0 then [] else [⟨14, x.b, 0, 0⟩]) else [x]
theorem bcC_len (A : AF) (i : Nat) (x : Ins) : (bcC A i x).length ≤ 1 := by
  unfold bcC
  (repeat' split) <;> simp
instance : Nonempty AF := ⟨fun _ => none⟩
/-- The least of what can be ahead. -/
noncomputable def leastA (code : List Ins) (R : Nat) : AF := Classical.epsilon fun A => Least code R A
theorem leastA_eq {code : List Ins} {R : Nat} {A : AF} (h : Least code R A) : A = leastA code R := h.uniq (Classical.epsilon_spec (p := fun A => Least code R A) ⟨A, h⟩)
/-- A thread's orders, numbers put where they always are. -/
noncomputable def constL (R : Nat) (code : List Ins) : List Ins := movedL (bcC (leastA code R)) code
theorem bcC_ok {A : AF} {code : List Ins} (hj : JumpsOK code) : BecB (bcC A) code := by
  intro i hi k hk
  have h1 := hj i hi
  have hl := bcC_len A i (nth code i)
  obtain rfl : k = 0 := by omega
  revert hk
  unfold bcC
  split
  · exact fun hk => absurd hk (by simp)
  · split
    · exact fun _ => ⟨.inl (by show (1 : Int) ≠ 14; decide), .inl (by show (1 : Int) ≠ 15; decide)⟩
    · split
      · rename_i h15
        split
        · exact fun hk => absurd hk (by simp)
        · exact fun _ => ⟨.inr (.inr (h1.2 h15.1)), .inl (by show (14 : Int) ≠ 15; decide)⟩
      · intro _
        show ((nth code i).op ≠ 14 ∨ _ ∨ _) ∧ ((nth code i).op ≠ 15 ∨ _ ∨ _)
        refine ⟨?_, ?_⟩
        · by_cases h14 : (nth code i).op = 14
          · exact .inr (.inr (h1.1 h14))
          · exact .inl h14
        · by_cases h15 : (nth code i).op = 15
          · exact .inr (.inr (h1.2 h15))
          · exact .inl h15
section
variable {R i : Nat} {C : List (KA MA)} {x : Ins} {A : AF}
theorem bc_none (h : (getK ((i : Nat) : Int) C).isSome = false) : bcC (absA R C) i x = [] := by
  unfold bcC absA
  cases hk : getK ((i : Nat) : Int) C with
  | none => rfl
  | some m => rw [hk] at h; cases h
theorem was_env (hC : WfC R C) (h : (getK ((i : Nat) : Int) C).isSome = true) : EnvC R (wasC (getK ((i : Nat) : Int) C)) := by
  cases hk : getK ((i : Nat) : Int) C with
  | none => rw [hk] at h; cases h
  | some m => exact hC _ _ hk
theorem abs_some (h : (getK ((i : Nat) : Int) C).isSome = true) : absA R C i = some (envL R (wasC (getK ((i : Nat) : Int) C))) := by
  unfold absA
  cases hk : getK ((i : Nat) : Int) C with
  | none => rw [hk] at h; cases h
  | some m => rfl
theorem rkD_eq {c : List (KA VV)} (h : 1 ≤ x.op ∧ x.op ≤ 7) : rkD x R c = rkV x (envL R c) := by unfold rkD; rw [if_pos h]
theorem bc_const {c : List (KA VV)} (hA : A i = some (envL R c)) (h : 2 ≤ x.op ∧ x.op ≤ 7) (hv : (rkD x R c).s = 1) : bcC A i x = [⟨1, x.a, (rkD x R c).n, 0⟩] := by
  have e := rkD_eq (x := x) (R := R) (c := c) (by omega)
  rw [e] at hv ⊢
  unfold bcC
  rw [hA]
  exact if_pos ⟨h.1, h.2, hv⟩
theorem bc_no {c : List (KA VV)} (hA : A i = some (envL R c)) (h : 2 ≤ x.op ∧ x.op ≤ 7 → (rkD x R c).s ≠ 1) : bcC A i x = if x.op = 15 ∧ (nth (envL R c) x.a.toNat).s = 1 then (if (nth (envL R c) x.a.toNat).n ≠ 0 then [] else [⟨14, x.b, 0, 0⟩]) else [x] := by
  unfold bcC
  rw [hA]
  refine if_neg fun h2 => h ⟨h2.1, h2.2.1⟩ ?_
  rw [rkD_eq (by omega)]; exact h2.2.2
theorem bc_z0 {c : List (KA VV)} (hA : A i = some (envL R c)) (h : x.op = 15) (ha : 0 ≤ x.a ∧ x.a < (R : Int)) (h1 : (gvD x.a c).s = 1) (hn : (gvD x.a c).n ≠ 0) : bcC A i x = [] := by
  rw [gv_nth ha] at h1 hn
  rw [bc_no hA (fun h9 => by omega), if_pos ⟨h, h1⟩, if_pos hn]
theorem bc_z1 {c : List (KA VV)} (hA : A i = some (envL R c)) (h : x.op = 15) (ha : 0 ≤ x.a ∧ x.a < (R : Int)) (h1 : (gvD x.a c).s = 1) (hn : ¬ (gvD x.a c).n ≠ 0) : bcC A i x = [⟨14, x.b, 0, 0⟩] := by
  rw [gv_nth ha] at h1 hn
  rw [bc_no hA (fun h9 => by omega), if_pos ⟨h, h1⟩, if_neg hn]
theorem bc_self {c : List (KA VV)} (hA : A i = some (envL R c)) (h : 2 ≤ x.op ∧ x.op ≤ 7 → (rkD x R c).s ≠ 1) (h2 : x.op = 15 → (0 ≤ x.a ∧ x.a < (R : Int)) ∧ (gvD x.a c).s ≠ 1) : bcC A i x = [x] := by
  rw [bc_no hA h, if_neg]
  rintro ⟨h3, h4⟩
  rw [← gv_nth (h2 h3).1] at h4
  exact (h2 h3).2 h4
end
end Go.Proofs.Ytmgikmjmdppfmaa
