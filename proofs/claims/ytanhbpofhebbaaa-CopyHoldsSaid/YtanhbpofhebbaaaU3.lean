/-
  What is the same already, in plain Lean: the orders that read other registers.
-/
import Derived.Test.YtanhbpofhebbaaaU1
import Derived.Test.YtanhbpofhebbaaaX33
import Derived.Test.YtanhbpofhebbaaaX52
section
namespace Go.Proofs.Ytanhbpofhebbaaa
open Go.RowKit
set_option linter.unusedSimpArgs false
set_option linter.unusedVariables false

theorem nth_setB (l : List Bool) (i j : Nat) (b : Bool) (hi : i < l.length) : nth (l.set i b) j = if j = i then b else nth l j := by
  rw [nth_set1]
  by_cases h : j = i
  · rw [if_pos h, if_pos ⟨h.symm, hi⟩]
  · rw [if_neg h, if_neg (fun e => h e.1.symm)]
structure RcB (code : List Ins) (out : List Bool) : Prop where
  len : out.length = code.length + 1
  zero : nth out 0 = true
  sound : ∀ i, i ≤ code.length → nth out i = true → RchC code i
section
variable {code : List Ins} {out out2 : List Bool} {a k n : Nat} {ag : Bool}
theorem RcB.start (code : List Ins) : RcB code ((List.replicate (code.length + 1) false).set 0 true) := by
  have hn : ∀ i, nth ((List.replicate (code.length + 1) false).set 0 true) i = if i = 0 then true else nth (List.replicate (code.length + 1) false) i := fun i => nth_setB _ 0 i true (by simp)
  refine ⟨by simp, by rw [hn, if_pos rfl], fun i hi h => ?_⟩
  rw [hn] at h
  by_cases e : i = 0
  · subst e; exact .zero
  · rw [if_neg e] at h
    have : nth (List.replicate (code.length + 1) false) i = false := by simp [nth, List.getD, List.getElem?_replicate, show i < code.length + 1 by omega]
    rw [this] at h; cases h
theorem RcB.put (hc : CodeC code) (h : RcB code out) (ha : a < code.length) (hk : k < (nextsL code a).length) (h1 : nth out a = true) : RcB code (out.set (nth (nextsL code a) k).toNat true) := by
  have hx := hc.nx a ha _ (nth_mem _ _ hk)
  have hl := h.len
  have hn := fun j => nth_setB out (nth (nextsL code a) k).toNat j true (by omega)
  refine ⟨by rw [List.length_set]; exact hl, ?_, fun i hi hs => ?_⟩
  · rw [hn]; split; rfl; exact h.zero
  · rw [hn] at hs
    split at hs
    · rename_i e; rw [e]; exact .step a _ (h.sound a (by omega) h1) ha (nth_mem _ _ hk)
    · exact h.sound i hi hs
end
-- ---------------------------------------------------------------- where the one is the other
structure IsB (code : List Ins) (a b : Int) (out : List Bool) : Prop where
  len : out.length = code.length + 1
  zero : nth out 0 = false
  rch : ∀ i, i ≤ code.length → nth out i = true → RchC code i
  sup : ∀ i, i ≤ code.length → SameI code a b i → nth out i = true
section
variable {code : List Ins} {out : List Bool} {a b : Int} {i k n : Nat} {ag : Bool}
theorem IsB.start {goes : List Bool} (hg : ∀ i, i ≤ code.length → (nth goes i = true ↔ RchC code i)) (hl : out.length = code.length + 1) (h0 : nth out 0 = false) (hv : ∀ j, 1 ≤ j → j < code.length + 1 → nth out j = nth goes j) : IsB code a b out := by
  refine ⟨hl, h0, fun i hi h => ?_, fun i hi h => ?_⟩
  · by_cases e : i = 0
    · subst e; exact .zero
    · rw [hv i (by omega) (by omega)] at h; exact (hg i hi).1 h
  · by_cases e : i = 0
    · subst e; exact absurd .zero h.2
    · rw [hv i (by omega) (by omega)]; exact (hg i hi).2 h.1
theorem IsB.put (hc : CodeC code) (h : IsB code a b out) (hi : i < code.length) (hk : k < (nextsL code i).length) (hno : ∀ y ∈ nextsL code i, ¬ SameI code a b y.toNat) : IsB code a b (out.set (nth (nextsL code i) k).toNat false) := by
  have hx := hc.nx i hi _ (nth_mem _ _ hk)
  have hl := h.len
  have hn := fun j => nth_setB out (nth (nextsL code i) k).toNat j false (by omega)
  refine ⟨by rw [List.length_set]; exact hl, ?_, fun j hj hs => ?_, fun j hj hs => ?_⟩
  · rw [hn]; split; rfl; exact h.zero
  · rw [hn] at hs
    split at hs
    · cases hs
    · exact h.rch j hj hs
  · rw [hn]
    split
    · rename_i e
      rw [e] at hs
      exact absurd hs (hno _ (nth_mem _ _ hk))
    · exact h.sup j hj hs
end
end Go.Proofs.Ytanhbpofhebbaaa
end
section
namespace Go.Proofs.Ytanhbpofhebbaaa
open Go.RowKit
set_option linter.unusedSimpArgs false
set_option linter.unusedVariables false


theorem fit114 {p : Pg} {size : Int} {x : Ins} {k : Nat} (h : okNumG p size x k = true) (hk : kAt (kindsB x.op) k = 114) : 0 ≤ x.num k ∧ x.num k < p.regs := by
  unfold okNumG at h
  unfold kAt at hk
  split at h
  · rename_i hlt
    rw [dif_pos hlt] at hk
    rw [hk] at h
    unfold fitsG at h
    simp only [Int.reduceEq, if_false, if_true, Bool.and_eq_true, decide_eq_true_eq] at h
    exact h
  · rename_i hlt
    rw [dif_neg hlt] at hk
    cases hk
end Go.Proofs.Ytanhbpofhebbaaa
end
namespace Go.Proofs.Ytanhbpofhebbaaa
open Go.RowKit
set_option linter.unusedSimpArgs false
set_option linter.unusedVariables false

/-- A thread's orders, registers put in the place of those that are the same already. -/
noncomputable def copyL (code : List Ins) : List Ins := (List.range code.length).map fun i => copyIns (sameF code i) (nth code i)
theorem cpTo_congr {f g : Int → Option Int} {x : Ins} : ∀ {n : Nat}, (∀ k, k < n → cpK x k = true → f (nth [x.a, x.b, x.c] k) = g (nth [x.a, x.b, x.c] k)) → cpTo f x n = cpTo g x n
  | 0, _ => rfl
  | n + 1, h => by
    have ih := cpTo_congr (n := n) fun k hk => h k (by omega)
    rw [cpTo, cpTo, ih]
    unfold cpStep
    by_cases hk : cpK x n = true
    · rw [if_pos hk, if_pos hk, cpTo_at, h n (by omega) hk]
    · rw [if_neg hk, if_neg hk]
theorem copyIns_congr {f g : Int → Option Int} {x : Ins} (h : ∀ k, k < (kindsB x.op).size → cpK x k = true → f (nth [x.a, x.b, x.c] k) = g (nth [x.a, x.b, x.c] k)) : copyIns f x = copyIns g x := cpTo_congr h
/-- Rows of so many, known by place. -/
def RowsP (M : List (Ls Int)) (n R : Nat) (f : Nat → Nat → Int) : Prop := ∀ a, a < n → (nth M a).l.length = R ∧ ∀ b, b < R → nth (nth M a).l b = f a b
section
variable {M : List (Ls Int)} {n R i r : Nat} {f g : Nat → Nat → Int} {v : Value} {x : Int}
theorem RowsP.congr (h : RowsP M n R f) (hfg : ∀ a, a < n → ∀ b, b < R → f a b = g a b) : RowsP M n R g := fun a ha => ⟨(h a ha).1, fun b hb => by rw [← hfg a ha b hb]; exact (h a ha).2 b hb⟩
theorem nth_setR (M : List (Ls Int)) (i j : Nat) (s : Ls Int) (hi : i < M.length) : nth (M.set i s) j = if j = i then s else nth M j := by
  rw [nth_set1]
  by_cases h : j = i
  · rw [if_pos h, if_pos ⟨h.symm, hi⟩]
  · rw [if_neg h, if_neg (fun e => h e.1.symm)]
theorem nth_setI (l : List Int) (i j : Nat) (s : Int) (hi : i < l.length) : nth (l.set i s) j = if j = i then s else nth l j := by
  rw [nth_set1]
  by_cases h : j = i
  · rw [if_pos h, if_pos ⟨h.symm, hi⟩]
  · rw [if_neg h, if_neg (fun e => h e.1.symm)]
/-- A row behind those that are known is put anew. -/
theorem RowsP.other (h : RowsP M n R f) (hi : n ≤ i) (hM : i < M.length) (s : Ls Int) : RowsP (M.set i s) n R f := fun a ha => by
  rw [nth_setR _ _ _ _ hM, if_neg (by omega)]; exact h a ha
theorem RowsP.more (h : RowsP M n R f) (h1 : (nth M n).l.length = R) (h2 : ∀ b, b < R → nth (nth M n).l b = f n b) : RowsP M (n + 1) R f := fun a ha => by
  by_cases e : a = n
  · subst e; exact ⟨h1, h2⟩
  · exact h a (by omega)
/-- One number of a row that is known. -/
theorem RowsP.put (h : RowsP M n R f) (hi : i < n) (hM : i < M.length) (hr : r < R) : RowsP (M.set i ⟨v, (nth M i).l.set r x⟩) n R (fun a b => if a = i ∧ b = r then x else f a b) := fun a ha => by
  obtain ⟨h1, h2⟩ := h a ha
  rw [nth_setR _ _ _ _ hM]
  by_cases e : a = i
  · subst e
    rw [if_pos rfl]
    refine ⟨by rw [List.length_set]; exact h1, fun b hb => ?_⟩
    rw [nth_setI _ _ _ _ (by omega)]
    show _ = if a = a ∧ b = r then x else f a b
    by_cases e2 : b = r
    · rw [if_pos e2, if_pos ⟨rfl, e2⟩]
    · rw [if_neg e2, if_neg (fun e => e2 e.2)]; exact h2 b hb
  · rw [if_neg e]
    refine ⟨h1, fun b hb => ?_⟩
    show _ = if a = i ∧ b = r then x else f a b
    rw [if_neg (fun e2 => e e2.1)]
    exact h2 b hb
end
section
variable {code : List Ins} {M : List (Ls Int)} {n R i j : Nat} {v : Value}
end
-- ---------------------------------------------------------------- programs that may be
section
variable {code : Ls (Ls Ins)} {words : Ls Int} {locks regs : Int} {t i : Nat}
theorem ins_of (h : OkPg (pgOf code words locks regs)) (ht : t < code.l.length) (hi : i < (nth code.l t).l.length) : OkIns (pgOf code words locks regs) (nth code.l t).l.length (nth (nth code.l t).l i) := by
  have ht2 : t < (pgOf code words locks regs).code.length := by show t < (code.l.map (·.l)).length; simpa using ht
  have e : nth (pgOf code words locks regs).code t = (nth code.l t).l := nth_map' _ _ _ ht
  have := h.ins t i ht2 (by rw [e]; exact hi)
  rw [e] at this
  exact this
theorem num_in {p : Pg} {size : Int} {x : Ins} (h : OkIns p size x) {k : Nat} (hk : k < 3) (hd : kAt (kindsB x.op) k = 114) : 0 ≤ nth [x.a, x.b, x.c] k ∧ nth [x.a, x.b, x.c] k < p.regs := by
  rcases (by omega : k = 0 ∨ k = 1 ∨ k = 2) with rfl | rfl | rfl
  · exact fit114 (k := 0) h.n0 hd
  · exact fit114 (k := 1) h.n1 hd
  · exact fit114 (k := 2) h.n2 hd
theorem cpK_114 {x : Ins} {k : Nat} (h : cpK x k = true) : kAt (kindsB x.op) k = 114 := by
  unfold cpK at h
  exact of_decide_eq_true ((Bool.and_eq_true _ _).mp ((Bool.and_eq_true _ _).mp h).1).1
theorem mv_in (h : OkPg (pgOf code words locks regs)) (ht : t < code.l.length) (hi : i < (nth code.l t).l.length) (h2 : (nth (nth code.l t).l i).op = 2) : (0 ≤ (nth (nth code.l t).l i).a ∧ (nth (nth code.l t).l i).a < regs) ∧ 0 ≤ (nth (nth code.l t).l i).b ∧ (nth (nth code.l t).l i).b < regs := by
  have e : kindsB (nth (nth code.l t).l i).op = ⟨[114, 114].toArray⟩ := by rw [h2]; unfold kindsB; simp
  have k0 : kAt (kindsB (nth (nth code.l t).l i).op) 0 = 114 := by rw [e]; rfl
  have k1 : kAt (kindsB (nth (nth code.l t).l i).op) 1 = 114 := by rw [e]; rfl
  exact ⟨num_in (ins_of h ht hi) (by omega) k0, num_in (ins_of h ht hi) (by omega) k1⟩
theorem codeC_of (h : OkPg (pgOf code words locks regs)) (ht : t < code.l.length) : CodeC (nth code.l t).l := by
  obtain ⟨_, hj⟩ := ok_thread h t ht
  refine ⟨fun i hi => (ins_of h ht hi).op.1, fun i hi h2 => ?_, fun i hi y hy => nextsV_ok hj hi hy⟩
  have := mv_in h ht hi h2
  exact ⟨this.1.1, this.2.1⟩
end
end Go.Proofs.Ytanhbpofhebbaaa
