/-
  What is the same already, in plain Lean: the orders that read other registers.
-/
import Derived.Test.YtfpaahkleienoaaU2
import Derived.Test.YtfpaahkleienoaaX52
import Derived.Test.YtfpaahkleienoaaX35
namespace Go.Proofs.Ytfpaahkleienoaa
open Go.RowKit
set_option linter.unusedSimpArgs false
set_option linter.unusedVariables false

/-- A thread's orders, registers put in the place of those that are the same already. -/
noncomputable def copyL (code : List Ins) : List Ins := (List.range code.length).map fun i => copyIns (sameF code i) (nth code i)
theorem cpTo_congr {f g : Int → Option Int} {x : Ins} : ∀ {n : Nat}, (∀ k, k < n → cpK x k = true → f (nth [x.a, x.b, x.c] k) = g (nth [x.a, x.b, x.c] k)) → cpTo f x n = cpTo g x n
  | 0, _ => rfl
  | n + 1, h => by
    have ih := cpTo_congr (n := n) fun k hk => h k (by omega)
    rw [cpTo, cpTo, ih]
    unfold cpStep
    by_cases hk : cpK x n = true
    · rw [if_pos hk, if_pos hk, cpTo_at, h n (by omega) hk]
    · rw [if_neg hk, if_neg hk]
theorem copyIns_congr {f g : Int → Option Int} {x : Ins} (h : ∀ k, k < (kindsB x.op).size → cpK x k = true → f (nth [x.a, x.b, x.c] k) = g (nth [x.a, x.b, x.c] k)) : copyIns f x = copyIns g x := cpTo_congr h
/-- Rows of so many, known by place. -/
def RowsP (M : List (Ls Int)) (n R : Nat) (f : Nat → Nat → Int) : Prop := ∀ a, a < n → (nth M a).l.length = R ∧ ∀ b, b < R → nth (nth M a).l b = f a b
section
variable {M : List (Ls Int)} {n R i r : Nat} {f g : Nat → Nat → Int} {v : Value} {x : Int}
theorem RowsP.congr (h : RowsP M n R f) (hfg : ∀ a, a < n → ∀ b, b < R → f a b = g a b) : RowsP M n R g := fun a ha => ⟨(h a ha).1, fun b hb => by rw [← hfg a ha b hb]; exact (h a ha).2 b hb⟩
theorem nth_setR (M : List (Ls Int)) (i j : Nat) (s : Ls Int) (hi : i < M.length) : nth (M.set i s) j = if j = i then s else nth M j := by
  rw [nth_set1]
  by_cases h : j = i
  · rw [if_pos h, if_pos ⟨h.symm, hi⟩]
  · rw [if_neg h, if_neg (fun e => h e.1.symm)]
theorem nth_setI (l : List Int) (i j : Nat) (s : Int) (hi : i < l.length) : nth (l.set i s) j = if j = i then s else nth l j := by
  rw [nth_set1]
  by_cases h : j = i
  · rw [if_pos h, if_pos ⟨h.symm, hi⟩]
  · rw [if_neg h, if_neg (fun e => h e.1.symm)]
/-- A row behind those that are known is put anew. -/
theorem RowsP.other (h : RowsP M n R f) (hi : n ≤ i) (hM : i < M.length) (s : Ls Int) : RowsP (M.set i s) n R f := fun a ha => by
  rw [nth_setR _ _ _ _ hM, if_neg (by omega)]; exact h a ha
theorem RowsP.more (h : RowsP M n R f) (h1 : (nth M n).l.length = R) (h2 : ∀ b, b < R → nth (nth M n).l b = f n b) : RowsP M (n + 1) R f := fun a ha => by
  by_cases e : a = n
  · subst e; exact ⟨h1, h2⟩
  · exact h a (by omega)
/-- One number of a row that is known. -/
theorem RowsP.put (h : RowsP M n R f) (hi : i < n) (hM : i < M.length) (hr : r < R) : RowsP (M.set i ⟨v, (nth M i).l.set r x⟩) n R (fun a b => if a = i ∧ b = r then x else f a b) := fun a ha => by
  obtain ⟨h1, h2⟩ := h a ha
  rw [nth_setR _ _ _ _ hM]
  by_cases e : a = i
  · subst e
    rw [if_pos rfl]
    refine ⟨by rw [List.length_set]; exact h1, fun b hb => ?_⟩
    rw [nth_setI _ _ _ _ (by omega)]
    show _ = if a = a ∧ b = r then x else f a b
    by_cases e2 : b = r
    · rw [if_pos e2, if_pos ⟨rfl, e2⟩]
    · rw [if_neg e2, if_neg (fun e => e2 e.2)]; exact h2 b hb
  · rw [if_neg e]
    refine ⟨h1, fun b hb => ?_⟩
    show _ = if a = i ∧ b = r then x else f a b
    rw [if_neg (fun e2 => e e2.1)]
    exact h2 b hb
end
section
variable {code : List Ins} {M : List (Ls Int)} {n R i j : Nat} {v : Value}
end
-- ---------------------------------------------------------------- programs that may be
section
variable {code : Ls (Ls Ins)} {words : Ls Int} {locks regs : Int} {t i : Nat}
theorem ins_of (h : OkPg (pgOf code words locks regs)) (ht : t < code.l.length) (hi : i < (nth code.l t).l.length) : OkIns (pgOf code words locks regs) (nth code.l t).l.length (nth (nth code.l t).l i) := by
  have ht2 : t < (pgOf code words locks regs).code.length := by show t < (code.l.map (·.l)).length; simpa using ht
  have e : nth (pgOf code words locks regs).code t = (nth code.l t).l := nth_map' _ _ _ ht
  have := h.ins t i ht2 (by rw [e]; exact hi)
  rw [e] at this
  exact this
theorem num_in {p : Pg} {size : Int} {x : Ins} (h : OkIns p size x) {k : Nat} (hk : k < 3) (hd : kAt (kindsB x.op) k = 114) : 0 ≤ nth [x.a, x.b, x.c] k ∧ nth [x.a, x.b, x.c] k < p.regs := by
  rcases (by omega : k = 0 ∨ k = 1 ∨ k = 2) with rfl | rfl | rfl
  · exact fit114 (k := 0) h.n0 hd
  · exact fit114 (k := 1) h.n1 hd
  · exact fit114 (k := 2) h.n2 hd
theorem mv_in (h : OkPg (pgOf code words locks regs)) (ht : t < code.l.length) (hi : i < (nth code.l t).l.length) (h2 : (nth (nth code.l t).l i).op = 2) : (0 ≤ (nth (nth code.l t).l i).a ∧ (nth (nth code.l t).l i).a < regs) ∧ 0 ≤ (nth (nth code.l t).l i).b ∧ (nth (nth code.l t).l i).b < regs := by
  have e : kindsB (nth (nth code.l t).l i).op = ⟨[114, 114].toArray⟩ := by rw [h2]; unfold kindsB; simp
  have k0 : kAt (kindsB (nth (nth code.l t).l i).op) 0 = 114 := by rw [e]; rfl
  have k1 : kAt (kindsB (nth (nth code.l t).l i).op) 1 = 114 := by rw [e]; rfl
  exact ⟨num_in (ins_of h ht hi) (by omega) k0, num_in (ins_of h ht hi) (by omega) k1⟩
theorem codeC_of (h : OkPg (pgOf code words locks regs)) (ht : t < code.l.length) : CodeC (nth code.l t).l := by
  obtain ⟨_, hj⟩ := ok_thread h t ht
  refine ⟨fun i hi => (ins_of h ht hi).op.1, fun i hi h2 => ?_, fun i hi y hy => nextsV_ok hj hi hy⟩
  have := mv_in h ht hi h2
  exact ⟨this.1.1, this.2.1⟩
end
end Go.Proofs.Ytfpaahkleienoaa
