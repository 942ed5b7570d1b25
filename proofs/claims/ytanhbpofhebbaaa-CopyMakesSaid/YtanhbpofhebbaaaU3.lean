/-
  What is the same already, in plain Lean: the orders that read other registers.
-/
import Derived.Test.YtanhbpofhebbaaaX53
import Derived.Test.YtanhbpofhebbaaaX35
namespace Go.Proofs.Ytanhbpofhebbaaa
open Go.RowKit
set_option linter.unusedSimpArgs false
set_option linter.unusedVariables false

/-- A thread's orders, registers put in the place of those that are the same already. -/
noncomputable def copyL (code : List Ins) : List Ins := (List.range code.length).map fun i => copyIns (sameF code i) (nth code i)
theorem cpTo_congr {f g : Int → Option Int} {x : Ins} : ∀ {n : Nat}, (∀ k, k < n → cpK x k = true → f (nth [x.a, x.b, x.c] k) = g (nth [x.a, x.b, x.c] k)) → cpTo f x n = cpTo g x n
  | 0, _ => rfl
  | n + 1, h => by
    have ih := cpTo_congr (n := n) fun k hk => h k (by omega)
    rw [cpTo, cpTo, ih]
    unfold cpStep
    by_cases hk : cpK x n = true
    · rw [if_pos hk, if_pos hk, cpTo_at, h n (by omega) hk]
    · rw [if_neg hk, if_neg hk]
theorem copyIns_congr {f g : Int → Option Int} {x : Ins} (h : ∀ k, k < (kindsB x.op).size → cpK x k = true → f (nth [x.a, x.b, x.c] k) = g (nth [x.a, x.b, x.c] k)) : copyIns f x = copyIns g x := cpTo_congr h
def MatchC (code : List Ins) (i j : Nat) (r : Int) : Prop := (nth code j).op = 2 ∧ (nth code j).a ≠ (nth code j).b ∧ (nth code j).a = r ∧ SameI code (nth code j).a (nth code j).b i
/-- Which one a register is, by the moves so far; -1: itself. -/
noncomputable def othF (code : List Ins) (i : Nat) : Nat → Int → Int
  | 0, _ => -1
  | j + 1, r => open Classical in if MatchC code i j r then (nth code j).b else othF code i j r
theorem othF_yes {code : List Ins} {i j : Nat} {r : Int} (h : MatchC code i j r) : othF code i (j + 1) r = (nth code j).b := if_pos h
theorem othF_no {code : List Ins} {i j : Nat} {r : Int} (h : ¬ MatchC code i j r) : othF code i (j + 1) r = othF code i j r := if_neg h
theorem othF_spec (code : List Ins) (i : Nat) (r : Int) : ∀ n, (othF code i n r = -1 ∧ ∀ j, j < n → ¬ MatchC code i j r) ∨ ∃ j, j < n ∧ MatchC code i j r ∧ othF code i n r = (nth code j).b
  | 0 => .inl ⟨rfl, fun j hj => absurd hj (by omega)⟩
  | n + 1 => by
    by_cases h : MatchC code i n r
    · exact .inr ⟨n, by omega, h, othF_yes h⟩
    · rw [othF_no h]
      rcases othF_spec code i r n with ⟨h1, h2⟩ | ⟨j, h1, h2, h3⟩
      · refine .inl ⟨h1, fun j hj => ?_⟩
        by_cases e : j = n
        · rw [e]; exact h
        · exact h2 j (by omega)
      · exact .inr ⟨j, by omega, h2, h3⟩
theorem othF_same {code : List Ins} (hc : CodeC code) (i : Nat) (r : Int) : (if 0 ≤ othF code i code.length r then some (othF code i code.length r) else none) = sameF code i r := by
  rcases othF_spec code i r code.length with ⟨h1, h2⟩ | ⟨j, h1, h2, h3⟩
  · rw [h1, if_neg (by omega)]
    cases hs : sameF code i r with
    | none => rfl
    | some b =>
      obtain ⟨⟨hz, j, hj, hm1, hm2, hm3⟩, hs2⟩ := sameF_some.1 hs
      refine absurd ⟨hm1, ?_, hm2, ?_⟩ (h2 j hj)
      · rw [hm2, hm3]; exact hz
      · rw [hm2, hm3]; exact hs2
  · obtain ⟨m1, m2, m3, m4⟩ := h2
    have hp := (hc.mv j h1 m1).2
    rw [h3, if_pos hp]
    refine (sameF_some.2 ⟨⟨?_, j, h1, m1, m3, rfl⟩, ?_⟩).symm
    · show r ≠ _
      rw [← m3]; exact m2
    · rw [m3] at m4; exact m4
/-- Rows of so many, known by place. -/
def RowsP (M : List (Ls Int)) (n R : Nat) (f : Nat → Nat → Int) : Prop := ∀ a, a < n → (nth M a).l.length = R ∧ ∀ b, b < R → nth (nth M a).l b = f a b
section
variable {M : List (Ls Int)} {n R i r : Nat} {f g : Nat → Nat → Int} {v : Value} {x : Int}
theorem RowsP.congr (h : RowsP M n R f) (hfg : ∀ a, a < n → ∀ b, b < R → f a b = g a b) : RowsP M n R g := fun a ha => ⟨(h a ha).1, fun b hb => by rw [← hfg a ha b hb]; exact (h a ha).2 b hb⟩
theorem nth_setR (M : List (Ls Int)) (i j : Nat) (s : Ls Int) (hi : i < M.length) : nth (M.set i s) j = if j = i then s else nth M j := by
  rw [nth_set1]
  by_cases h : j = i
  · rw [if_pos h, if_pos ⟨h.symm, hi⟩]
  · rw [if_neg h, if_neg (fun e => h e.1.symm)]
theorem nth_setI (l : List Int) (i j : Nat) (s : Int) (hi : i < l.length) : nth (l.set i s) j = if j = i then s else nth l j := by
  rw [nth_set1]
  by_cases h : j = i
  · rw [if_pos h, if_pos ⟨h.symm, hi⟩]
  · rw [if_neg h, if_neg (fun e => h e.1.symm)]
/-- A row behind those that are known is put anew. -/
theorem RowsP.other (h : RowsP M n R f) (hi : n ≤ i) (hM : i < M.length) (s : Ls Int) : RowsP (M.set i s) n R f := fun a ha => by
  rw [nth_setR _ _ _ _ hM, if_neg (by omega)]; exact h a ha
theorem RowsP.more (h : RowsP M n R f) (h1 : (nth M n).l.length = R) (h2 : ∀ b, b < R → nth (nth M n).l b = f n b) : RowsP M (n + 1) R f := fun a ha => by
  by_cases e : a = n
  · subst e; exact ⟨h1, h2⟩
  · exact h a (by omega)
/-- One number of a row that is known. -/
theorem RowsP.put (h : RowsP M n R f) (hi : i < n) (hM : i < M.length) (hr : r < R) : RowsP (M.set i ⟨v, (nth M i).l.set r x⟩) n R (fun a b => if a = i ∧ b = r then x else f a b) := fun a ha => by
  obtain ⟨h1, h2⟩ := h a ha
  rw [nth_setR _ _ _ _ hM]
  by_cases e : a = i
  · subst e
    rw [if_pos rfl]
    refine ⟨by rw [List.length_set]; exact h1, fun b hb => ?_⟩
    rw [nth_setI _ _ _ _ (by omega)]
    show _ = if a = a ∧ b = r then x else f a b
    by_cases e2 : b = r
    · rw [if_pos e2, if_pos ⟨rfl, e2⟩]
    · rw [if_neg e2, if_neg (fun e => e2 e.2)]; exact h2 b hb
  · rw [if_neg e]
    refine ⟨h1, fun b hb => ?_⟩
    show _ = if a = i ∧ b = r then x else f a b
    rw [if_neg (fun e2 => e e2.1)]
    exact h2 b hb
end
/-- What stands in the rows while the moves are gone through: up to row i by one move more. -/
noncomputable def othM (code : List Ins) (j i a : Nat) (b : Nat) : Int := if a < i then othF code a (j + 1) b else othF code a j b
section
variable {code : List Ins} {M : List (Ls Int)} {n R i j : Nat} {v : Value}
theorem oth_start (h : RowsP M n R (fun a b => othF code a j b)) : RowsP M n R (othM code j 0) := h.congr fun a ha b hb => by unfold othM; rw [if_neg (by omega)]
theorem oth_end2 (h : RowsP M n R (othM code j n)) : RowsP M n R (fun a b => othF code a (j + 1) b) := fun a ha => by
  obtain ⟨h1, h2⟩ := h a (by omega)
  refine ⟨h1, fun b hb => ?_⟩
  rw [h2 b hb]; unfold othM; rw [if_pos ha]
theorem oth_skip (h : RowsP M n R (fun a b => othF code a j b)) (hm : (nth code j).op ≠ 2 ∨ (nth code j).a = (nth code j).b) : RowsP M n R (fun a b => othF code a (j + 1) b) :=
  h.congr fun a ha b hb => (othF_no fun hm2 => by rcases hm with e | e; exact e hm2.1; exact hm2.2.1 e).symm
theorem oth_off (h : RowsP M n R (othM code j i)) (hs : ¬ SameI code (nth code j).a (nth code j).b i) : RowsP M n R (othM code j (i + 1)) :=
  h.congr fun a ha b hb => by
    unfold othM
    by_cases e : a < i
    · rw [if_pos e, if_pos (by omega)]
    · rw [if_neg e]
      by_cases e2 : a = i
      · subst e2
        rw [if_pos (by omega), othF_no fun hm => hs hm.2.2.2]
      · rw [if_neg (by omega)]
theorem oth_on (hc : CodeC code) (hj : j < code.length) (h : RowsP M n R (othM code j i)) (hi : i < n) (hM : i < M.length) (h2 : (nth code j).op = 2) (hne : (nth code j).a ≠ (nth code j).b) (hs : SameI code (nth code j).a (nth code j).b i) (hr : (nth code j).a.toNat < R) :
    RowsP (M.set i ⟨v, (nth M i).l.set (nth code j).a.toNat (nth code j).b⟩) n R (othM code j (i + 1)) := by
  have hp := (hc.mv j hj h2).1
  refine (h.put (v := v) (x := (nth code j).b) hi hM hr).congr fun a ha b hb => ?_
  unfold othM
  by_cases e : a = i
  · subst e
    by_cases e2 : b = (nth code j).a.toNat
    · rw [if_pos ⟨rfl, e2⟩, if_pos (by omega), othF_yes ⟨h2, hne, by omega, hs⟩]
    · rw [if_neg (fun e => e2 e.2), if_neg (by omega), if_pos (by omega), othF_no fun hm => e2 (by have := hm.2.2.1; omega)]
  · rw [if_neg (fun e2 => e e2.1)]
    by_cases e3 : a < i
    · rw [if_pos e3, if_pos (by omega)]
    · rw [if_neg e3, if_neg (by omega)]
end
-- ---------------------------------------------------------------- programs that may be
section
variable {code : Ls (Ls Ins)} {words : Ls Int} {locks regs : Int} {t i : Nat}
theorem ins_of (h : OkPg (pgOf code words locks regs)) (ht : t < code.l.length) (hi : i < (nth code.l t).l.length) : OkIns (pgOf code words locks regs) (nth code.l t).l.length (nth (nth code.l t).l i) := by
  have ht2 : t < (pgOf code words locks regs).code.length := by show t < (code.l.map (·.l)).length; simpa using ht
  have e : nth (pgOf code words locks regs).code t = (nth code.l t).l := nth_map' _ _ _ ht
  have := h.ins t i ht2 (by rw [e]; exact hi)
  rw [e] at this
  exact this
theorem num_in {p : Pg} {size : Int} {x : Ins} (h : OkIns p size x) {k : Nat} (hk : k < 3) (hd : kAt (kindsB x.op) k = 114) : 0 ≤ nth [x.a, x.b, x.c] k ∧ nth [x.a, x.b, x.c] k < p.regs := by
  rcases (by omega : k = 0 ∨ k = 1 ∨ k = 2) with rfl | rfl | rfl
  · exact fit114 (k := 0) h.n0 hd
  · exact fit114 (k := 1) h.n1 hd
  · exact fit114 (k := 2) h.n2 hd
theorem cpK_114 {x : Ins} {k : Nat} (h : cpK x k = true) : kAt (kindsB x.op) k = 114 := by
  unfold cpK at h
  exact of_decide_eq_true ((Bool.and_eq_true _ _).mp ((Bool.and_eq_true _ _).mp h).1).1
theorem cp_in (h : OkPg (pgOf code words locks regs)) (ht : t < code.l.length) (hi : i < (nth code.l t).l.length) {k : Nat} (hk : k < (kindsB (nth (nth code.l t).l i).op).size) (hc : cpK (nth (nth code.l t).l i) k = true) :
    0 ≤ nth [(nth (nth code.l t).l i).a, (nth (nth code.l t).l i).b, (nth (nth code.l t).l i).c] k ∧ nth [(nth (nth code.l t).l i).a, (nth (nth code.l t).l i).b, (nth (nth code.l t).l i).c] k < regs :=
  num_in (ins_of h ht hi) (by have := (kinds_small (nth (nth code.l t).l i).op).1; omega) (cpK_114 hc)
theorem cp_inR (h : OkPg (pgOf code words locks regs)) (ht : t < code.l.length) (hi : i < (nth code.l t).l.length) {o : List Int} (ho : o.length = regs.toNat) (k : Nat) (hk : k < (kindsB (nth (nth code.l t).l i).op).size) (hc : cpK (nth (nth code.l t).l i) k = true) :
    0 ≤ nth [(nth (nth code.l t).l i).a, (nth (nth code.l t).l i).b, (nth (nth code.l t).l i).c] k ∧ nth [(nth (nth code.l t).l i).a, (nth (nth code.l t).l i).b, (nth (nth code.l t).l i).c] k < o.length := by
  have := cp_in h ht hi hk hc
  omega
theorem mv_in (h : OkPg (pgOf code words locks regs)) (ht : t < code.l.length) (hi : i < (nth code.l t).l.length) (h2 : (nth (nth code.l t).l i).op = 2) : (0 ≤ (nth (nth code.l t).l i).a ∧ (nth (nth code.l t).l i).a < regs) ∧ 0 ≤ (nth (nth code.l t).l i).b ∧ (nth (nth code.l t).l i).b < regs := by
  have e : kindsB (nth (nth code.l t).l i).op = ⟨[114, 114].toArray⟩ := by rw [h2]; unfold kindsB; simp
  have k0 : kAt (kindsB (nth (nth code.l t).l i).op) 0 = 114 := by rw [e]; rfl
  have k1 : kAt (kindsB (nth (nth code.l t).l i).op) 1 = 114 := by rw [e]; rfl
  exact ⟨num_in (ins_of h ht hi) (by omega) k0, num_in (ins_of h ht hi) (by omega) k1⟩
theorem codeC_of (h : OkPg (pgOf code words locks regs)) (ht : t < code.l.length) : CodeC (nth code.l t).l := by
  obtain ⟨_, hj⟩ := ok_thread h t ht
  refine ⟨fun i hi => (ins_of h ht hi).op.1, fun i hi h2 => ?_, fun i hi y hy => nextsV_ok hj hi hy⟩
  have := mv_in h ht hi h2
  exact ⟨this.1.1, this.2.1⟩
theorem copy_row {M : List (Ls Int)} (h : OkPg (pgOf code words locks regs)) (ht : t < code.l.length) (hi : i < (nth code.l t).l.length) (hR : RowsP M (nth code.l t).l.length regs.toNat (fun a b => othF (nth code.l t).l a (nth code.l t).l.length b)) :
    copyIns (rowF (nth M i).l) (nth (nth code.l t).l i) = copyIns (sameF (nth code.l t).l i) (nth (nth code.l t).l i) := by
  refine copyIns_congr fun k hk hc => ?_
  have hin := cp_in h ht hi hk hc
  generalize nth [(nth (nth code.l t).l i).a, (nth (nth code.l t).l i).b, (nth (nth code.l t).l i).c] k = r at hin ⊢
  have h2 : nth (nth M i).l r.toNat = othF (nth code.l t).l i (nth code.l t).l.length ((r.toNat : Nat) : Int) := (hR i hi).2 r.toNat (by omega)
  rw [show ((r.toNat : Nat) : Int) = r by omega] at h2
  unfold rowF
  rw [h2, ← othF_same (codeC_of h ht)]
end
end Go.Proofs.Ytanhbpofhebbaaa
