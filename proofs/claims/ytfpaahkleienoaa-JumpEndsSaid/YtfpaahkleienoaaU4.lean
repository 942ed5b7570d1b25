/-
  Orders that read other registers, of the same value, do the same: in plain Lean.
-/
import Derived.Test.YtfpaahkleienoaaU3
import Derived.Test.YtfpaahkleienoaaL4
namespace Go.Proofs.Ytfpaahkleienoaa
open Go.RowKit
set_option linter.unusedSimpArgs false
set_option linter.unusedVariables false

section
variable {f : Int → Option Int} {x : Ins}
end
section
variable {m : Int} {n : Nat} {f : Int → Option Int} {i : Ins} {x : TS} {R W L : Nat}
theorem no_op (hop : 1 ≤ i.op ∧ i.op ≤ 18) : i.op = 1 ∨ i.op = 2 ∨ i.op = 3 ∨ i.op = 4 ∨ i.op = 5 ∨ i.op = 6 ∨ i.op = 7 ∨ i.op = 8 ∨ i.op = 9 ∨ i.op = 10 ∨ i.op = 11 ∨ i.op = 12 ∨ i.op = 13 ∨ i.op = 14 ∨ i.op = 15 ∨ i.op = 16 ∨ i.op = 17 ∨ i.op = 18 := by omega
/-- What an order leaves of the registers. -/
theorem execT_regs (hop : 1 ≤ i.op ∧ i.op ≤ 18) : (execT m n i x).regs = x.regs ∧ (i.op = 2 → False) ∨ ∃ v, (execT m n i x).regs = x.regs.set (wrG i).toNat v ∧ (i.op = 2 → v = x.reg i.b) ∧ (i.op = 2 ∨ (i.op ≤ 8 ∨ i.op = 10) ∨ i.op = 13) := by
  have wa : i.op ≤ 8 ∨ i.op = 10 → wrG i = i.a := fun h => by unfold wrG; rw [if_neg (by omega), if_pos h]
  rcases no_op hop with h | h | h | h | h | h | h | h | h | h | h | h | h | h | h | h | h | h
  · exact .inr ⟨_, by rw [execT_1 h, wa (by omega)]; rfl, fun h2 => by omega, by omega⟩
  · exact .inr ⟨_, by rw [execT_2 h, wa (by omega)]; rfl, fun h2 => rfl, by omega⟩
  · exact .inr ⟨_, by rw [execT_3 h, wa (by omega)]; rfl, fun h2 => by omega, by omega⟩
  · exact .inr ⟨_, by rw [execT_4 h, wa (by omega)]; rfl, fun h2 => by omega, by omega⟩
  · exact .inr ⟨_, by rw [execT_5 h, wa (by omega)]; rfl, fun h2 => by omega, by omega⟩
  · exact .inr ⟨_, by rw [execT_6 h, wa (by omega)]; rfl, fun h2 => by omega, by omega⟩
  · exact .inr ⟨_, by rw [execT_7 h, wa (by omega)]; rfl, fun h2 => by omega, by omega⟩
  · exact .inr ⟨_, by rw [execT_8 h, wa (by omega)]; rfl, fun h2 => by omega, by omega⟩
  · exact .inl ⟨by rw [execT_9 h]; unfold TS.store TS.done; split <;> rfl, by omega⟩
  · by_cases hw : 0 ≤ x.reg i.b ∧ x.reg i.b < (x.words.length : Int)
    · exact .inr ⟨_, by rw [execT_10t h hw, wa (by omega)]; rfl, fun h2 => by omega, by omega⟩
    · exact .inl ⟨by rw [execT_10f h hw], by omega⟩
  · by_cases hw : 0 ≤ x.reg i.a ∧ x.reg i.a < (x.words.length : Int)
    · exact .inl ⟨by rw [execT_11t h hw]; unfold TS.store TS.done; split <;> rfl, by omega⟩
    · exact .inl ⟨by rw [execT_11f h hw], by omega⟩
  · exact .inl ⟨by rw [execT_no (by omega)], by omega⟩
  · have wb : wrG i = i.b := by unfold wrG; rw [if_pos h]
    by_cases hw : nth x.words i.a.toNat = x.reg i.b
    · exact .inr ⟨_, by rw [execT_13t h hw, wb], fun h2 => by omega, by omega⟩
    · exact .inr ⟨_, by rw [execT_13f h hw, wb]; rfl, fun h2 => by omega, by omega⟩
  · exact .inl ⟨by rw [execT_14 h], by omega⟩
  · by_cases hw : x.reg i.a = 0
    · exact .inl ⟨by rw [execT_15t h hw], by omega⟩
    · exact .inl ⟨by rw [execT_15f h hw], by omega⟩
  · exact .inl ⟨by rw [execT_16 h], by omega⟩
  · exact .inl ⟨by rw [execT_17 h], by omega⟩
  · refine .inl ⟨?_, by omega⟩
    by_cases hw : nth x.owner i.a.toNat ≠ n
    · rw [execT_18a h hw]
    · by_cases hh : ∃ j, j < x.wait.length ∧ (nth x.wait j).lock = true ∧ (nth x.wait j).wh = i.a
      · obtain ⟨j, hj, h1, h2⟩ := hh
        rw [execT_18b h hw j hj h1 h2]
      · rw [execT_18c h hw (fun q hq hc => hh ⟨q, hq, hc⟩)]; unfold TS.store TS.done; split <;> rfl
end
theorem execT_nx {m : Int} {n : Nat} {c : List Ins} {i : Nat} {x : TS} : (execT m n (nth c i) { x with pc := (i : Int) + 1 }).pc ∈ nextsL c i := by
  unfold nextsL
  by_cases h14 : (nth c i).op = 14
  · rw [if_pos h14, execT_14 h14]; simp
  by_cases h15 : (nth c i).op = 15
  · rw [if_neg h14, if_pos h15]
    by_cases hz : x.reg (nth c i).a = 0
    · rw [execT_15t (x := { x with pc := (i : Int) + 1 }) h15 hz]; simp
    · rw [execT_15f (x := { x with pc := (i : Int) + 1 }) h15 hz]; simp
  · rw [if_neg h14, if_neg h15, (execT_pc m n (nth c i) { x with pc := (i : Int) + 1 } 0 h14 h15).2]; simp
section
variable {p : Pg} {m : Int}
theorem codeC_pg (h : OkPg p) {t : Nat} (ht : t < p.code.length) : CodeC (nth p.code t) := by
  have hj : JumpsOK (nth p.code t) := fun i hi => (h.insR ht hi).2
  refine ⟨fun i hi => (h.ins t i ht hi).op.1, fun i hi h2 => ?_, fun i hi y hy => nextsV_ok hj hi hy⟩
  have := (h.insR ht hi).1.o2 h2
  exact ⟨this.1.1, this.2.1⟩
/-- Where a thread stands, what is the same already is the same. -/
structure SameR (c : List Ins) (x : Th) : Prop where
  at_ : ∃ i : Nat, x.pc = i ∧ i ≤ c.length ∧ RchC c i ∧ ∀ a b, GoodZ c (a, b) → SameI c a b i → nth x.regs a.toNat = nth x.regs b.toNat
theorem sameR_exec {c : List Ins} (hc : CodeC c) {R W L : Nat} {i : Nat} (hi : i < c.length) (hin : ∀ i, i < c.length → InsR R W L (nth c i)) (hop : ∀ i, i < c.length → 1 ≤ (nth c i).op ∧ (nth c i).op ≤ 18) {n : Nat} {x : TS} (hx : x.regs.length = R) (hr : RchC c i)
    (hs : ∀ a b, GoodZ c (a, b) → SameI c a b i → nth x.regs a.toNat = nth x.regs b.toNat) :
    ∃ j : Nat, (execT m n (nth c i) { x with pc := (i : Int) + 1 }).pc = j ∧ j ≤ c.length ∧ RchC c j ∧ ∀ a b, GoodZ c (a, b) → SameI c a b j → nth (execT m n (nth c i) { x with pc := (i : Int) + 1 }).regs a.toNat = nth (execT m n (nth c i) { x with pc := (i : Int) + 1 }).regs b.toNat := by
  have hnx := execT_nx (m := m) (n := n) (c := c) (i := i) (x := x)
  have hb := hc.nx i hi _ hnx
  refine ⟨_, (Int.toNat_of_nonneg hb.1).symm, by omega, .step i _ hr hi hnx, fun a b hg hsm => ?_⟩
  have hpos := hg.pos hc
  have hne := hg.1
  simp only at hpos hne
  have hq := hin i hi
  rcases execT_regs (m := m) (n := n) (i := nth c i) (x := { x with pc := (i : Int) + 1 }) (hop i hi) with ⟨e, e2⟩ | ⟨v, e, e2, e3⟩
  · rw [e]
    rcases same_step hr hi hnx hsm.2 with ⟨_, h2⟩ | ⟨_, h2⟩
    · exact absurd h2.1 e2
    · exact hs a b hg ⟨hr, h2⟩
  · rw [e]
    show nth (x.regs.set _ v) _ = nth (x.regs.set _ v) _
    rcases same_step hr hi hnx hsm.2 with ⟨_, h2⟩ | ⟨h1, h2⟩
    · have h3 := hq.o2 h2.1
      have hw : wrG (nth c i) = a := by rw [wr_mv h2.1]; exact h2.2.1
      have hv : v = nth x.regs b.toNat := by rw [e2 h2.1]; show nth x.regs (nth c i).b.toNat = _; rw [h2.2.2]
      rw [h2.2.1, h2.2.2] at h3
      rw [hw, nth_setI _ _ _ _ (by omega), if_pos rfl, nth_setI _ _ _ _ (by omega), if_neg (by omega)]
      exact hv
    · have h3 : ¬ (wrG (nth c i) = a ∨ wrG (nth c i) = b) := h1
      have hw : 0 ≤ wrG (nth c i) ∧ wrG (nth c i) < R := by
        rcases (by omega : (nth c i).op = 13 ∨ ((nth c i).op ≠ 13 ∧ ((nth c i).op ≤ 8 ∨ (nth c i).op = 10))) with h4 | ⟨h4, h5⟩
        · rw [show wrG (nth c i) = (nth c i).b by unfold wrG; rw [if_pos h4]]
          exact (hq.o13 h4).2.1
        · rw [show wrG (nth c i) = (nth c i).a by unfold wrG; rw [if_neg h4, if_pos h5]]
          rcases no_op (hop i hi) with h | h | h | h | h | h | h | h | h | h | h | h | h | h | h | h | h | h
          · exact hq.o1 h
          · exact (hq.o2 h).1
          · exact (hq.o3 (by omega)).1
          · exact (hq.o3 (by omega)).1
          · exact (hq.o3 (by omega)).1
          · exact (hq.o3 (by omega)).1
          · exact (hq.o3 (by omega)).1
          · exact (hq.o8 h).1
          · omega
          · exact (hq.o10 (.inl h)).1
          all_goals omega
      rw [nth_setI _ _ _ _ (by omega), if_neg (by omega), nth_setI _ _ _ _ (by omega), if_neg (by omega)]
      exact hs a b hg ⟨hr, h2⟩
theorem Reach.same (hok : OkPg p) {s : MSt} (h : Reach p m s) : ∀ t, t < p.code.length → SameR (nth p.code t) (nth s.ths t) := by
  induction h with
  | start =>
    intro t ht
    have e : nth (begin_ p).ths t = ⟨0, List.replicate p.regs.toNat 0, []⟩ := nth_map' _ _ _ ht
    rw [e]
    exact ⟨0, rfl, Nat.zero_le _, .zero, fun a b _ hs => absurd .zero hs.2⟩
  | step hr ht hk hf ih =>
    rename_i s t k
    intro u hu
    rw [putT_th (hr.len hok ht)]
    by_cases e : t = u
    case neg => rw [if_neg e]; exact ih u hu
    subst e
    rw [if_pos rfl]
    obtain ⟨i, hi, hil, hri, hs⟩ := (ih t ht).at_
    rcases mvOK_k hk with ⟨rfl, hlt, hab⟩ | ⟨h1, h2, _⟩
    · have hi' : (s.view t).pc = (i : Int) := hi
      have hil' : i < (nth p.code t).length := by rw [hi'] at hlt; omega
      have hn : nextIns (nth p.code t) (s.view t).pc = nth (nth p.code t) i := by rw [hi', nextIns_t (by omega)]; simp
      have hst : stepT p m s t 0 = execT m t (nth (nth p.code t) i) { s.view t with pc := (i : Int) + 1 } := by rw [stepT_e, hn, hi']
      obtain ⟨j, j1, j2, j3, j4⟩ := sameR_exec (m := m) (codeC_pg hok ht) hil' (fun i hi => (hok.insR ht hi).1) (fun i hi => (hok.ins t i ht hi).op) (n := t) (x := s.view t) ((hr.wf hok).th t ht).regs hri hs
      rw [hst]
      exact ⟨j, j1, j2, j3, j4⟩
    · have e1 : (stepT p m s t k).regs = (nth s.ths t).regs := by unfold stepT doT; rw [if_pos h1]; rfl
      have e2 : (stepT p m s t k).pc = (nth s.ths t).pc := by unfold stepT doT; rw [if_pos h1]; rfl
      exact ⟨i, by show (stepT p m s t k).pc = _; rw [e2]; exact hi, hil, hri, fun a b hg hsm => by show nth (stepT p m s t k).regs _ = nth (stepT p m s t k).regs _; rw [e1]; exact hs a b hg hsm⟩
end
section
variable {p : Pg} {m : Int}
theorem copyL_len (c : List Ins) : (copyL c).length = c.length := by simp [copyL]
end
-- ---------------------------------------------------------------- what is made may be
theorem fit114_mk {p : Pg} {size n : Int} (h : 0 ≤ n ∧ n < p.regs) : fitsG p size 114 n = true := by
  unfold fitsG
  simp only [Int.reduceEq, if_false, if_true, Bool.and_eq_true, decide_eq_true_eq]
  exact h
theorem okNum_put {p : Pg} {size : Int} {x : Ins} {k j : Nat} {v : Int} (hk : k < 3) (hj : j < 3) (hd : kAt (kindsB x.op) k = 114) (hv : 0 ≤ v ∧ v < p.regs) (h : okNumG p size x j = true) : okNumG p size (putK x k v) j = true := by
  unfold okNumG at h ⊢
  rw [putK_op]
  by_cases e : j = k
  · subst e
    split
    · rename_i hlt
      rw [kAt_at hlt] at hd
      rw [hd]
      have : (putK x j v).num j = v := by rcases (by omega : j = 0 ∨ j = 1 ∨ j = 2) with rfl | rfl | rfl <;> rfl
      rw [this]
      exact fit114_mk hv
    · rename_i hlt
      unfold kAt at hd
      rw [dif_neg hlt] at hd
      cases hd
  · have : (putK x k v).num j = x.num j := by
      rcases (by omega : j = 0 ∨ j = 1 ∨ j = 2) with rfl | rfl | rfl <;> rcases (by omega : k = 0 ∨ k = 1 ∨ k = 2) with rfl | rfl | rfl <;> first | rfl | exact absurd rfl e
    rw [this]
    exact h
theorem OkIns.put {p : Pg} {size : Int} {x : Ins} {k : Nat} {v : Int} (hk : k < 3) (hd : kAt (kindsB x.op) k = 114) (hv : 0 ≤ v ∧ v < p.regs) (h : OkIns p size x) : OkIns p size (putK x k v) :=
  ⟨by rw [putK_op]; exact h.op, okNum_put hk (by decide) hd hv h.n0, okNum_put hk (by decide) hd hv h.n1, okNum_put hk (by decide) hd hv h.n2⟩
theorem OkIns.size {p p' : Pg} {size : Int} {x : Ins} (hr : p'.regs = p.regs) (hw : p'.words.length = p.words.length) (hl : p'.locks = p.locks) (h : OkIns p size x) : OkIns p' size x := by
  have e : ∀ k, okNumG p' size x k = okNumG p size x k := fun k => by
    unfold okNumG
    split
    · unfold fitsG; rw [hr, hw, hl]
    · rfl
  exact ⟨h.op, by rw [e]; exact h.n0, by rw [e]; exact h.n1, by rw [e]; exact h.n2⟩
end Go.Proofs.Ytfpaahkleienoaa
