/-
  Regions that draw their order: whatever order is picked. It imports nothing of the dump.
-/
import Derived.Test.YthdkmhaneellcaaGreatDoorS4
namespace Go.Proofs.YthdkmhaneellcaaGreatDoor
open Go.RowKit
set_option linter.unusedSimpArgs false
set_option linter.unusedVariables false

def upd (S : Nat → Bool) (i : Nat) : Nat → Bool := fun j => bif Nat.beq j i then true else S j
theorem upd_self (S : Nat → Bool) (i : Nat) : upd S i i = true := by simp [upd]
theorem upd_ne {S : Nat → Bool} {i j : Nat} (h : Nat.beq j i = false) : upd S i j = S j := by simp [upd, h]
theorem upd_true {S : Nat → Bool} {i j : Nat} (h : S j = true) : upd S i j = true := by unfold upd; cases Nat.beq j i <;> simp [h]

/-- Each operation waits for earlier ones alone. -/
def depsLt : List Oper → Nat → Bool
  | [], _ => true
  | o :: r, i => (o.after.all fun e => !Region.binds .any e || Nat.blt e.on i) && depsLt r (i + 1)
theorem depsLt_at : ∀ (l : List Oper) (k i : Nat) (o : Oper), depsLt l k = true → l[i]? = some o → ∀ e ∈ o.after, Region.binds .any e = true → e.on < k + i
  | [], _, _, _, _, h => by simp at h
  | x :: r, k, 0, o, hd, h => by
    simp only [List.getElem?_cons_zero, Option.some.injEq] at h
    subst h
    intro e he hb
    simp only [depsLt, Bool.and_eq_true] at hd
    have := (Array.all_eq_true_iff_forall_mem.1 hd.1) e he
    simp only [hb, Bool.not_true, Bool.false_or, Nat.blt_eq] at this
    exact this
  | x :: r, k, i + 1, o, hd, h => by
    simp only [List.getElem?_cons_succ] at h
    simp only [depsLt, Bool.and_eq_true] at hd
    intro e he hb
    have := depsLt_at r (k + 1) i o hd.2 h e he hb
    omega

def ClosedB (ops : List Oper) (S : Nat → Bool) : Prop := ∀ (i : Nat) (o : Oper), ops[i]? = some o → S i = true → ∀ e ∈ o.after, Region.binds .any e = true → S e.on = true

section
variable {P : Program} {N : Nat} {K : Nat → Prop} {W w : World} {a : Act} {F F' : List (Nat × Value)} {L L' : List Asn} {o : Oper} {Q : Exit → Act → World → Prop}

def StepOK (P : Program) (ops : List Oper) (Q : Exit → Act → World → Prop) (o : Oper) (a : Act) (w : World) (next : Act → World → Prop) : Prop :=
  if Region.wanted o (yielded ops.toArray a.tmps) then o.wp P a w next Q else next (a.put o.dst undef) w

theorem x_any {id : Nat} {ops : List Oper} (I : (Nat → Bool) → Act → World → Prop) (hm : P.follows .mixedOrders = true) (hd : depsLt ops 0 = true) (h0 : I (fun _ => false) a w.drew)
    (hstep : ∀ (S : Nat → Bool) (i : Nat) (o : Oper), ops[i]? = some o → S i = false → ClosedB ops S → (∀ e ∈ o.after, Region.binds .any e = true → S e.on = true) → ∀ a w, I S a w → StepOK P ops Q o a w (I (upd S i)))
    (hend : ∀ (S : Nat → Bool), (∀ i, i < ops.length → S i = true) → ∀ a w, I S a w → Q .normal a w) : (Code.region id ops.toArray true).wp P Q a w := by
  refine wp_region_any hm ?_
  have key : ∀ (fuel : Nat) (listed : Array Bool) (a : Act) (w : World), listed.size = ops.length → (listed.toList.count false) ≤ fuel → ClosedB ops (fun j => listed.getD j false) → I (fun j => listed.getD j false) a w →
      wpAny P .any ops.toArray Q fuel listed a w := by
    have hallt : ∀ (listed : Array Bool), listed.size = ops.length → Region.ready .any ops.toArray listed = [] → ∀ i, i < ops.length → listed.getD i false = true := by
      intro listed hsz hr i
      induction i using Nat.strongRecOn with
      | _ i ih =>
        intro hi
        cases hl : listed.getD i false with
        | true => rfl
        | false =>
          exfalso
          have hmem : i ∈ Region.ready .any ops.toArray listed := by
            unfold Region.ready
            rw [List.mem_filter]
            refine ⟨by simpa using hi, ?_⟩
            have hlt : i < listed.size := by omega
            have e1 : listed.getD i true = false := by
              simp only [Array.getD_eq_getD_getElem?, Array.getElem?_eq_getElem hlt] at hl ⊢; exact hl
            have e2 : ops.toArray[i]? = some ops[i] := by simp [hi]
            rw [e1, e2]
            simp only [Bool.not_false, Option.map_some, Option.getD_some, Bool.true_and]
            rw [Array.all_eq_true_iff_forall_mem]
            intro e he
            cases hb : Region.binds .any e with
            | false => rfl
            | true =>
              have h1 := depsLt_at ops 0 i ops[i] hd (List.getElem?_eq_getElem hi) e he hb
              simp only [Nat.zero_add] at h1
              simp [ih e.on h1 (by omega)]
          rw [hr] at hmem
          cases hmem
    intro fuel
    induction fuel with
    | zero =>
      intro listed a w hsz hc hcl hI
      have hall : ∀ i, i < ops.length → listed.getD i false = true := by
        intro i hi
        have hlt : i < listed.size := by omega
        have hc0 : listed.toList.count false = 0 := by omega
        rw [List.count_eq_zero] at hc0
        have : listed[i] ≠ false := fun e => hc0 (by rw [← e]; simp)
        simp only [Array.getD_eq_getD_getElem?, Array.getElem?_eq_getElem hlt, Option.getD_some]
        cases hh : listed[i] <;> simp_all
      refine ⟨?_, hend _ hall a w hI⟩
      unfold Region.ready
      rw [List.filter_eq_nil_iff]
      intro i hi
      have hi' : i < ops.length := by simpa using hi
      have hlt : i < listed.size := by omega
      have := hall i hi'
      have e1 : listed.getD i true = true := by
        simp only [Array.getD_eq_getD_getElem?, Array.getElem?_eq_getElem hlt] at this ⊢; exact this
      simp [e1]
    | succ fuel ih =>
      intro listed a w hsz hc hcl hI
      refine ⟨fun hr => hend _ (hallt listed hsz hr) a w hI, fun i hi => ?_⟩
      unfold Region.ready at hi
      rw [List.mem_filter] at hi
      obtain ⟨hi1, hi2⟩ := hi
      have hi' : i < ops.length := by simpa using hi1
      have hlt : i < listed.size := by omega
      have e2 : ops.toArray[i]? = some ops[i] := by simp [hi']
      rw [e2] at hi2
      simp only [Option.map_some, Option.getD_some, Bool.and_eq_true, Bool.not_eq_true', Array.all_eq_true_iff_forall_mem] at hi2
      have hSi : listed.getD i false = false := by
        have := hi2.1
        simp only [Array.getD_eq_getD_getElem?, Array.getElem?_eq_getElem hlt] at this ⊢; exact this
      have hdep : ∀ e ∈ ops[i].after, Region.binds .any e = true → listed.getD e.on false = true := by
        intro e he hb
        have := hi2.2 e he
        simpa [hb] using this
      have hs := hstep (fun j => listed.getD j false) i ops[i] (List.getElem?_eq_getElem hi') hSi hcl hdep a w hI
      have hupd : (fun j => (listed.setIfInBounds i true).getD j false) = upd (fun j => listed.getD j false) i := by
        funext j
        simp only [upd, Array.getD_eq_getD_getElem?, Array.getElem?_setIfInBounds]
        by_cases e : i = j
        · subst e; simp [hlt]
        · have e' : j ≠ i := fun h => e h.symm
          simp [e, beq_no e']
      have hnext : ∀ a' w', I (upd (fun j => listed.getD j false) i) a' w' → wpAny P .any ops.toArray Q fuel (listed.setIfInBounds i true) a' w' := by
        intro a' w' h'
        refine ih _ a' w' (by simpa using hsz) ?_ ?_ (by rw [hupd]; exact h')
        · rw [Array.toList_setIfInBounds]
          have hli : listed.toList[i]'(by simpa using hlt) = false := by
            simp only [Array.getD_eq_getD_getElem?, Array.getElem?_eq_getElem hlt, Option.getD_some] at hSi
            simpa using hSi
          have := List.count_set (a := true) (b := false) (l := listed.toList) (i := i) (by simpa using hlt)
          rw [hli] at this
          have hc2 := hc
          simp at this hc2 ⊢
          omega
        · rw [hupd]
          intro j oj hj hSj e he hb
          by_cases e1 : j = i
          · subst e1
            rw [List.getElem?_eq_getElem hi'] at hj
            cases hj
            exact upd_true (hdep e he hb)
          · rw [upd_ne (beq_no e1)] at hSj
            exact upd_true (hcl j oj hj hSj e he hb)
      unfold wpOp
      rw [e2]
      unfold StepOK at hs
      simp only
      split
      · rename_i hw
        rw [if_pos hw] at hs
        exact .inl (Oper.wp_mono hnext hs)
      · rename_i hw
        rw [if_neg hw] at hs
        exact hnext _ _ hs
  have hrep : (fun j => (Array.replicate ops.length false).getD j false) = fun _ => false := by
    funext j
    simp only [Array.getD_eq_getD_getElem?, Array.getElem?_replicate]
    split <;> rfl
  have := key ops.length (Array.replicate ops.length false) a w.drew (by simp) (by simp) (by rw [hrep]; intro i o _ h; cases h) (by rw [hrep]; exact h0)
  simpa using this

/-! ### What is known in the midst of such a region -/
structure FrI (N : Nat) (S : Nat → Bool) (F0 : List (Nat × Value)) (vals : List (Nat × Nat × Value)) (a : Act) : Prop where
  fr0 : Fr N a F0
  at_ : ∀ (k j d : Nat) (v : Value), vals[k]? = some (j, d, v) → S j = true → a.tmps[d]? = some v
theorem FrI.start {F0 : List (Nat × Value)} {vals : List (Nat × Nat × Value)} (h : Fr N a F0) : FrI N (fun _ => false) F0 vals a := ⟨h, fun _ _ _ _ _ h => by cases h⟩
theorem Fr.cons {d : Nat} {v : Value} (h : Fr N a F) (hd : a.tmps[d]? = some v) : Fr N a ((d, v) :: F) := by
  refine ⟨h.size, h.defers, fun t u htu => ?_⟩
  rw [lk_cons] at htu
  by_cases e : d = t
  · subst e; simp at htu; subst htu; exact hd
  · rw [if_neg e] at htu; exact h.at_ t u htu
def nodupB : List Nat → Bool
  | [] => true
  | x :: r => !(r.any (Nat.beq x)) && nodupB r
theorem nodupB_at : ∀ (l : List Nat) (i j : Nat) (x : Nat), nodupB l = true → l[i]? = some x → l[j]? = some x → i = j
  | [], _, _, _, _, h, _ => by simp at h
  | y :: r, i, j, x, hn, hi, hj => by
    simp only [nodupB, Bool.and_eq_true, Bool.not_eq_true', List.any_eq_false] at hn
    match i, j with
    | 0, 0 => rfl
    | i + 1, j + 1 =>
      simp only [List.getElem?_cons_succ] at hi hj
      rw [nodupB_at r i j x hn.2 hi hj]
    | 0, j + 1 =>
      simp only [List.getElem?_cons_zero, Option.some.injEq, List.getElem?_cons_succ] at hi hj
      subst hi
      exact absurd (hn.1 _ (List.mem_of_getElem? hj)) (by simp)
    | i + 1, 0 =>
      simp only [List.getElem?_cons_zero, Option.some.injEq, List.getElem?_cons_succ] at hi hj
      subst hj
      exact absurd (hn.1 _ (List.mem_of_getElem? hi)) (by simp)
/-- An operation with a slot has come up: its value stands among those that were foretold (k), or it is not spoken of (its number and slot are not in the list). -/
theorem FrI.step {S : Nat → Bool} {F0 : List (Nat × Value)} {vals : List (Nat × Nat × Value)} {a' : Act} {i d : Nat} {v v' : Value} (h : FrI N S F0 vals a) (ht : a'.tmps = (a.put (some d) v').tmps) (hdf : a'.defers = []) (hv : a'.tmps[d]? = some v) (k : Nat) (hk : vals[k]? = some (i, d, v))
    (h0 : lk F0 d = none) (hn : nodupB (vals.map (·.1)) = true) (hn2 : nodupB (vals.map (·.2.1)) = true) : FrI N (upd S i) F0 vals a' := by
  have hget : ∀ t, t ≠ d → a'.tmps[t]? = a.tmps[t]? := by
    intro t htd
    rw [ht]
    simp only [Act.put, Array.getElem?_setIfInBounds]
    rw [if_neg (fun e => htd e.symm)]
  refine ⟨⟨by rw [ht]; simp [Act.put, h.fr0.size], hdf, fun t u htu => ?_⟩, fun q j e u hq hS => ?_⟩
  · rw [hget t (fun e => by subst e; rw [h0] at htu; cases htu)]
    exact h.fr0.at_ t u htu
  · have hq1 : (vals.map (·.1))[q]? = some j := by simp [hq]
    have hq2 : (vals.map (·.2.1))[q]? = some e := by simp [hq]
    have hk1 : (vals.map (·.1))[k]? = some i := by simp [hk]
    have hk2 : (vals.map (·.2.1))[k]? = some d := by simp [hk]
    by_cases e1 : j = i
    · subst e1
      have := nodupB_at _ q k j hn hq1 hk1
      subst this
      rw [hq] at hk
      cases hk
      exact hv
    · have e2 : e ≠ d := by
        rintro rfl
        have := nodupB_at _ q k e hn2 hq2 hk2
        subst this
        rw [hq] at hk
        cases hk
        exact e1 rfl
      rw [hget e e2]
      rw [upd_ne (beq_no e1)] at hS
      exact h.at_ q j e u hq hS
theorem FrI.other {S : Nat → Bool} {F0 : List (Nat × Value)} {vals : List (Nat × Nat × Value)} {a' : Act} {i d : Nat} {v' : Value} (h : FrI N S F0 vals a) (ht : a'.tmps = (a.put (some d) v').tmps) (hdf : a'.defers = [])
    (h0 : lk F0 d = none) (hn : (vals.map (·.1)).all (fun j => !Nat.beq j i) = true) (hn2 : (vals.map (·.2.1)).all (fun e => !Nat.beq e d) = true) : FrI N (upd S i) F0 vals a' := by
  have hget : ∀ t, t ≠ d → a'.tmps[t]? = a.tmps[t]? := by
    intro t htd
    rw [ht]
    simp only [Act.put, Array.getElem?_setIfInBounds]
    rw [if_neg (fun e => htd e.symm)]
  refine ⟨⟨by rw [ht]; simp [Act.put, h.fr0.size], hdf, fun t u htu => ?_⟩, fun q j e u hq hS => ?_⟩
  · rw [hget t (fun e => by subst e; rw [h0] at htu; cases htu)]
    exact h.fr0.at_ t u htu
  · have h1 := (List.all_eq_true.1 hn) j (List.mem_map.2 ⟨_, List.mem_of_getElem? hq, rfl⟩)
    have h2 := (List.all_eq_true.1 hn2) e (List.mem_map.2 ⟨_, List.mem_of_getElem? hq, rfl⟩)
    have h1' : Nat.beq j i = false := by simpa using h1
    have h2' : e ≠ d := by rintro rfl; simp at h2
    rw [hget e h2']
    rw [upd_ne h1'] at hS
    exact h.at_ q j e u hq hS
/-- An operation without a slot. -/
theorem FrI.none {S : Nat → Bool} {F0 : List (Nat × Value)} {vals : List (Nat × Nat × Value)} {a' : Act} {i : Nat} (h : FrI N S F0 vals a) (ht : a'.tmps = a.tmps) (hdf : a'.defers = []) (hn : (vals.map (·.1)).all (fun j => !Nat.beq j i) = true) : FrI N (upd S i) F0 vals a' := by
  refine ⟨⟨by rw [ht, h.fr0.size], hdf, fun t u htu => by rw [ht]; exact h.fr0.at_ t u htu⟩, fun q j e u hq hS => ?_⟩
  have h1 := (List.all_eq_true.1 hn) j (List.mem_map.2 ⟨_, List.mem_of_getElem? hq, rfl⟩)
  have h1' : Nat.beq j i = false := by simpa using h1
  rw [upd_ne h1'] at hS
  rw [ht]
  exact h.at_ q j e u hq hS
/-- More is known: nothing of it has come up yet but what is shown. -/
theorem FrI.more {S : Nat → Bool} {F0 : List (Nat × Value)} {vals vals' : List (Nat × Nat × Value)} (h : FrI N S F0 vals a) (hv : ∀ (k j d : Nat) (v : Value), vals'[k]? = some (j, d, v) → S j = true → a.tmps[d]? = some v) : FrI N S F0 vals' a := ⟨h.fr0, hv⟩

def depsOf (o : Oper) : List Nat := (o.after.toList.filter (Region.binds .any ·)).map (·.on)
/-- What i waits for, through others. -/
def ancL (ops : List Oper) : Nat → List Nat → List Nat
  | 0, acc => acc
  | k + 1, acc => ancL ops k (bif acc.any (Nat.beq k) then (match ops[k]? with
    | some o => depsOf o ++ acc
    | none => acc) else acc)
def ancB (ops : List Oper) (i j : Nat) : Bool := (ancL ops (i + 1) [i]).any (Nat.beq j)
theorem ancL_all {ops : List Oper} {S : Nat → Bool} (h : ClosedB ops S) : ∀ (k : Nat) (acc : List Nat), (∀ x ∈ acc, S x = true) → ∀ x ∈ ancL ops k acc, S x = true
  | 0, acc, ha, x, hx => ha x hx
  | k + 1, acc, ha, x, hx => by
    refine ancL_all h k _ ?_ x hx
    intro y hy
    cases hb : acc.any (Nat.beq k) with
    | false => rw [hb] at hy; exact ha y hy
    | true =>
      rw [hb, cond_true] at hy
      split at hy
      · rename_i o ho
        rcases List.mem_append.1 hy with hy | hy
        · obtain ⟨e, he, rfl⟩ := List.mem_map.1 hy
          obtain ⟨h1, h2⟩ := List.mem_filter.1 he
          have hk : S k = true := by
            obtain ⟨z, hz, h3⟩ := List.any_eq_true.1 hb
            rw [Nat.eq_of_beq_eq_true h3]; exact ha z hz
          exact h k o ho hk e (by simpa using h1) h2
        · exact ha y hy
      · exact ha y hy
theorem cA {ops : List Oper} {S : Nat → Bool} (h : ClosedB ops S) (i j : Nat) (e : ancB ops i j = true) (hi : S i = true) : S j = true := by
  obtain ⟨z, hz, h3⟩ := List.any_eq_true.1 e
  rw [Nat.eq_of_beq_eq_true h3]
  exact ancL_all h _ _ (by simpa using hi) z hz
theorem un {S : Nat → Bool} {i j : Nat} {b : Bool} (e : Nat.beq j i = false) (h : S j = b) : upd S i j = b := (upd_ne e).trans h
end
end Go.Proofs.YthdkmhaneellcaaGreatDoor
