/-
  Regions that draw their order, of which the last operations stand behind all others; slices of rows. It imports nothing of the dump.
-/
import Derived.Test.YthdkmhaneellcaaGreatDoorS7
namespace Go.Proofs.YthdkmhaneellcaaGreatDoor
open Go.RowKit
set_option linter.unusedSimpArgs false
set_option linter.unusedVariables false

theorem ready_all {ops : List Oper} (hd : depsLt ops 0 = true) {listed : Array Bool} (hsz : listed.size = ops.length) (hr : Region.ready .any ops.toArray listed = []) : ∀ i, i < ops.length → listed.getD i false = true := by
  intro i
  induction i using Nat.strongRecOn with
  | _ i ih =>
    intro hi
    cases hl : listed.getD i false with
    | true => rfl
    | false =>
      exfalso
      have hmem : i ∈ Region.ready .any ops.toArray listed := by
        refine mem_ready.2 ⟨?_, ops[i], by simp [hi], fun e he hb => ?_⟩
        · have hlt : i < listed.size := by omega
          simp only [Array.getD_eq_getD_getElem?, Array.getElem?_eq_getElem hlt] at hl ⊢; exact hl
        · have h1 := depsLt_at ops 0 i ops[i] hd (List.getElem?_eq_getElem hi) e he hb
          simp only [Nat.zero_add] at h1
          exact ih e.on h1 (by omega)
      rw [hr] at hmem
      cases hmem

instance : One Wt := ⟨fun x w _ q hq => by rcases q with _ | _ | q <;> rfl⟩
def edgeB (o : Oper) (j : Nat) : Bool := o.after.any fun e => Region.binds .any e && Nat.beq e.on j
theorem edgeB_at {o : Oper} {j : Nat} (h : edgeB o j = true) : ∃ e ∈ o.after, Region.binds .any e = true ∧ e.on = j := by
  obtain ⟨k, hk, h4⟩ := Array.any_eq_true.1 h
  simp only [Bool.and_eq_true, Nat.beq_eq] at h4
  exact ⟨_, Array.getElem_mem hk, h4.1, h4.2⟩
/-- All below j are waited for, by o or by those of acc. -/
def covB (ops : List Oper) (ps : List Nat) (o : Oper) : Nat → List Nat → Bool
  | 0, _ => true
  | j + 1, acc => (ps.contains j || edgeB o j || acc.any fun k => match ops[k]? with
    | some ok => edgeB ok j
    | none => false) && covB ops ps o j (j :: acc)
theorem covB_at {ops : List Oper} {ps : List Nat} {o : Oper} {S : Nat → Bool} (hps : ∀ p ∈ ps, S p = true) (hcl : ClosedB ops S) (ho : ∀ e ∈ o.after, Region.binds .any e = true → S e.on = true) : ∀ (n : Nat) (acc : List Nat), covB ops ps o n acc = true → (∀ k ∈ acc, S k = true) → ∀ j, j < n → S j = true
  | 0, _, _, _, j, hj => absurd hj (by omega)
  | n + 1, acc, h, ha, j, hj => by
    simp only [covB, Bool.and_eq_true, Bool.or_eq_true] at h
    have hn : S n = true := by
      rcases h.1 with (h1 | h1) | h1
      · exact hps n (by simpa using h1)
      · obtain ⟨e, he, hb, hon⟩ := edgeB_at h1
        rw [← hon]; exact ho e he hb
      · obtain ⟨k, hk, h2⟩ := List.any_eq_true.1 h1
        split at h2
        · rename_i ok hok
          obtain ⟨e, he, hb, hon⟩ := edgeB_at h2
          rw [← hon]; exact hcl k ok hok (ha k hk) e he hb
        · cases h2
    rcases Nat.lt_or_ge j n with hlt | hge
    · exact covB_at hps hcl ho n (n :: acc) h.2 (fun k hk => (List.mem_cons.1 hk).elim (fun e => e ▸ hn) (ha k)) j hlt
    · obtain rfl : j = n := by omega
      exact hn
/-- From number m on each operation waits for all ahead of it. -/
def coverB (ops : List Oper) (ps : List Nat) (m : Nat) : Bool := (List.range ops.length).all fun i => Nat.blt i m || match ops[i]? with
  | some o => covB ops ps o i []
  | none => true
theorem coverB_at {ops : List Oper} {ps : List Nat} {m : Nat} (h : coverB ops ps m = true) {S : Nat → Bool} (hps : ∀ p ∈ ps, S p = true) (hcl : ClosedB ops S) {i : Nat} {o : Oper} (ho : ops[i]? = some o) (hm : m ≤ i) (hdep : ∀ e ∈ o.after, Region.binds .any e = true → S e.on = true) (j : Nat) (hj : j < i) : S j = true := by
  have hi : i < ops.length := (List.getElem?_eq_some_iff.1 ho).1
  have h1 := (List.all_eq_true.1 h) i (by simpa using hi)
  rw [ho] at h1
  have h2 : Nat.blt i m = false := by
    cases hb : Nat.blt i m
    · rfl
    · rw [Nat.blt_eq] at hb; omega
  rw [h2, Bool.false_or] at h1
  exact covB_at hps hcl hdep i [] h1 (by simp) j hj
theorem set_up {listed : Array Bool} {i j : Nat} (hj : listed.getD j false = true) : (listed.setIfInBounds i true).getD j false = true := by
  simp only [Array.getD_eq_getD_getElem?, Array.getElem?_setIfInBounds] at hj ⊢
  by_cases e : i = j
  · subst e
    by_cases hlt : i < listed.size
    · simp [hlt]
    · simp [Array.getElem?_eq_none (by omega : listed.size ≤ i)] at hj
  · simpa [e] using hj
theorem closed_set {ops : List Oper} {listed : Array Bool} {i : Nat} {o : Oper} (hcl : ClosedB ops (fun j => listed.getD j false)) (ho : ops[i]? = some o) (hdep : ∀ e ∈ o.after, Region.binds .any e = true → listed.getD e.on false = true) : ClosedB ops (fun j => (listed.setIfInBounds i true).getD j false) := by
  have up : ∀ j, listed.getD j false = true → (listed.setIfInBounds i true).getD j false = true := fun j hj => set_up hj
  intro j oj hj hS e he hb
  by_cases e1 : j = i
  · subst e1
    rw [ho] at hj
    cases hj
    exact up _ (hdep e he hb)
  · refine up _ (hcl j oj hj ?_ e he hb)
    have hS' : (listed.setIfInBounds i true).getD j false = true := hS
    simp only [Array.getD_eq_getD_getElem?, Array.getElem?_setIfInBounds, if_neg (show ¬ i = j from fun h => e1 h.symm)] at hS'
    simpa [Array.getD_eq_getD_getElem?] using hS'

section
variable {P : Program} {Q : Exit → Act → World → Prop}

theorem any_seq {ops : List Oper} {ps : List Nat} {m : Nat} (hpm : ∀ p ∈ ps, p < m) (hd : depsLt ops 0 = true) (hc : coverB ops ps m = true) : ∀ (r fuel k : Nat) (listed : Array Bool) (a : Act) (w : World), ops.length - k = r → m ≤ k → k ≤ ops.length → r ≤ fuel → listed.size = ops.length →
    (∀ j, j < k → listed.getD j false = true) → (∀ j, k ≤ j → j < ops.length → listed.getD j false = false) → wpList P ops.toArray Q (ops.drop k) a w → wpAny P .any ops.toArray Q fuel listed a w := by
  have hget : ∀ (listed : Array Bool) (j : Nat), j < listed.size → listed.getD j true = listed.getD j false := by
    intro listed j hj
    simp [Array.getD_eq_getD_getElem?, Array.getElem?_eq_getElem hj]
  intro r
  induction r with
  | zero =>
    intro fuel k listed a w hr hm hk hf hsz ht hfl h
    have hk' : k = ops.length := by omega
    subst hk'
    rw [List.drop_length] at h
    have hready : Region.ready .any ops.toArray listed = [] := by
      apply List.eq_nil_iff_forall_not_mem.2
      intro i hi
      obtain ⟨h1, o, ho, _⟩ := mem_ready.1 hi
      have hi' : i < ops.length := by
        rcases Nat.lt_or_ge i ops.length with h | h
        · exact h
        · simp [Array.getElem?_eq_none, h] at ho
      rw [hget _ _ (by omega), ht i hi'] at h1
      cases h1
    cases fuel with
    | zero => exact ⟨hready, h⟩
    | succ fuel => exact ⟨fun _ => h, fun i hi => by rw [hready] at hi; cases hi⟩
  | succ r ih =>
    intro fuel k listed a w hr hm hk hf hsz ht hfl h
    have hlt : k < ops.length := by omega
    obtain ⟨fuel, rfl⟩ : ∃ f, fuel = f + 1 := ⟨fuel - 1, by omega⟩
    have hko : ops[k]? = some ops[k] := List.getElem?_eq_getElem hlt
    have hkr : k ∈ Region.ready .any ops.toArray listed := by
      refine mem_ready.2 ⟨by rw [hget _ _ (by omega)]; exact hfl k (Nat.le_refl _) hlt, ops[k], by simp [hlt], fun e he hb => ?_⟩
      have h1 := depsLt_at ops 0 k ops[k] hd hko e he hb
      exact ht _ (by omega)
    refine ⟨fun h0 => (by rw [h0] at hkr; cases hkr), fun i hi => ?_⟩
    obtain ⟨h1, o, ho, hall⟩ := mem_ready.1 hi
    have hi' : i < ops.length := by
      rcases Nat.lt_or_ge i ops.length with h | h
      · exact h
      · simp [Array.getElem?_eq_none, h] at ho
    have hik : i = k := by
      rcases Nat.lt_trichotomy i k with hh | hh | hh
      · rw [hget _ _ (by omega), ht i hh] at h1; cases h1
      · exact hh
      · have hcl : ClosedB ops (fun j => listed.getD j false) := fun j oj hj hS e he hb => by
          have h1 := depsLt_at ops 0 j oj hd hj e he hb
          have hj' : j < ops.length := (List.getElem?_eq_some_iff.1 hj).1
          rcases Nat.lt_or_ge j k with h | h
          · exact ht _ (by omega)
          · have hS' : listed.getD j false = true := hS
            rw [hfl j h hj'] at hS'; cases hS'
        have := coverB_at hc (fun p hp => ht p (by have := hpm p hp; omega)) hcl (by simpa using ho) (by omega) hall k hh
        rw [hfl k (Nat.le_refl _) hlt] at this
        cases this
    subst hik
    rw [List.drop_eq_getElem_cons hlt] at h
    have hnext : ∀ a' w', wpList P ops.toArray Q (ops.drop (i + 1)) a' w' → wpAny P .any ops.toArray Q fuel (listed.setIfInBounds i true) a' w' := by
      intro a' w' h'
      refine ih fuel (i + 1) _ a' w' (by omega) (by omega) (by omega) (by omega) (by simpa using hsz) (fun j hj => ?_) (fun j hj hj2 => ?_) h'
      · simp only [Array.getD_eq_getD_getElem?, Array.getElem?_setIfInBounds]
        by_cases e : i = j
        · subst e; simp [hsz, hi']
        · have := ht j (by omega)
          simpa [e] using this
      · have := hfl j (by omega) hj2
        have e : i ≠ j := by omega
        simp only [Array.getD_eq_getD_getElem?, Array.getElem?_setIfInBounds]
        simpa [e] using this
    unfold wpOp
    rw [show ops.toArray[i]? = some ops[i] by simp [hlt]]
    unfold wpList at h
    simp only
    split
    · rename_i hw
      rw [if_pos hw] at h
      rcases h with h | h
      · exact .inl (Oper.wp_mono hnext h)
      · exact .inr h
    · rename_i hw
      rw [if_neg hw] at h
      exact hnext _ _ h

theorem any_tail {ops : List Oper} {ps : List Nat} {m : Nat} {C : World → Prop} (hpm : ∀ p ∈ ps, p < m) (hm : m ≤ ops.length) (hd : depsLt ops 0 = true) (hc : coverB ops ps m = true) : ∀ (fuel : Nat) (listed listed' : Array Bool) (a : Act) (w : World), C w → (∀ p ∈ ps, listed.getD p false = true) → ClosedB ops (fun j => listed.getD j false) → listed.size = ops.length → listed'.size = ops.length →
    (∀ j, j < m → listed.getD j false = listed'.getD j false) → (∀ j, m ≤ j → j < ops.length → listed.getD j false = false ∧ listed'.getD j false = true) →
    wpAnyQ P .any ops.toArray C (fun a' => ∀ w', C w' → wpList P ops.toArray Q (ops.drop m) a' w') fuel listed' a → wpAny P .any ops.toArray Q (fuel + (ops.length - m)) listed a w := by
  have hget : ∀ (listed : Array Bool) (j : Nat), j < listed.size → listed.getD j true = listed.getD j false := by
    intro listed j hj
    simp [Array.getD_eq_getD_getElem?, Array.getElem?_eq_getElem hj]
  have fin : ∀ (f : Nat) (listed listed' : Array Bool) (a : Act) (w : World), ops.length - m ≤ f → listed.size = ops.length → listed'.size = ops.length →
      (∀ j, j < m → listed.getD j false = listed'.getD j false) → (∀ j, m ≤ j → j < ops.length → listed.getD j false = false ∧ listed'.getD j false = true) → Region.ready .any ops.toArray listed' = [] →
      wpList P ops.toArray Q (ops.drop m) a w → wpAny P .any ops.toArray Q f listed a w := by
    intro f listed listed' a w hf hs hs' h1 h2 hr h
    refine any_seq hpm hd hc (ops.length - m) f m listed a w rfl (Nat.le_refl _) hm hf hs (fun j hj => ?_) (fun j hj hj2 => (h2 j hj hj2).1) h
    rw [h1 j hj]
    exact ready_all hd hs' hr j (by omega)
  intro fuel
  induction fuel with
  | zero =>
    intro listed listed' a w hw _ _ hs hs' h1 h2 h
    exact fin _ listed listed' a w (by omega) hs hs' h1 h2 h.1 (h.2 w hw)
  | succ fuel ih =>
    intro listed listed' a w hw hps hcl hs hs' h1 h2 h
    by_cases hr : Region.ready .any ops.toArray listed' = []
    · exact fin _ listed listed' a w (by omega) hs hs' h1 h2 hr (h.1 hr w hw)
    rw [show fuel + 1 + (ops.length - m) = (fuel + (ops.length - m)) + 1 by omega]
    have key : ∀ i, i ∈ Region.ready .any ops.toArray listed' → i < m := by
      intro i hi
      obtain ⟨h3, o, ho, _⟩ := mem_ready.1 hi
      have hi' : i < ops.length := by
        rcases Nat.lt_or_ge i ops.length with h | h
        · exact h
        · simp [Array.getElem?_eq_none, h] at ho
      rcases Nat.lt_or_ge i m with h | h
      · exact h
      · rw [hget _ _ (by omega), (h2 i h hi').2] at h3; cases h3
    have tr : ∀ i, i < m → (i ∈ Region.ready .any ops.toArray listed' ↔ i ∈ Region.ready .any ops.toArray listed) := by
      intro i hi
      have hi' : i < ops.length := by omega
      have hdep : ∀ e ∈ (ops[i]).after, Region.binds .any e = true → e.on < m := fun e he hb => by
        have := depsLt_at ops 0 i ops[i] hd (List.getElem?_eq_getElem hi') e he hb
        omega
      constructor
      · intro h
        obtain ⟨h3, o, ho, hall⟩ := mem_ready.1 h
        obtain rfl : ops[i] = o := by simpa [hi'] using ho
        exact mem_ready.2 ⟨by rw [hget _ _ (by omega)] at h3 ⊢; rw [h1 i hi]; exact h3, ops[i], ho, fun e he hb => by rw [h1 _ (hdep e he hb)]; exact hall e he hb⟩
      · intro h
        obtain ⟨h3, o, ho, hall⟩ := mem_ready.1 h
        obtain rfl : ops[i] = o := by simpa [hi'] using ho
        exact mem_ready.2 ⟨by rw [hget _ _ (by omega)] at h3 ⊢; rw [← h1 i hi]; exact h3, ops[i], ho, fun e he hb => by rw [← h1 _ (hdep e he hb)]; exact hall e he hb⟩
    refine ⟨fun h0 => ?_, fun i hi => ?_⟩
    · exfalso
      apply hr
      apply List.eq_nil_iff_forall_not_mem.2
      intro i hi
      have := (tr i (key i hi)).1 hi
      rw [h0] at this
      cases this
    · have him : i < m := by
        rcases Nat.lt_or_ge i m with h | h
        · exact h
        exfalso
        obtain ⟨h3, o, ho, hall⟩ := mem_ready.1 hi
        apply hr
        apply List.eq_nil_iff_forall_not_mem.2
        intro j hj
        have hjm := key j hj
        obtain ⟨h4, _⟩ := mem_ready.1 hj
        have : listed.getD j false = true := coverB_at hc hps hcl (by simpa using ho) h hall j (by omega)
        rw [h1 j hjm] at this
        rw [hget _ _ (by omega), this] at h4
        cases h4
      have h5 := h.2 i ((tr i him).2 hi)
      refine wpOp_of_qOp hw (fun a' w' hw' hh => ih (listed.setIfInBounds i true) (listed'.setIfInBounds i true) a' w' hw' (fun p hp => set_up (hps p hp)) (by obtain ⟨_, o, ho, hall⟩ := mem_ready.1 hi; exact closed_set hcl (by simpa using ho) hall) (by simpa using hs) (by simpa using hs') (fun j hj => ?_) (fun j hj hj2 => ?_) hh) h5
      · simp only [Array.getD_eq_getD_getElem?, Array.getElem?_setIfInBounds]
        have := h1 j hj
        simp only [Array.getD_eq_getD_getElem?] at this
        by_cases e : i = j
        · subst e; simp [hs, hs', show i < ops.length by omega]
        · simp only [e, if_false]; exact this
      · have := h2 j hj hj2
        have e : i ≠ j := by omega
        simp only [Array.getD_eq_getD_getElem?, Array.getElem?_setIfInBounds, e, if_false] at this ⊢
        exact this

def opsAt (ops : Array Oper) (is : List Nat) : List Oper := is.filterMap fun i => ops[i]?
def lexIs (ops : Array Oper) : List Nat → Array Bool → Bool
  | [], listed => (Region.ready .any ops listed).isEmpty
  | k :: is, listed => (Region.ready .any ops listed).contains k && Region.free .any ops listed k && lexIs ops is (listed.setIfInBounds k true)
theorem ready_op {ops : Array Oper} {listed : Array Bool} {k : Nat} (h : (Region.ready .any ops listed).contains k = true) : ∃ o, ops[k]? = some o := by
  obtain ⟨_, o, ho, _⟩ := mem_ready.1 (by simpa using h)
  exact ⟨o, ho⟩
theorem anyQ_is {ops : Array Oper} {C : World → Prop} {Q : Act → Prop} (hs : Region.noSelect ops = true) : ∀ (is : List Nat) (listed : Array Bool) (a : Act),
    lexIs ops is listed = true → wpQuiet P ops C Q (opsAt ops is) a → wpAnyQ P .any ops C Q is.length listed a
  | [], _, _, hB, h => ⟨by simpa [lexIs] using hB, h⟩
  | k :: is, listed, a, hB, h => by
    simp only [lexIs, Bool.and_eq_true] at hB
    obtain ⟨⟨hr, hf⟩, hB'⟩ := hB
    obtain ⟨o, h0⟩ := ready_op hr
    have e : opsAt ops (k :: is) = o :: opsAt ops is := by simp [opsAt, h0]
    rw [e] at h
    have hst : qOp P ops C k (wpQuiet P ops C Q (opsAt ops is)) a := by unfold qOp; simp only [h0]; exact h
    obtain ⟨v, hy, hK⟩ := yieldsIn_of_qOp h0 hst
    exact wpAnyQ_first h0 (Region.noSelect_spec hs) is.length listed a (Region.free_spec h0 hf) (by simpa using hr) hy (anyQ_is hs is _ _ hB' hK)

/-- Moves, which hang on no world: they are taken first. -/
def pureIs (ops : Array Oper) : List Nat → Array Bool → Option (Array Bool)
  | [], listed => some listed
  | k :: is, listed => match ops[k]? with
    | some o => match o.op with
      | .move _ => bif o.guard.isNone && (o.after.all fun e => !Region.binds .any e) && (Region.ready .any ops listed).contains k && Region.free .any ops listed k then pureIs ops is (listed.setIfInBounds k true) else none
      | _ => none
    | none => none
theorem any_pure {ops : Array Oper} {C : World → Prop} {Z : Act → Prop} {rest : List Oper} (hs : Region.noSelect ops = true) (hQ : ∀ c a w, ¬ Q (.panic c) a w) : ∀ (ps : List Nat) (fuel : Nat) (listed listed' : Array Bool) (a : Act) (w : World), C w →
    pureIs ops ps listed = some listed' → wpQuiet P ops C Z (opsAt ops ps ++ rest) a → (∀ a', wpQuiet P ops C Z rest a' → wpAny P .any ops Q fuel listed' a' w) → wpAny P .any ops Q (fuel + ps.length) listed a w
  | [], fuel, listed, listed', a, w, hw, hp, h, k => by
    simp only [pureIs, Option.some.injEq] at hp
    subst hp
    exact k a (by simpa [opsAt] using h)
  | p :: ps, fuel, listed, listed', a, w, hw, hp, h, k => by
    unfold pureIs at hp
    split at hp
    · rename_i o ho
      split at hp
      · rename_i x hx
        cases hc : (o.guard.isNone && (o.after.all fun e => !Region.binds .any e) && (Region.ready .any ops listed).contains p && Region.free .any ops listed p) with
        | false => rw [hc] at hp; cases hp
        | true =>
          rw [hc] at hp
          simp only [Bool.and_eq_true, Option.isNone_iff_eq_none] at hc
          obtain ⟨⟨⟨hg, haf⟩, hr⟩, hf⟩ := hc
          have e : opsAt ops (p :: ps) ++ rest = o :: (opsAt ops ps ++ rest) := by simp [opsAt, ho]
          rw [e] at h
          unfold wpQuiet at h
          rw [if_pos (wanted_none hg _)] at h
          obtain ⟨v, h1, h2⟩ := h
          have hv : v = a.eval x := by
            have := h1 w hw
            unfold Oper.quietAt at this
            unfold execOp at this
            simp only [hx, Sem.run_pure] at this
            exact this.2.symm
          subst hv
          have hy : Yields P ops o (a.eval x) a := .inl ⟨wanted_none hg _, fun w => by unfold execOp; simp [hx]⟩
          rw [show fuel + (p :: ps).length = (fuel + ps.length) + 1 by simp; omega]
          exact wpAny_first ho (Region.noSelect_spec hs) (fun c a' w' hh => absurd hh (hQ c _ w')) _ listed a w (Region.free_spec ho hf) (by simpa using hr) hy (any_pure hs hQ ps fuel _ listed' _ w hw hp h2 k)
      · cases hp
    · cases hp
theorem pureIs_spec {ops : List Oper} : ∀ (ps : List Nat) (listed listed' : Array Bool), pureIs ops.toArray ps listed = some listed' → ClosedB ops (fun j => listed.getD j false) →
    ClosedB ops (fun j => listed'.getD j false) ∧ listed'.size = listed.size ∧ (∀ j, listed.getD j false = true → listed'.getD j false = true) ∧ (listed.size = ops.length → ∀ p ∈ ps, listed'.getD p false = true) ∧ (∀ j, j ∉ ps → listed'.getD j false = listed.getD j false)
  | [], listed, listed', h, hc => by
    simp only [pureIs, Option.some.injEq] at h
    subst h
    exact ⟨hc, rfl, fun _ h => h, by simp, fun _ _ => rfl⟩
  | p :: ps, listed, listed', h, hc => by
    unfold pureIs at h
    split at h
    · rename_i o ho
      split at h
      · rename_i x hx
        cases hb : (o.guard.isNone && (o.after.all fun e => !Region.binds .any e) && (Region.ready .any ops.toArray listed).contains p && Region.free .any ops.toArray listed p) with
        | false => rw [hb] at h; cases h
        | true =>
          rw [hb] at h
          simp only [Bool.and_eq_true, Option.isNone_iff_eq_none] at hb
          obtain ⟨⟨⟨hg, haf⟩, hr⟩, hf⟩ := hb
          have ho' : ops[p]? = some o := by simpa using ho
          have hc' := closed_set (i := p) hc ho' (fun e he hbd => by
            have := (Array.all_eq_true_iff_forall_mem.1 haf) e he
            rw [hbd] at this; cases this)
          obtain ⟨h1, h2, h3, h4, h5⟩ := pureIs_spec ps _ listed' h hc'
          have hpl : p < ops.length := (List.getElem?_eq_some_iff.1 ho').1
          refine ⟨h1, by simpa using h2, fun j hj => h3 j (set_up hj), fun hsz q hq => ?_, fun j hj => ?_⟩
          · rcases List.mem_cons.1 hq with rfl | hq
            · exact h3 q (by simp [Array.getD_eq_getD_getElem?, Array.getElem?_setIfInBounds, hsz, hpl])
            · exact h4 (by simpa using hsz) q hq
          · simp only [List.mem_cons, not_or] at hj
            rw [h5 j hj.2]
            simp only [Array.getD_eq_getD_getElem?, Array.getElem?_setIfInBounds, if_neg (show ¬ p = j from fun h => hj.1 h.symm)]
      · cases h
    · cases h

def orTail (l : Array Bool) (m : Nat) : Array Bool := ((List.range l.size).map fun j => l.getD j false || Nat.ble m j).toArray
def quietIs (m : Nat) (ps : List Nat) : List Nat := (List.range m).filter fun i => !ps.contains i
def tailB (ops : List Oper) (m : Nat) (ps : List Nat) : Bool := Nat.ble m ops.length && (depsLt ops 0 && (coverB ops ps m && (Region.noSelect ops.toArray && ((ps.all (Nat.blt · m)) && (Nat.beq ((quietIs m ps).length + ps.length) m &&
  match pureIs ops.toArray ps (Array.replicate ops.length false) with
  | some l => lexIs ops.toArray (quietIs m ps) (orTail l m)
  | none => false)))))

variable {N : Nat} {K : Nat → Prop} {W w : World} {a : Act} {F : List (Nat × Value)} {L : List Asn}
/-- The operations ps are moves; the other ones of the first m turn nothing; all others stand behind them, one by one. -/
theorem x_tail [Defs] {id : Nat} {l : List Oper} (m : Nat) (ps : List Nat) (hm : P.follows .mixedOrders = true) (hB : tailB l m ps = true) (h : St N K W a w F L)
    (k : ∀ Z : Act → Prop, (∀ a', (∀ w', Sh K W w' L → wpList P l.toArray (fun e a w => match e with | .normal => Q .normal a w | _ => False) (l.drop m) a' w') → Z a') → wpQuiet P l.toArray (fun w' => Sh K W w' L) Z (opsAt l.toArray ps ++ opsAt l.toArray (quietIs m ps)) a) : (Code.region id l.toArray true).wp P Q a w := by
  simp only [tailB, Bool.and_eq_true, Nat.ble_eq] at hB
  obtain ⟨h1, h2, h3, h4, h5, h6, h7⟩ := hB
  have hpm : ∀ p ∈ ps, p < m := fun p hp => by simpa using (List.all_eq_true.1 h5) p hp
  refine Code.wp_mono (Q := fun e a w => match e with | .normal => Q .normal a w | _ => False) (fun e a w he => by cases e <;> first | exact he | exact he.elim) ?_
  refine wp_region_any hm ?_
  split at h7
  · rename_i lp hlp
    have hq := k _ (fun _ h => h)
    have hcl0 : ClosedB l (fun j => (Array.replicate l.length false).getD j false) := by
      intro i o _ hS; simp only [Array.getD_eq_getD_getElem?, Array.getElem?_replicate] at hS; split at hS <;> cases hS
    obtain ⟨c1, c2, c3, c4, c5⟩ := pureIs_spec ps _ lp hlp hcl0
    have hsz : lp.size = l.length := by simpa using c2
    have hlen : l.toArray.size = ((quietIs m ps).length + (l.length - m)) + ps.length := by
      have := Nat.eq_of_beq_eq_true h6
      simp; omega
    rw [hlen]
    rw [show Array.replicate ((quietIs m ps).length + (l.length - m) + ps.length) false = Array.replicate l.length false by rw [← hlen]; simp]
    refine any_pure (C := fun w' => Sh K W w' L) h4 (fun c a w h => h) ps _ _ lp a w.drew h.sh.drew hlp hq fun a' hq' => ?_
    have h8 := anyQ_is (P := P) h4 (quietIs m ps) _ a' h7 hq'
    have hot : ∀ j, j < l.length → (orTail lp m).getD j false = (lp.getD j false || Nat.ble m j) := by
      intro j hj
      simp [orTail, Array.getD_eq_getD_getElem?, hsz, hj]
    refine any_tail (C := fun w' => Sh K W w' L) hpm h1 h2 h3 _ lp (orTail lp m) a' w.drew h.sh.drew (c4 (by simp)) c1 hsz (by simp [orTail, hsz]) (fun j hj => ?_) (fun j hj hj2 => ?_) h8
    · rw [hot j (by omega)]
      cases hb : Nat.ble m j
      · simp
      · rw [Nat.ble_eq] at hb; omega
    · refine ⟨?_, by rw [hot j hj2, show Nat.ble m j = true by rw [Nat.ble_eq]; exact hj]; simp⟩
      rw [c5 j (fun hp => by have := hpm j hp; omega)]
      simp [Array.getD_eq_getD_getElem?, Array.getElem?_replicate, hj2]
  · cases h7
end

/-! ### Parts of slices -/
section
variable {P : Program} {o : Oper} {N : Nat} {K : Nat → Prop} {W w : World} {a : Act} {F : List (Nat × Value)} {L : List Asn} {α : Type} [Enc α]
theorem Rn.same [Defs] {v v' : Value} (h : Rn P o N K W F L v) (e : v = v') : Rn P o N K W F L v' := by subst e; exact h
/-- A call that turns nothing, in a region that draws its order. -/
theorem wq_call [Defs] {ops : Array Oper} {rest : List Oper} {Q : Act → Prop} {d f : Nat} {fo : Operand} {xs : List Operand} {tys : Array TypeId} {us vs ws : List Value} {v : Value} (h : Fr N a F) (hb : bodyI P f = true) (ho : o.op = .call ⟨.value fo, xs.toArray, tys⟩) (hf : ev F fo = some (.func (.func f) us.toArray ws.toArray))
    (hx : evs F xs = some vs) (hw : Region.wanted o (yielded ops a.tmps) = true) (hd : o.dst = some d) (hdN : Nat.blt d N = true) (hc : ∀ w, Sh K W w L → Rets P f (us ++ vs ++ ws) w (fun v' w' => v' = v ∧ Sh0 w w' []))
    (k : ∀ a', Fr N a' ((d, v) :: F) → wpQuiet P ops (fun w => Sh K W w L) Q rest a') : wpQuiet P ops (fun w => Sh K W w L) Q (o :: rest) a := by
  unfold wpQuiet
  rw [if_pos hw]
  refine ⟨v, fun w hw => ?_, k _ (by rw [hd]; exact h.put d (by simpa [Nat.blt_eq] using hdN) v)⟩
  unfold Oper.quietAt
  have hrun : (execOp a.eval o).run P w = .ok (.enter f (us ++ vs ++ ws).toArray) w := by
    unfold execOp
    simp [ho, resolve, h.ev hf, h.evs hx, Deferred.ofValue, invoke, run_callFunc hb]
  rw [hrun]
  refine ⟨rfl, Calls.mono (hc w hw) fun e w' ⟨v', he, hv', hr⟩ => ?_⟩
  subst hv'
  exact ⟨he, hw.call0 hr⟩
end
end Go.Proofs.YthdkmhaneellcaaGreatDoor
