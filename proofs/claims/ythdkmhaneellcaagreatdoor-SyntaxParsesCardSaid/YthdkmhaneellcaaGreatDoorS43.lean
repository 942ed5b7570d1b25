/-
  Regions that draw their order, whose writers stand in one chain: walked in phases. It imports nothing of the dump.
-/
import Derived.Test.YthdkmhaneellcaaGreatDoorS42
namespace Go.Proofs.YthdkmhaneellcaaGreatDoor
open Go.RowKit
set_option linter.unusedSimpArgs false
set_option linter.unusedVariables false

def slotsOf (o : Oper) : List Nat := o.op.operands.toList.filterMap fun x => match x with
  | .tmp t => some t
  | _ => none
theorem slotsOf_mem {o : Oper} {t : Nat} (h : Operand.tmp t ∈ o.op.operands) : t ∈ slotsOf o := List.mem_filterMap.2 ⟨.tmp t, by simpa using h, rfl⟩
/-- The slots are filled in. -/
def fill (a : Act) : List (Nat × Value) → Act
  | [] => a
  | (t, v) :: F => (fill a F).put (some t) v
section
variable {P : Program} {N : Nat} {K : Nat → Prop} {W w : World} {a : Act} {F F' : List (Nat × Value)} {L : List Asn} {o : Oper} {l os : List Oper} {ops : Array Oper} {Q : Exit → Act → World → Prop}
theorem fill_size : ∀ F : List (Nat × Value), (fill a F).tmps.size = a.tmps.size
  | [] => rfl
  | (t, v) :: F => by simp [fill, Act.put, fill_size F]
theorem fill_defers : ∀ F : List (Nat × Value), (fill a F).defers = a.defers
  | [] => rfl
  | (t, v) :: F => by simp [fill, Act.put, fill_defers F]
theorem fill_at [Defs] : ∀ {F : List (Nat × Value)}, (∀ x ∈ F, x.1 < a.tmps.size) → ∀ t v, lk F t = some v → (fill a F).tmps[t]? = some v
  | [], _, _, _, h => by cases h
  | (u, x) :: F, hF, t, v, h => by
    rw [lk_cons] at h
    simp only [fill, Act.put, Array.getElem?_setIfInBounds]
    by_cases e : u = t
    · subst e
      have := hF _ List.mem_cons_self
      simp only [if_true] at h
      cases h
      simp [fill_size, this]
    · rw [if_neg e] at h ⊢
      exact fill_at (fun x hx => hF x (List.mem_cons_of_mem _ hx)) t v h
theorem fill_ne : ∀ {F : List (Nat × Value)} {t : Nat}, lk F t = none → (fill a F).tmps[t]? = a.tmps[t]?
  | [], _, _ => rfl
  | (u, x) :: F, t, h => by
    rw [lk_cons] at h
    by_cases e : u = t
    · simp [e] at h
    · rw [if_neg e] at h
      simp only [fill, Act.put, Array.getElem?_setIfInBounds, if_neg e]
      exact fill_ne h
theorem fill_fr [Defs] (hs : a.tmps.size = N) (hd : a.defers = Defs.d) (hF : ∀ x ∈ F, x.1 < N) : Fr N (fill a F) F := ⟨by rw [fill_size, hs], by rw [fill_defers]; exact hd, fill_at (by rw [hs]; exact hF)⟩
theorem fill_eval [Defs] (hF : ∀ x ∈ F, x.1 < a.tmps.size) (h : ∀ t ∈ slotsOf o, ∀ v, lk F t = some v → a.tmps[t]? = some v) : ∀ x ∈ o.op.operands, (fill a F).eval x = a.eval x := by
  intro x hx
  cases x with
  | tmp t =>
    simp only [Act.eval, Array.getD_eq_getD_getElem?]
    cases hl : lk F t with
    | none => rw [fill_ne hl]
    | some v => rw [fill_at hF t v hl, h t (slotsOf_mem hx) v hl]
  | const c => rfl
  | global g => rfl
  | func f => rfl
def noSel (o : Oper) : Bool := match o.op with
  | .select _ _ => false
  | _ => true
theorem noSel_ne (h : noSel o = true) : ∀ cs b, o.op ≠ .select cs b := by
  intro cs b e
  simp [noSel, e] at h

/-- What a run says of each of its operations. -/
structure PhF [Defs] (P : Program) (N : Nat) (K : Nat → Prop) (W : World) (L : List Asn) (F : List (Nat × Value)) (o : Oper) (d : Nat) (v : Value) : Prop where
  dst : o.dst = some d
  lt : d < N
  at_ : lk F d = some v
  run : ∀ (a : Act) (w : World), a.tmps.size = N → a.defers = Defs.d → (∀ t ∈ slotsOf o, ∀ u, lk F t = some u → a.tmps[t]? = some u) → Sh K W w L → (execOp a.eval o).run P w = .ok (.value v) w
/-- No operation writes what an earlier one, or itself, uses or yields. -/
def ordB : List Oper → Bool
  | [] => true
  | o :: r => noSel o && o.guard.isNone && ((o :: r).all fun x => match x.dst with
    | some d => (slotsOf o).all fun t => !Nat.beq d t
    | none => true) && (r.all fun x => match x.dst, o.dst with
    | some d, some e => !Nat.beq d e
    | _, _ => true) && ordB r
theorem Runs.keep [Defs] (r : Runs P ops N K W L os F [] F') : ∀ t, (∀ o ∈ os, o.dst ≠ some t) → lk F' t = lk F t := by
  generalize hr : ([] : List Oper) = rest at r
  induction r with
  | nl => intros; rfl
  | cn _ _ hd _ _ ih =>
    intro t ht
    rw [ih hr t fun o ho => ht o (List.mem_cons_of_mem _ ho), lk_cons, if_neg fun e => ht _ List.mem_cons_self (by rw [hd, e])]
  | sk _ hd _ _ ih =>
    intro t ht
    rw [ih hr t fun o ho => ht o (List.mem_cons_of_mem _ ho), lk_cons, if_neg fun e => ht _ List.mem_cons_self (by rw [hd, e])]
theorem Runs.fN [Defs] {rest : List Oper} (r : Runs P ops N K W L os F rest F') : (∀ x ∈ F, x.1 < N) → ∀ x ∈ F', x.1 < N := by
  induction r with
  | nl => exact id
  | cn _ _ _ hN _ ih => exact fun h => ih fun x hx => (List.mem_cons.1 hx).elim (fun e => by rw [e]; simpa [Nat.blt_eq] using hN) (h x)
  | sk _ _ hN _ ih => exact fun h => ih fun x hx => (List.mem_cons.1 hx).elim (fun e => by rw [e]; simpa [Nat.blt_eq] using hN) (h x)
theorem Runs.pf [Defs] {a0 : Act} (h0 : a0.tmps.size = N) (h1 : a0.defers = Defs.d) (r : Runs P ops N K W L os F [] F') : ordB os = true → (∀ x ∈ F, x.1 < N) → ∀ o ∈ os, ∃ d v, PhF P N K W L F' o d v := by
  generalize hr : ([] : List Oper) = rest at r
  induction r with
  | nl => intro _ _ o ho; subst hr; cases ho
  | cn hrn hw hd hN k ih =>
    subst hr
    rename_i o l F F' d v
    intro hB hF x hx
    simp only [ordB, Bool.and_eq_true] at hB
    obtain ⟨⟨⟨⟨hs, hg⟩, hu⟩, hdd⟩, hB⟩ := hB
    have hN' : d < N := by simpa [Nat.blt_eq] using hN
    have hF2 : ∀ x ∈ (d, v) :: F, x.1 < N := fun x hx => (List.mem_cons.1 hx).elim (fun e => by rw [e]; exact hN') (hF x)
    rcases List.mem_cons.1 hx with rfl | hx
    · have hno : ∀ t ∈ slotsOf x, ∀ y ∈ x :: l, y.dst ≠ some t := by
        intro t ht y hy e
        have := List.all_eq_true.1 hu y hy
        rw [e] at this
        have := List.all_eq_true.1 this t ht
        simp at this
      refine ⟨d, v, hd, hN', ?_, fun a w hsz hdf hsl hsh => ?_⟩
      · rw [k.keep d fun y hy e => ?_, lk_cons, if_pos rfl]
        have := List.all_eq_true.1 hdd y hy
        rw [e, hd] at this
        simp at this
      · have hev := fill_eval (a := a) (F := F) (o := x) (by rw [hsz]; exact hF) fun t ht u hu => hsl t ht u (by
          rw [k.keep t fun y hy => hno t ht y (List.mem_cons_of_mem _ hy), lk_cons, if_neg fun e => hno t ht x List.mem_cons_self (by rw [hd, e])]; exact hu)
        have := hrn (fill a F) w ⟨fill_fr hsz hdf hF, hsh⟩
        rwa [execOp_congr x (noSel_ne hs) hev] at this
    · exact ih rfl hB hF2 x hx
  | sk hw hd hN k ih =>
    intro hB hF x hx
    rename_i o l F F' d
    simp only [ordB, Bool.and_eq_true] at hB
    obtain ⟨⟨⟨⟨hs, hg⟩, hu⟩, hdd⟩, hB⟩ := hB
    have := hw _ (fill_fr h0 h1 hF)
    rw [wanted_none (by simpa using hg)] at this
    cases this

/-- The operation is carried out, or throws. -/
def ExP (P : Program) (o : Oper) (a : Act) (w : World) (R : Act → World → Prop) (X : Value → World → Prop) : Prop := ∀ (next : Act → World → Prop) (Q : Exit → Act → World → Prop), (∀ a' w', R a' w' → next a' w') → (∀ x w', X x w' → Q (.panic [{ v := x, recovered := false }]) a w') → o.wp P a w next Q
theorem Ex.toP {R : Act → World → Prop} {X : Value → World → Prop} (h : Ex P o a w R) : ExP P o a w R X := fun next Q hn _ => h next Q hn
/-- The operation is carried out in a state whose slots differ, but not in what it uses. -/
theorem ExP.move {b : Act} {R : Act → World → Prop} {X : Value → World → Prop} (h : ExP P o b w R X) (he : execOp b.eval o = execOp a.eval o) : ExP P o a w (fun a' w' => ∃ b', R b' w' ∧ (∃ v, b'.tmps = (b.put o.dst v).tmps ∧ a'.tmps = (a.put o.dst v).tmps) ∧ (b.defers = a.defers → a'.defers = b'.defers)) X := by
  intro next Q hn hnx
  have h1 := h R (fun e _ w => Q e a w) (fun _ _ h => h) hnx
  unfold Oper.wp at h1 ⊢
  rw [he] at h1
  generalize (execOp a.eval o).run P w = r at h1 ⊢
  have hdf : ∀ (a : Act) v, (a.put o.dst v).defers = a.defers := fun a v => by cases o.dst <;> rfl
  cases r with
  | halt x w' => cases x <;> exact h1
  | ok n w' =>
    cases n
    case value v => exact hn _ _ ⟨_, h1, ⟨v, rfl, rfl⟩, fun e => by rw [hdf, hdf, e]⟩
    case skip => exact hn _ _ ⟨_, h1, ⟨undef, rfl, rfl⟩, fun e => by rw [hdf, hdf, e]⟩
    case defer d => exact hn _ _ ⟨_, h1, ⟨undef, by cases o.dst <;> rfl, by cases o.dst <;> rfl⟩, fun e => by cases o.dst <;> simp [Act.put, e]⟩
    case enter f args =>
      refine Calls.mono h1 fun e w'' he => ?_
      cases e with
      | returned v => exact hn _ _ ⟨_, he, ⟨v, rfl, rfl⟩, fun e => by rw [hdf, hdf, e]⟩
      | panicked c => exact he
      | outgrown => obtain ⟨_, w3, h3⟩ := he; exact ⟨_, w3, h3⟩
    case row r args => exact Rows.mono h1 fun v w'' he => hn _ _ ⟨_, he, ⟨v, rfl, rfl⟩, fun e => by rw [hdf, hdf, e]⟩
    all_goals exact h1

/-! ### Phases -/
def pickO (l : List Oper) : List Nat → Option (List Oper)
  | [] => some []
  | i :: r => match l[i]? with
    | some o => match pickO l r with
      | some os => some (o :: os)
      | none => none
    | none => none
theorem pickO_mem : ∀ {is : List Nat} {os : List Oper}, pickO l is = some os → (∀ o ∈ os, ∃ i ∈ is, l[i]? = some o) ∧ ∀ i ∈ is, ∃ o ∈ os, l[i]? = some o
  | [], os, h => by cases h; exact ⟨fun o ho => (by cases ho), fun o ho => (by cases ho)⟩
  | i :: r, os, h => by
    unfold pickO at h
    split at h
    · rename_i o ho
      split at h
      · rename_i os' hos
        cases h
        obtain ⟨h1, h2⟩ := pickO_mem hos
        refine ⟨fun x hx => ?_, fun j hj => ?_⟩
        · rcases List.mem_cons.1 hx with rfl | hx
          · exact ⟨i, List.mem_cons_self, ho⟩
          · obtain ⟨j, hj, e⟩ := h1 x hx
            exact ⟨j, List.mem_cons_of_mem _ hj, e⟩
        · rcases List.mem_cons.1 hj with rfl | hj
          · exact ⟨o, List.mem_cons_self, ho⟩
          · obtain ⟨x, hx, e⟩ := h2 j hj
            exact ⟨x, List.mem_cons_of_mem _ hx, e⟩
      · cases h
    · cases h
/-- Which operations may come up now. -/
def availB (l : List Oper) (ws done rem is : List Nat) : Bool := (List.range l.length).all fun i => ws.any (Nat.beq i) || is.any (Nat.beq i) || (rem.any fun w => ancB l i w) || done.any fun w => ancB l w i
def operB (l : List Oper) (o : Oper) : Bool := (slotsOf o).all fun t => (l.all fun x => match x.dst with
    | some d => !Nat.beq d t
    | none => true) || o.after.any fun e => Region.binds .any e && match l[e.on]? with
  | some x => (match x.dst with
    | some d => Nat.beq d t
    | none => false)
  | none => false
def noneB (l : List Oper) (t : Nat) : Prop := ∀ o ∈ l, o.dst ≠ some t
def dstB : List Oper → Bool
  | [] => true
  | o :: r => (r.all fun x => match x.dst, o.dst with
    | some d, some e => !Nat.beq d e
    | _, _ => true) && dstB r
theorem dstB_at : ∀ {l : List Oper} {i j : Nat} {x y : Oper} {d : Nat}, dstB l = true → l[i]? = some x → l[j]? = some y → x.dst = some d → y.dst = some d → i = j
  | [], i, _, _, _, _, _, h, _, _, _ => by simp at h
  | o :: r, i, j, x, y, d, hB, hi, hj, hx, hy => by
    simp only [dstB, Bool.and_eq_true] at hB
    match i, j with
    | 0, 0 => rfl
    | i + 1, j + 1 =>
      rw [List.getElem?_cons_succ] at hi hj
      exact congrArg (· + 1) (dstB_at hB.2 hi hj hx hy)
    | 0, j + 1 =>
      simp only [List.getElem?_cons_zero, Option.some.injEq, List.getElem?_cons_succ] at hi hj
      subst hi
      have := List.all_eq_true.1 hB.1 y (List.mem_of_getElem? hj)
      rw [hx, hy] at this
      simp at this
    | i + 1, 0 =>
      simp only [List.getElem?_cons_zero, Option.some.injEq, List.getElem?_cons_succ] at hi hj
      subst hj
      have := List.all_eq_true.1 hB.1 x (List.mem_of_getElem? hi)
      rw [hx, hy] at this
      simp at this
def chainB (l : List Oper) : List Nat → Bool
  | [] => true
  | w :: ws => (ws.all fun x => ancB l x w && !Nat.beq x w) && chainB l ws
/-- The region is of the kind. -/
def regB (l : List Oper) (ws : List Nat) : Bool := depsLt l 0 && dstB l && (l.all fun o => noSel o && o.guard.isNone && operB l o) && chainB l ws
def agA (F F' : List (Nat × Value)) (os : List Oper) : List (Option Value) := os.map fun o => match o.dst with
  | some d => (match lk F d with
    | some _ => lk F' d
    | none => none)
  | none => none
def agB (F : List (Nat × Value)) (os : List Oper) : List (Option Value) := os.map fun o => match o.dst with
  | some d => (match lk F d with
    | some v => some v
    | none => none)
  | none => none
theorem ag_at (h : agA F F' os = agB F os) (ho : o ∈ os) {d : Nat} {v : Value} (hd : o.dst = some d) (hv : lk F d = some v) : lk F' d = some v := by
  obtain ⟨i, hi⟩ := List.getElem?_of_mem ho
  have := congrArg (fun l => l[i]?) h
  simp only [agA, agB, List.getElem?_map, hi, Option.map_some, hd, hv] at this
  exact Option.some.inj this
def okF (o : Oper) (F F2 : List (Nat × Value)) : Prop := match o.dst with
  | some d => ∃ v, F2 = (d, v) :: F
  | none => F2 = F
/-- The slots that no operation of the region fills. -/
def outF (l : List Oper) (F : List (Nat × Value)) : List (Nat × Value) := F.filter fun x => l.all fun o => match o.dst with
  | some d => !Nat.beq d x.1
  | none => true
theorem outF_lk {l : List Oper} {t : Nat} {v : Value} : ∀ {F : List (Nat × Value)}, lk (outF l F) t = some v → lk F t = some v ∧ noneB l t
  | [], h => by cases h
  | (u, y) :: F, h => by
    by_cases hu : (l.all fun o => match o.dst with | some d => !Nat.beq d u | none => true) = true
    · have e : outF l ((u, y) :: F) = (u, y) :: outF l F := List.filter_cons_of_pos hu
      rw [e, lk_cons] at h
      rw [lk_cons]
      by_cases e2 : u = t
      · rw [if_pos e2] at h ⊢
        refine ⟨h, fun o ho e3 => ?_⟩
        have h9 := List.all_eq_true.1 hu o ho
        rw [e3, ← e2] at h9
        simp at h9
      · rw [if_neg e2] at h ⊢
        exact outF_lk h
    · have e : outF l ((u, y) :: F) = outF l F := List.filter_cons_of_neg hu
      rw [e] at h
      obtain ⟨h1, h2⟩ := outF_lk h
      refine ⟨?_, h2⟩
      rw [lk_cons, if_neg]
      · exact h1
      · rintro rfl
        refine hu (List.all_eq_true.2 fun o ho => ?_)
        have h9 := h2 o ho
        cases hd : o.dst with
        | none => rfl
        | some d => rw [hd] at h9; simp only [Bool.not_eq_true']; exact beq_no fun e => h9 (by rw [e])
/-- What a throw within the region has to show. -/
def XQ [Defs] (l : List Oper) (N : Nat) (Q : Exit → Act → World → Prop) (F : List (Nat × Value)) (x : Value) (w : World) : Prop := ∀ a, Fr N a (outF l F) → Q (.panic [{ v := x, recovered := false }]) a w
/-- What is to be shown, from a phase on: the writers that are done, those to come. -/
def PhH [Defs] (P : Program) (l : List Oper) (N : Nat) (K : Nat → Prop) (W : World) (Q : Exit → Act → World → Prop) (ws : List Nat) (done : List Nat) : List Nat → List Asn → List (Nat × Value) → Prop
  | [], L, F => ∃ is os F', pickO l is = some os ∧ (availB l ws done [] is && ordB os && is.all fun i => !ws.any (Nat.beq i)) = true ∧ Runs P l.toArray N K W L os F [] F' ∧ agA F F' os = agB F os ∧ ∀ a w, St N K W a w F' L → Q .normal a w
  | i :: rem, L, F => ∃ is os F' o, pickO l is = some os ∧ (availB l ws done (i :: rem) is && ordB os && is.all fun i => !ws.any (Nat.beq i)) = true ∧ Runs P l.toArray N K W L os F [] F' ∧ agA F F' os = agB F os ∧ l[i]? = some o ∧
    ∀ a w, St N K W a w F' L → ExP P o a w (fun a' w' => ∃ F2 L2, St N K W a' w' F2 L2 ∧ okF o F' F2 ∧ PhH P l N K W Q ws (i :: done) rem L2 F2) (XQ l N Q F')
/-- In the midst of a phase. -/
structure PhX [Defs] (P : Program) (l : List Oper) (N : Nat) (K : Nat → Prop) (W : World) (Q : Exit → Act → World → Prop) (ws done rem : List Nat) (L : List Asn) (F : List (Nat × Value)) : Prop where
  fN : ∀ x ∈ F, x.1 < N
  pf : ∀ i o, l[i]? = some o → ws.any (Nat.beq i) = false → (rem.any fun w => ancB l i w) = false → (done.any fun w => ancB l w i) = false → ∃ d v, PhF P N K W L F o d v
  fin : rem = [] → ∀ a w, St N K W a w F L → Q .normal a w
  nxt : ∀ i r, rem = i :: r → ∃ o, l[i]? = some o ∧ ∀ a w, St N K W a w F L → ExP P o a w (fun a' w' => ∃ F2 L2, St N K W a' w' F2 L2 ∧ okF o F F2 ∧ PhH P l N K W Q ws (i :: done) r L2 F2) (XQ l N Q F)
structure PhJ [Defs] (l : List Oper) (N : Nat) (K : Nat → Prop) (W : World) (done rem : List Nat) (L : List Asn) (F : List (Nat × Value)) (S : Nat → Bool) (a : Act) (w : World) : Prop where
  dn : ∀ i ∈ done, S i = true
  rm : ∀ i ∈ rem, S i = false
  sz : a.tmps.size = N
  df : a.defers = Defs.d
  out : ∀ t v, noneB l t → lk F t = some v → a.tmps[t]? = some v
  ins : ∀ i o t, l[i]? = some o → o.dst = some t → S i = true → ∃ v, lk F t = some v ∧ a.tmps[t]? = some v
  sh : Sh K W w L
theorem PhH.enter [Defs] {ws done rem : List Nat} {S : Nat → Bool} (hdB : dstB l = true) (h : PhH P l N K W Q ws done rem L F) (hF : ∀ x ∈ F, x.1 < N) (j : PhJ l N K W done rem L F S a w) : ∃ F', PhX P l N K W Q ws done rem L F' ∧ PhJ l N K W done rem L F' S a w := by
  have key : ∀ (is : List Nat) (os : List Oper) (F' : List (Nat × Value)), pickO l is = some os → (availB l ws done rem is && ordB os && is.all fun i => !ws.any (Nat.beq i)) = true → Runs P l.toArray N K W L os F [] F' → agA F F' os = agB F os →
      PhJ l N K W done rem L F' S a w ∧ ∀ i o, l[i]? = some o → ws.any (Nat.beq i) = false → (rem.any fun w => ancB l i w) = false → (done.any fun w => ancB l w i) = false → ∃ d v, PhF P N K W L F' o d v := by
    intro is os F' hp hB hr ha
    simp only [Bool.and_eq_true] at hB
    obtain ⟨⟨hav, hor⟩, _⟩ := hB
    obtain ⟨hm1, hm2⟩ := pickO_mem hp
    refine ⟨⟨j.dn, j.rm, j.sz, j.df, fun t v ht hv => ?_, fun i o t hi ho hS => ?_, j.sh⟩, fun i o hi h1 h2 h3 => ?_⟩
    · rw [hr.keep t fun o ho e => ?_] at hv
      · exact j.out t v ht hv
      · obtain ⟨q, _, hq⟩ := hm1 o ho
        exact ht o (List.mem_of_getElem? hq) e
    · obtain ⟨v, hv, hat⟩ := j.ins i o t hi ho hS
      refine ⟨v, ?_, hat⟩
      by_cases hos : o ∈ os
      · exact ag_at ha hos ho hv
      · rw [hr.keep t fun x hx e => ?_]
        · exact hv
        · obtain ⟨q, _, hq⟩ := hm1 x hx
          have := dstB_at hdB hi hq ho e
          subst this
          rw [hi] at hq
          cases hq
          exact hos hx
    · have hlt : i < l.length := (List.getElem?_eq_some_iff.1 hi).1
      have := List.all_eq_true.1 hav i (List.mem_range.2 hlt)
      rw [h1, h2, h3, Bool.false_or, Bool.or_false, Bool.or_false] at this
      obtain ⟨z, hz, h4⟩ := List.any_eq_true.1 this
      cases Nat.eq_of_beq_eq_true h4
      obtain ⟨x, hx, hix⟩ := hm2 i hz
      rw [hi] at hix
      cases hix
      exact hr.pf j.sz j.df hor hF o hx
  cases rem with
  | nil =>
    obtain ⟨is, os, F', hp, hB, hr, ha, hQ⟩ := h
    obtain ⟨h1, h2⟩ := key is os F' hp hB hr ha
    exact ⟨F', ⟨hr.fN hF, h2, fun _ => hQ, fun _ _ e => (by cases e)⟩, h1⟩
  | cons i rem =>
    obtain ⟨is, os, F', o, hp, hB, hr, ha, ho, hx⟩ := h
    obtain ⟨h1, h2⟩ := key is os F' hp hB hr ha
    exact ⟨F', ⟨hr.fN hF, h2, fun e => (by cases e), fun _ _ e => (by cases e; exact ⟨o, ho, hx⟩)⟩, h1⟩

theorem anc_ready {S : Nat → Bool} {i j : Nat} (hcl : ClosedB l S) (ho : l[i]? = some o) (hdep : ∀ e ∈ o.after, Region.binds .any e = true → S e.on = true) (h : ancB l i j = true) : j = i ∨ S j = true := by
  have hcl2 : ClosedB l (upd S i) := by
    intro q oq hq hS e he hb
    by_cases e1 : q = i
    · subst e1
      rw [ho] at hq
      cases hq
      exact upd_true (hdep e he hb)
    · rw [upd_ne (beq_no e1)] at hS
      exact upd_true (hcl q oq hq hS e he hb)
  have := cA hcl2 i j h (upd_self S i)
  by_cases e : j = i
  · exact .inl e
  · rw [upd_ne (beq_no e)] at this
    exact .inr this
/-- The region, its writers standing in one chain. -/
theorem rC [Defs] {id : Nat} (ws : List Nat) (hF : (F.all fun x => Nat.blt x.1 N) = true) (hx : PhH P l N K W Q ws [] ws L F) (hm : P.follows .mixedOrders = true := by kernel_rfl) (hB : regB l ws = true := by kernel_rfl) : ∀ a w, St N K W a w F L → (Code.region id l.toArray true).wp P Q a w := by
  intro a w h
  simp only [regB, Bool.and_eq_true] at hB
  obtain ⟨⟨⟨hdl, hdB⟩, hall⟩, hch⟩ := hB
  have hop : ∀ o ∈ l, noSel o = true ∧ o.guard = none ∧ operB l o = true := by
    intro o ho
    have := List.all_eq_true.1 hall o ho
    simp only [Bool.and_eq_true, Option.isNone_iff_eq_none] at this
    exact ⟨this.1.1, this.1.2, this.2⟩
  have hFN : ∀ x ∈ F, x.1 < N := fun x hx => by simpa [Nat.blt_eq] using List.all_eq_true.1 hF x hx
  have hsl : ∀ {done rem : List Nat} {L : List Asn} {F : List (Nat × Value)} {S : Nat → Bool} {a : Act} {w : World} {o : Oper}, PhJ l N K W done rem L F S a w → o ∈ l → (∀ e ∈ o.after, Region.binds .any e = true → S e.on = true) → ∀ t ∈ slotsOf o, ∀ v, lk F t = some v → a.tmps[t]? = some v := by
    intro done rem L F S a w o j ho hdep t ht v hv
    have := List.all_eq_true.1 (hop o ho).2.2 t ht
    rw [Bool.or_eq_true] at this
    rcases this with h1 | h1
    · refine j.out t v (fun x hx e => ?_) hv
      have := List.all_eq_true.1 h1 x hx
      rw [e] at this
      simp at this
    · obtain ⟨k, hk, h2⟩ := Array.any_eq_true.1 h1
      simp only [Bool.and_eq_true] at h2
      obtain ⟨hb, h2⟩ := h2
      split at h2
      · rename_i x hx
        split at h2
        · rename_i d hd
          rw [Nat.eq_of_beq_eq_true h2] at hd
          obtain ⟨u, hu, hat⟩ := j.ins _ x t hx hd (hdep _ (Array.getElem_mem hk) hb)
          rw [hv] at hu
          cases hu
          exact hat
        · cases h2
      · cases h2
  refine x_any (fun S a w => ∃ done rem L F, (∀ i ∈ ws, i ∈ done ∨ i ∈ rem) ∧ (∀ i, i ∈ done ∨ i ∈ rem → i ∈ ws) ∧ chainB l rem = true ∧ PhX P l N K W Q ws done rem L F ∧ PhJ l N K W done rem L F S a w) hm hdl ?_ ?_ ?_
  · obtain ⟨F', h1, h2⟩ := hx.enter (S := fun _ => false) (a := a) (w := w.drew) hdB hFN ⟨fun i hi => (by cases hi), fun _ _ => rfl, h.fr.size, h.fr.defers, fun t v _ hv => h.fr.at_ t v hv, fun _ _ _ _ _ hS => (by cases hS), h.sh.drew⟩
    exact ⟨[], ws, L, F', fun i hi => .inr hi, fun i hi => hi.elim (fun h => by cases h) (fun h => h), hch, h1, h2⟩
  · rintro S i o ho hSi hcl hdep a w ⟨done, rem, L, F, hw1, hw2, hchr, px, j⟩
    have hol := List.mem_of_getElem? ho
    obtain ⟨hns, hg, _⟩ := hop o hol
    have hslo := hsl j hol hdep
    by_cases hir : i ∈ rem
    · -- a writer: it is the next one
      cases rem with
      | nil => cases hir
      | cons i0 r =>
        simp only [chainB, Bool.and_eq_true] at hchr
        have hi0 : i = i0 := by
          rcases List.mem_cons.1 hir with e | hr
          · exact e
          · exfalso
            have := List.all_eq_true.1 hchr.1 i hr
            simp only [Bool.and_eq_true, Bool.not_eq_true'] at this
            rcases anc_ready hcl ho hdep this.1 with e | e
            · rw [e] at this; simp at this
            · rw [j.rm i0 List.mem_cons_self] at e; cases e
        subst hi0
        obtain ⟨o', ho', hx⟩ := px.nxt i r rfl
        rw [ho] at ho'
        cases ho'
        have hF2 : ∀ x ∈ F, x.1 < a.tmps.size := by rw [j.sz]; exact px.fN
        have hev := fill_eval (o := o) hF2 hslo
        have hEx := (hx (fill a F) w ⟨fill_fr j.sz j.df px.fN, j.sh⟩).move (execOp_congr o (noSel_ne hns) hev)
        unfold StepOK
        rw [if_pos (wanted_none hg _)]
        refine hEx _ _ ?_ fun x w' hX => hX a ⟨j.sz, j.df, fun t v h9 => j.out t v (outF_lk h9).2 (outF_lk h9).1⟩
        rintro a' w' ⟨b', ⟨F2, L2, hst, hok, hph⟩, ⟨v, hb, ha⟩, hdf⟩
        have hsz' : a'.tmps.size = N := by rw [ha]; cases o.dst <;> simp [Act.put, j.sz]
        have hF2N : ∀ x ∈ F2, x.1 < N := by
          unfold okF at hok
          split at hok
          · rename_i d hd
            obtain ⟨v2, rfl⟩ := hok
            intro x hx
            rcases List.mem_cons.1 hx with rfl | hx
            · have h1 := hst.fr.at_ d v2 (by rw [lk_cons, if_pos rfl])
              obtain ⟨h2, _⟩ := Array.getElem?_eq_some_iff.1 h1
              rw [hst.fr.size] at h2
              exact h2
            · exact px.fN x hx
          · rw [hok]; exact px.fN
        have hoth : ∀ t, o.dst ≠ some t → lk F2 t = lk F t ∧ a'.tmps[t]? = a.tmps[t]? := by
          intro t ht
          refine ⟨?_, ?_⟩
          · unfold okF at hok
            split at hok
            · rename_i d hd
              obtain ⟨v2, rfl⟩ := hok
              rw [lk_cons, if_neg fun e => ht (by rw [hd, e])]
            · rw [hok]
          · rw [ha]
            cases hd : o.dst with
            | none => rfl
            | some d =>
              simp only [Act.put, Array.getElem?_setIfInBounds]
              rw [if_neg fun e => ht (by rw [hd, e])]
        have hJ : PhJ l N K W (i :: done) r L2 F2 (upd S i) a' w' := by
          refine ⟨fun q hq => ?_, fun q hq => ?_, hsz', (hdf (fill_defers _)).trans hst.fr.defers, fun t u ht hu => ?_, fun q x t hq hxd hS => ?_, hst.sh⟩
          · rcases List.mem_cons.1 hq with rfl | hq
            · exact upd_self _ _
            · exact upd_true (j.dn q hq)
          · have h1 := List.all_eq_true.1 hchr.1 q hq
            simp only [Bool.and_eq_true, Bool.not_eq_true'] at h1
            rw [upd_ne h1.2]
            exact j.rm q (List.mem_cons_of_mem _ hq)
          · obtain ⟨h1, h2⟩ := hoth t (ht o hol)
            rw [h2]
            rw [h1] at hu
            exact j.out t u ht hu
          · by_cases e : q = i
            · subst e
              rw [ho] at hq
              cases hq
              unfold okF at hok
              rw [hxd] at hok
              obtain ⟨v2, rfl⟩ := hok
              have h1 := hst.fr.at_ t v2 (by rw [lk_cons, if_pos rfl])
              refine ⟨v2, by rw [lk_cons, if_pos rfl], ?_⟩
              have hlt : t < N := hF2N _ List.mem_cons_self
              rw [hb, hxd] at h1
              rw [ha, hxd]
              simp only [Act.put, Array.getElem?_setIfInBounds, if_true, fill_size, j.sz, hlt] at h1 ⊢
              exact h1
            · rw [upd_ne (beq_no e)] at hS
              have hne : o.dst ≠ some t := fun h2 => e (dstB_at hdB hq ho hxd h2)
              obtain ⟨h1, h2⟩ := hoth t hne
              rw [h1, h2]
              exact j.ins q x t hq hxd hS
        obtain ⟨F3, h1, h2⟩ := hph.enter hdB hF2N hJ
        refine ⟨i :: done, r, L2, F3, fun q hq => ?_, fun q hq => ?_, hchr.2, h1, h2⟩
        · rcases hw1 q hq with h3 | h3
          · exact .inl (List.mem_cons_of_mem _ h3)
          · rcases List.mem_cons.1 h3 with rfl | h3
            · exact .inl List.mem_cons_self
            · exact .inr h3
        · rcases hq with hq | hq
          · rcases List.mem_cons.1 hq with rfl | hq
            · exact hw2 _ (.inr List.mem_cons_self)
            · exact hw2 _ (.inl hq)
          · exact hw2 _ (.inr (List.mem_cons_of_mem _ hq))
    · -- none that writes
      have hiw : ws.any (Nat.beq i) = false := by
        cases hb : ws.any (Nat.beq i) with
        | false => rfl
        | true =>
          obtain ⟨z, hz, h3⟩ := List.any_eq_true.1 hb
          cases Nat.eq_of_beq_eq_true h3
          rcases hw1 i hz with h4 | h4
          · rw [j.dn i h4] at hSi; cases hSi
          · exact absurd h4 hir
      have h2 : (rem.any fun w => ancB l i w) = false := by
        cases hb : rem.any fun w => ancB l i w with
        | false => rfl
        | true =>
          obtain ⟨z, hz, h3⟩ := List.any_eq_true.1 hb
          rcases anc_ready hcl ho hdep h3 with e | e
          · rw [e] at hz; exact absurd hz hir
          · rw [j.rm z hz] at e; cases e
      have h3 : (done.any fun w => ancB l w i) = false := by
        cases hb : done.any fun w => ancB l w i with
        | false => rfl
        | true =>
          obtain ⟨z, hz, h3⟩ := List.any_eq_true.1 hb
          rw [cA hcl z i h3 (j.dn z hz)] at hSi
          cases hSi
      obtain ⟨d, v, pf⟩ := px.pf i o ho hiw h2 h3
      unfold StepOK
      rw [if_pos (wanted_none hg _)]
      unfold Oper.wp
      rw [pf.run a w j.sz j.df hslo j.sh]
      show ∃ done rem L F, _
      refine ⟨done, rem, L, F, hw1, hw2, hchr, px, fun q hq => upd_true (j.dn q hq), fun q hq => ?_, ?_, ?_, fun t u ht hu => ?_, fun q x t hq hxd hS => ?_, j.sh⟩
      · rw [upd_ne (beq_no fun e => hir (by rw [← e]; exact hq))]
        exact j.rm q hq
      · rw [pf.dst]; simp [Act.put, j.sz]
      · rw [pf.dst]; exact j.df
      · have hne : d ≠ t := fun e => ht o hol (by rw [pf.dst, e])
        rw [pf.dst]
        simp only [Act.put, Array.getElem?_setIfInBounds, if_neg hne]
        exact j.out t u ht hu
      · by_cases e : q = i
        · subst e
          rw [ho] at hq
          cases hq
          rw [pf.dst] at hxd
          cases hxd
          refine ⟨v, pf.at_, ?_⟩
          rw [pf.dst]
          simp [Act.put, Array.getElem?_setIfInBounds, j.sz, pf.lt]
        · rw [upd_ne (beq_no e)] at hS
          obtain ⟨u, hu, hat⟩ := j.ins q x t hq hxd hS
          refine ⟨u, hu, ?_⟩
          have hne : d ≠ t := fun e2 => e (dstB_at hdB hq ho hxd (by rw [pf.dst, e2]))
          rw [pf.dst]
          simp only [Act.put, Array.getElem?_setIfInBounds, if_neg hne]
          exact hat
  · rintro S hall a w ⟨done, rem, L, F, hw1, hw2, hchr, px, j⟩
    have hrem : rem = [] := by
      cases rem with
      | nil => rfl
      | cons i r =>
        obtain ⟨o, ho, _⟩ := px.nxt i r rfl
        have := hall i (List.getElem?_eq_some_iff.1 ho).1
        rw [j.rm i List.mem_cons_self] at this
        cases this
    refine px.fin hrem a w ⟨⟨j.sz, j.df, fun t v hv => ?_⟩, j.sh⟩
    by_cases hn : noneB l t
    · exact j.out t v hn hv
    · have : ∃ o, o ∈ l ∧ o.dst = some t := by
        apply Classical.byContradiction
        intro h1
        exact hn fun o ho e => h1 ⟨o, ho, e⟩
      obtain ⟨o, ho, hd⟩ := this
      obtain ⟨i, hi⟩ := List.getElem?_of_mem ho
      obtain ⟨u, hu, hat⟩ := j.ins i o t hi hd (hall i (List.getElem?_eq_some_iff.1 hi).1)
      rw [hv] at hu
      cases hu
      exact hat
/-! ### The phases, one after the other -/
section
variable {ws done rem is : List Nat} {i d : Nat} {v : Value} {F2 : List (Nat × Value)} {L2 : List Asn} {Φ : List Asn → List (Nat × Value) → Prop}
theorem pE [Defs] (is : List Nat) (e : pickO l is = some os) (r : Runs P l.toArray N K W L os F [] F') (ha : agA F F' os = agB F os) (k : ∀ a w, St N K W a w F' L → Q .normal a w) (hB : (availB l ws done [] is && ordB os && is.all fun i => !ws.any (Nat.beq i)) = true := by kernel_rfl) : PhH P l N K W Q ws done [] L F := ⟨is, os, F', e, hB, r, ha, k⟩
theorem pR [Defs] (is : List Nat) (e : (pickO l is, l[i]?) = (some os, some o)) (r : Runs P l.toArray N K W L os F [] F') (ha : agA F F' os = agB F os)
    (k : ∀ a w, St N K W a w F' L → Ex P o a w (fun a' w' => ∃ F2 L2, St N K W a' w' F2 L2 ∧ okF o F' F2 ∧ PhH P l N K W Q ws (i :: done) rem L2 F2)) (hB : (availB l ws done (i :: rem) is && ordB os && is.all fun i => !ws.any (Nat.beq i)) = true := by kernel_rfl) : PhH P l N K W Q ws done (i :: rem) L F := by
  simp only [Prod.mk.injEq] at e
  exact ⟨is, os, F', o, e.1, hB, r, ha, e.2, fun a w h => (k a w h).toP⟩
theorem pRx [Defs] (is : List Nat) (e : (pickO l is, l[i]?) = (some os, some o)) (r : Runs P l.toArray N K W L os F [] F') (ha : agA F F' os = agB F os)
    (k : ∀ a w, St N K W a w F' L → ExP P o a w (fun a' w' => ∃ F2 L2, St N K W a' w' F2 L2 ∧ okF o F' F2 ∧ PhH P l N K W Q ws (i :: done) rem L2 F2) (XQ l N Q F')) (hB : (availB l ws done (i :: rem) is && ordB os && is.all fun i => !ws.any (Nat.beq i)) = true := by kernel_rfl) : PhH P l N K W Q ws done (i :: rem) L F := by
  simp only [Prod.mk.injEq] at e
  exact ⟨is, os, F', o, e.1, hB, r, ha, e.2, k⟩
theorem okF_some (hd : o.dst = some d) : okF o F ((d, v) :: F) := by unfold okF; rw [hd]; exact ⟨v, rfl⟩
theorem pS [Defs] (hx : ∀ a w, St N K W a w F L → Ex P o a w (fun a' w' => St N K W a' w' F L2)) (hd : o.dst = none) (k : Φ L2 F) : ∀ a w, St N K W a w F L → Ex P o a w (fun a' w' => ∃ F2 L2, St N K W a' w' F2 L2 ∧ okF o F F2 ∧ Φ L2 F2) :=
  fun a w h => (hx a w h).mono fun a' w' h' => ⟨F, L2, h', by unfold okF; rw [hd], k⟩
theorem pX [Defs] {α : Type} {v : α → Value} {L2 : α → List Asn} (hx : ∀ a w, St N K W a w F L → Ex P o a w (fun a' w' => ∃ b : α, St N K W a' w' ((d, v b) :: F) (L2 b))) (hd : o.dst = some d) (k : ∀ b, Φ (L2 b) ((d, v b) :: F)) : ∀ a w, St N K W a w F L → Ex P o a w (fun a' w' => ∃ F2 L2, St N K W a' w' F2 L2 ∧ okF o F F2 ∧ Φ L2 F2) :=
  fun a w h => (hx a w h).mono fun a' w' ⟨b, h'⟩ => ⟨_, L2 b, h', okF_some hd, k b⟩
theorem pP [Defs] (hx : ∀ a w, St N K W a w F L → Ex P o a w (fun a' w' => ∃ u, (u = v ∧ Sh0 w w' []) ∧ Fr N a' ((d, u) :: F))) (hd : o.dst = some d) (k : Φ L ((d, v) :: F)) : ∀ a w, St N K W a w F L → Ex P o a w (fun a' w' => ∃ F2 L2, St N K W a' w' F2 L2 ∧ okF o F F2 ∧ Φ L2 F2) :=
  fun a w h => (hx a w h).mono fun a' w' ⟨u, ⟨hu, hs⟩, hf⟩ => by subst hu; exact ⟨_, L, ⟨hf, h.sh.call0 hs⟩, okF_some hd, k⟩
theorem pC [Defs] {Rr : World → Value → World → Prop} (hx : ∀ a w, St N K W a w F L → Ex P o a w (fun a' w' => ∃ v, Rr w v w' ∧ Fr N a' ((d, v) :: F))) (hd : o.dst = some d)
    (k : ∀ w v w', Rr w v w' → ∃ L' L2, Sh0 w w' L' ∧ AllNo L' ∧ appO L' L = some L2 ∧ Φ L2 ((d, v) :: F)) : ∀ a w, St N K W a w F L → Ex P o a w (fun a' w' => ∃ F2 L2, St N K W a' w' F2 L2 ∧ okF o F F2 ∧ Φ L2 F2) :=
  fun a w h => (hx a w h).mono fun a' w' ⟨v, hr, hf⟩ => by
    obtain ⟨L', L2, hs, hi, e, k⟩ := k _ _ _ hr
    have := h.sh.callI hs
    rw [appO_eq e] at this
    exact ⟨_, L2, ⟨hf, this⟩, okF_some hd, k⟩
theorem pWk {L' L2 M : List Asn} {w w' : World} {X : List Asn → Prop} [hi : AllNo L'] (hs : Sh0 w w' L') (e : appO L' M = some L2) (k : X L2) : ∃ L' L2, Sh0 w w' L' ∧ AllNo L' ∧ appO L' M = some L2 ∧ X L2 := ⟨_, _, hs, hi, e, k⟩
/-- A call that may throw. -/
theorem xP_call [Defs] {f : Nat} {fo : Operand} {xs : List Operand} {tys : Array TypeId} {us vs ws : List Value} {R Xr : Value → World → Prop} {R2 : Act → World → Prop} {X2 : Value → World → Prop} (h : St N K W a w F L) (hb : bodyI P f = true) (ho : o.op = .call ⟨.value fo, xs.toArray, tys⟩) (hf : ev F fo = some (.func (.func f) us.toArray ws.toArray))
    (hx : evs F xs = some vs) (hd : o.dst = some d) (hdN : Nat.blt d N = true) (hc : Calls P f (us ++ vs ++ ws).toArray w (fun e w' => (∃ v, e = .returned v ∧ R v w') ∨ ∃ x, e = .panicked [{ v := x, recovered := false }] ∧ Xr x w'))
    (hp : ∀ x w', Xr x w' → X2 x w') (k : ∀ a' w', (∃ v, R v w' ∧ Fr N a' ((d, v) :: F)) → R2 a' w') : ExP P o a w R2 X2 := by
  intro next Q hn hnx
  have hrun : (execOp a.eval o).run P w = .ok (.enter f (us ++ vs ++ ws).toArray) w := by
    unfold execOp
    simp [ho, resolve, h.fr.ev hf, h.fr.evs hx, Deferred.ofValue, invoke, run_callFunc hb]
  unfold Oper.wp
  rw [hrun]
  show Calls P f (us ++ vs ++ ws).toArray w _
  refine Calls.mono hc ?_
  rintro e w' (⟨v, rfl, hr⟩ | ⟨x, rfl, hx⟩)
  · exact hn _ _ (k _ _ ⟨v, hr, by rw [hd]; exact h.fr.put d (by simpa [Nat.blt_eq] using hdN) v⟩)
  · exact hnx x w' (hp x w' hx)
/-- The resources in another order. -/
theorem pO [Defs] (is : List Nat) (e : selB L is = some L2) (k : ∀ a w, St N K W a w F L2 → Ex P o a w (fun a' w' => ∃ F2 L2, St N K W a' w' F2 L2 ∧ okF o F F2 ∧ Φ L2 F2)) : ∀ a w, St N K W a w F L → Ex P o a w (fun a' w' => ∃ F2 L2, St N K W a' w' F2 L2 ∧ okF o F F2 ∧ Φ L2 F2) := fun a w h => k a w (h.sel is e)
end
end
end Go.Proofs.YthdkmhaneellcaaGreatDoor
