/-
  Walks in short words: runs of operations that turn nothing, and chains of steps none of whose states bears a name. It imports nothing of the dump.
-/
import Derived.Test.YthdkmhaneellcaaGreatDoorS8
namespace Go.Proofs.YthdkmhaneellcaaGreatDoor
open Go.RowKit
set_option linter.unusedSimpArgs false
set_option linter.unusedVariables false

/-- How long rows are. -/
theorem lens9 : (∀ {α : Type} (l m : List α), (l ++ m).length = l.length + m.length) ∧ (∀ {α : Type} (a : α) (l : List α), (a :: l).length = l.length + 1) ∧ (∀ {α : Type}, ([] : List α).length = 0) ∧ (∀ {α : Type} (l : List α) (i : Nat) (a : α), (l.set i a).length = l.length) ∧ (∀ {α : Type} (n : Nat) (a : α), (List.replicate n a).length = n) ∧ (∀ {α β : Type} (f : α → β) (l : List α), (l.map f).length = l.length) ∧ (∀ n : Nat, (List.range n).length = n) :=
  ⟨fun l m => List.length_append, fun a l => List.length_cons, List.length_nil, fun l i a => List.length_set, fun n a => List.length_replicate, fun f l => List.length_map f, fun n => List.length_range⟩
/-- What is reckoned at once. -/
theorem om9 {p : Prop} (h : p := by first | omega | (simp only [lens9]; omega)) : p := h

/-- Operations that turn nothing: what they leave in the slots. -/
inductive Runs [Defs] (P : Program) (ops : Array Oper) (N : Nat) (K : Nat → Prop) (W : World) (L : List Asn) : List Oper → List (Nat × Value) → List Oper → List (Nat × Value) → Prop
  | nl {l : List Oper} {F : List (Nat × Value)} : Runs P ops N K W L l F l F
  | cn {o : Oper} {l l' : List Oper} {F F' : List (Nat × Value)} {d : Nat} {v : Value} (hr : Rn P o N K W F L v) (hw : ∀ a, Fr N a F → Region.wanted o (yielded ops a.tmps) = true) (hd : o.dst = some d) (hN : Nat.blt d N = true) (k : Runs P ops N K W L l ((d, v) :: F) l' F') : Runs P ops N K W L (o :: l) F l' F'
  | sk {o : Oper} {l l' : List Oper} {F F' : List (Nat × Value)} {d : Nat} (hw : ∀ a, Fr N a F → Region.wanted o (yielded ops a.tmps) = false) (hd : o.dst = some d) (hN : Nat.blt d N = true) (k : Runs P ops N K W L l ((d, undef) :: F) l' F') : Runs P ops N K W L (o :: l) F l' F'

section
variable {P : Program} {N : Nat} {K : Nat → Prop} {W w : World} {a : Act} {F F' F2 : List (Nat × Value)} {L L' : List Asn} {o : Oper} {ops : Array Oper} {l l' l2 rest : List Oper} {Q : Exit → Act → World → Prop} {c c' : Code} {R : Act → World → Prop}

theorem Runs.go [Defs] (r : Runs P ops N K W L l F l' F') : ∀ {a : Act}, St N K W a w F L → (∀ a, St N K W a w F' L → wpList P ops Q l' a w) → wpList P ops Q l a w := by
  induction r with
  | nl => exact fun h k => k _ h
  | cn hr hw hd hN _ ih => exact fun h k => wl_val h hr (hw _ h.fr) hd hN fun a h => ih h k
  | sk hw hd hN _ ih => exact fun h k => wl_skip h (hw _ h.fr) hd hN fun a h => ih h k
theorem Runs.goQ [Defs] {Z : Act → Prop} (r : Runs P ops N K W L l F l' F') : ∀ {a : Act}, Fr N a F → (∀ a, Fr N a F' → wpQuiet P ops (fun w => Sh K W w L) Z l' a) → wpQuiet P ops (fun w => Sh K W w L) Z l a := by
  induction r with
  | nl => exact fun h k => k _ h
  | cn hr hw hd hN _ ih => exact fun h k => wq_val h hr (hw _ h) hd hN fun a h => ih h k
  | sk hw hd hN _ ih => exact fun h k => wq_skip h (hw _ h) hd hN fun a h => ih h k

/-! ### Chains -/
theorem gG [Defs] (h : St N K W a w F L) (k : ∀ a w, St N K W a w F L → R a w) : R a w := k a w h
theorem gRn [Defs] (r : Runs P ops N K W L l F l' F') (k : ∀ a w, St N K W a w F' L → wpList P ops Q l' a w) : ∀ a w, St N K W a w F L → wpList P ops Q l a w := fun _ w h => r.go h fun a h => k a w h
theorem sG [Defs] {id : Nat} (r : Runs P l.toArray N K W L l F [] F') (k : ∀ a w, St N K W a w F' L → c.wp P Q a w) : ∀ a w, St N K W a w F L → (Code.seq (.region id l.toArray false) c).wp P Q a w :=
  fun _ w h => wp_seq_k fun _ hK => wp_region_lit (r.go h fun a h => wpList_nil (hK _ _ (k a w h)))
theorem sK [Defs] {id : Nat} (k : ∀ R : Act → World → Prop, (∀ a w, c.wp P Q a w → R a w) → ∀ a w, St N K W a w F L → wpList P l.toArray (Exit.then R Q) l a w) : ∀ a w, St N K W a w F L → (Code.seq (.region id l.toArray false) c).wp P Q a w :=
  fun _ w h => wp_seq_k fun R hK => wp_region_lit (k R hK _ w h)
theorem nK [Defs] {Q0 : Exit → Act → World → Prop} (hk : ∀ a w, c.wp P Q a w → Q0 .normal a w) (k : ∀ a w, St N K W a w F L → c.wp P Q a w) : ∀ a w, St N K W a w F L → wpList P ops Q0 [] a w := fun _ w h => wpList_nil (hk _ _ (k _ w h))
theorem hK [Defs] {X : Act → World → Prop} (hk : ∀ a w, c.wp P Q a w → X a w) (k : ∀ a w, St N K W a w F L → c.wp P Q a w) : ∀ a w, St N K W a w F L → X a w := fun _ w h => hk _ _ (k _ w h)
theorem gK [Defs] (k : ∀ R : Act → World → Prop, (∀ a w, c'.wp P Q a w → R a w) → ∀ a w, St N K W a w F L → c.wp P (Exit.then R Q) a w) : ∀ a w, St N K W a w F L → (Code.seq c c').wp P Q a w :=
  fun _ w h => wp_seq_k fun R hK => k R hK _ w h
theorem gL [Defs] {id : Nat} (k : ∀ a w, St N K W a w F L → wpList P l.toArray Q l a w) : ∀ a w, St N K W a w F L → (Code.region id l.toArray false).wp P Q a w := fun _ w h => wp_region_lit (k _ w h)
theorem nN [Defs] (k : ∀ a w, St N K W a w F L → Q .normal a w) : ∀ a w, St N K W a w F L → wpList P ops Q [] a w := fun _ w h => wpList_nil (k _ w h)
theorem gCb [Defs] {x : Operand} {b : Bool} (hc : ev F x = some (.bool b)) (ht : b = true → ∀ a w, St N K W a w F L → c.wp P Q a w) (hf : b = false → ∀ a w, St N K W a w F L → c'.wp P Q a w) : ∀ a w, St N K W a w F L → (Code.cond x c c').wp P Q a w :=
  fun _ w h => x_cond h hc (fun hb => ht hb _ w h) (fun hb => hf hb _ w h)
theorem gcd [Defs] {x : Operand} {p : Prop} [Decidable p] (hc : ev F x = some (.bool (decide p))) (ht : decide p = true → p → ∀ a w, St N K W a w F L → c.wp P Q a w) (hf : decide p = false → ¬ p → ∀ a w, St N K W a w F L → c'.wp P Q a w) : ∀ a w, St N K W a w F L → (Code.cond x c c').wp P Q a w :=
  gCb hc (fun hb => ht hb (of_decide_eq_true hb)) fun hb => hf hb (of_decide_eq_false hb)
theorem dsp (p : Prop) [Decidable p] : (decide p = true ∧ p) ∨ (decide p = false ∧ ¬ p) := by
  by_cases h : p
  · exact .inl ⟨decide_eq_true h, h⟩
  · exact .inr ⟨decide_eq_false h, h⟩
theorem gcT [Defs] {x : Operand} {b : Bool} (hc : ev F x = some (.bool b)) (hb : b = true) (k : ∀ a w, St N K W a w F L → c.wp P Q a w) : ∀ a w, St N K W a w F L → (Code.cond x c c').wp P Q a w := fun _ w h => x_condT h hc hb (k _ w h)
theorem gcF [Defs] {x : Operand} {b : Bool} (hc : ev F x = some (.bool b)) (hb : b = false) (k : ∀ a w, St N K W a w F L → c'.wp P Q a w) : ∀ a w, St N K W a w F L → (Code.cond x c c').wp P Q a w := fun _ w h => x_condF h hc hb (k _ w h)
theorem gB [Defs] {id : Nat} (k : ∀ a w, St N K W a w F L → c.wp P (Exit.inBlock id Q) a w) : ∀ a w, St N K W a w F L → (Code.block id c).wp P Q a w := fun _ w h => wp_block (k _ w h)
theorem gS [Defs] (k : ∀ a w, St N K W a w F L → Q .normal a w) : ∀ a w, St N K W a w F L → Code.skip.wp P Q a w := fun _ w h => wp_skip (k _ w h)
theorem gX [Defs] {id : Nat} (k : ∀ a w, St N K W a w F L → Q (.exit id) a w) : ∀ a w, St N K W a w F L → (Code.exit id).wp P Q a w := fun _ w h => wp_exit (k _ w h)
theorem gR [Defs] (k : ∀ a w, St N K W a w F L → Q .ret a w) : ∀ a w, St N K W a w F L → Code.ret.wp P Q a w := fun _ w h => wp_ret (k _ w h)
def argF : List Value → Option (List (Nat × Value))
  | [] => some []
  | [a] => some [(0, a)]
  | [a, b] => some [(0, a), (1, b)]
  | [a, b, c] => some [(0, a), (1, b), (2, c)]
  | [a, b, c, d] => some [(0, a), (1, b), (2, c), (3, d)]
  | [a, b, c, d, e] => some [(0, a), (1, b), (2, c), (3, d), (4, e)]
  | [a, b, c, d, e, f] => some [(0, a), (1, b), (2, c), (3, d), (4, e), (5, f)]
  | [a, b, c, d, e, f, g] => some [(0, a), (1, b), (2, c), (3, d), (4, e), (5, f), (6, g)]
  | [a, b, c, d, e, f, g, h] => some [(0, a), (1, b), (2, c), (3, d), (4, e), (5, f), (6, g), (7, h)]
  | [a, b, c, d, e, f, g, h, i] => some [(0, a), (1, b), (2, c), (3, d), (4, e), (5, f), (6, g), (7, h), (8, i)]
  | [a, b, c, d, e, f, g, h, i, j] => some [(0, a), (1, b), (2, c), (3, d), (4, e), (5, f), (6, g), (7, h), (8, i), (9, j)]
  | _ => none
theorem argF_eq {vs : List Value} {F : List (Nat × Value)} (h : argF vs = some F) : ((vs.zipIdx 0).map fun x => (x.2, x.1)) = F := by
  unfold argF at h
  split at h <;> cases h <;> rfl
/-- Entering a function. -/
theorem gen {f : FuncId} {fn : Func} {vs : List Value} {X : Value → World → Prop} (hf : P.funcs[f]? = some fn) (hN : fn.ntmps = N) (hS : Sh K W W L) (e : (fn.body, argF vs, Nat.ble vs.length N) = (some c, some F, true)) (k : ∀ a, @St noDefs N K W a W F L → c.wp P (bodyPost P fn fun e w' => ∃ v, e = .returned v ∧ X v w') a W) : Rets P f vs W X := by
  simp only [Prod.mk.injEq] at e
  exact x_enter hf e.1 hN (Nat.le_of_ble_eq_true e.2.2) fun a h => k a ⟨by rw [argF_eq e.2.1] at h; exact h, hS⟩
theorem uT [Defs] {X : Act → World → Prop} (k : ∀ a w, St N K W a w F L → Q .ret a w) : ∀ a w, St N K W a w F L → Exit.then X Q .ret a w := k
theorem uB [Defs] {id : Nat} (k : ∀ a w, St N K W a w F L → Q .ret a w) : ∀ a w, St N K W a w F L → Exit.inBlock id Q .ret a w := k
/-- How long a row may be. -/
theorem gNl [Defs] {α : Type} [Enc α] {s : Ls α} (hat : ∀ w, Sh K W w L → s.At w) (k : s.l.length ≤ 140737488355328 → ∀ a w, St N K W a w F L → R a w) : ∀ a w, St N K W a w F L → R a w := fun a w h => k (hat w h.sh).len a w h
/-- An operation that turns something. -/
theorem gE [Defs] {L2 : List Asn} (hx : ∀ a w, St N K W a w F L → Ex P o a w (fun a' w' => St N K W a' w' F2 L2)) (hg : o.guard = none) (k : ∀ a w, St N K W a w F2 L2 → wpList P ops Q rest a w) : ∀ a w, St N K W a w F L → wpList P ops Q (o :: rest) a w :=
  fun _ w h => wl_ex (hx _ w h) (wanted_none hg _) fun a w h => k a w h
theorem gE1 [Defs] {α : Sort 1} {F2 : α → List (Nat × Value)} {L2 : α → List Asn} (hx : ∀ a w, St N K W a w F L → Ex P o a w (fun a' w' => ∃ b : α, St N K W a' w' (F2 b) (L2 b))) (hg : o.guard = none) (k : ∀ b a w, St N K W a w (F2 b) (L2 b) → wpList P ops Q rest a w) : ∀ a w, St N K W a w F L → wpList P ops Q (o :: rest) a w :=
  fun _ w h => wl_ex (hx _ w h) (wanted_none hg _) fun a w ⟨b, h⟩ => k b a w h
/-- Some slots are spoken of no more. -/
def pickF (F : List (Nat × Value)) : List Nat → Option (List (Nat × Value))
  | [] => some []
  | t :: r => match lk F t with
    | some v => match pickF F r with
      | some F' => some ((t, v) :: F')
      | none => none
    | none => none
theorem pickF_ok : ∀ {ts : List Nat} {F' : List (Nat × Value)}, pickF F ts = some F' → frOK F F'
  | [], F', e => by cases e; trivial
  | t :: r, F', e => by
    unfold pickF at e
    split at e
    · rename_i v hv
      split at e
      · rename_i F2 hF
        cases e
        exact ⟨hv, pickF_ok hF⟩
      · cases e
    · cases e
theorem gF [Defs] (ts : List Nat) (e : pickF F ts = some F') (k : ∀ a w, St N K W a w F' L → R a w) : ∀ a w, St N K W a w F L → R a w := fun a w h => k a w (h.nf (pickF_ok e))
/-- The resources in another order. -/
theorem gO [Defs] (is : List Nat) (e2 : selB L is = some L') (k : ∀ a w, St N K W a w F L' → R a w) : ∀ a w, St N K W a w F L → R a w := fun a w h => k a w (h.sel is e2)

/-! ### Quiet regions -/
theorem qQ [Defs] {Y : Act → Prop} (h : Fr N a F) (k : ∀ a, Fr N a F → Y a) : Y a := k a h
theorem qRn [Defs] {Z : Act → Prop} (r : Runs P ops N K W L l F l' F') (k : ∀ a, Fr N a F' → wpQuiet P ops (fun w => Sh K W w L) Z l' a) : ∀ a, Fr N a F → wpQuiet P ops (fun w => Sh K W w L) Z l a := fun _ h => r.goQ h k
theorem qN [Defs] {Z : Act → Prop} (z : ∀ a, (∀ w, Sh K W w L → R a w) → Z a) (k : ∀ a w, St N K W a w F L → R a w) : ∀ a, Fr N a F → wpQuiet P ops (fun w => Sh K W w L) Z [] a := fun a h => wpQuiet_nil (z a fun w hw => k a w ⟨h, hw⟩)
/-- A region that draws its order, of which nothing turns anything. -/
theorem rQ [Defs] {id : Nat} (r : Runs P l.toArray N K W L l F [] F') (k : ∀ a w, St N K W a w F' L → Q .normal a w) (hm : P.follows .mixedOrders = true := by kernel_rfl) (hB : Region.lexB .any l.toArray = true := by kernel_rfl) : ∀ a w, St N K W a w F L → (Code.region id l.toArray true).wp P Q a w :=
  fun _ w h => x_quiet hm hB h fun Z hZ => r.goQ h.fr fun a hf => wpQuiet_nil (hZ a fun w hw => k a w ⟨hf, hw⟩)
/-- A region that draws its order, the last operations standing behind all others; those ahead turn nothing. -/
theorem rT [Defs] {id : Nat} (m : Nat) (ps : List Nat) (r : Runs P l.toArray N K W L (opsAt l.toArray ps ++ opsAt l.toArray (quietIs m ps)) F [] F')
    (k : ∀ a w, St N K W a w F' L → wpList P l.toArray (fun e a w => match e with | .normal => Q .normal a w | _ => False) (l.drop m) a w) (hm : P.follows .mixedOrders = true := by kernel_rfl) (hB : tailB l m ps = true := by kernel_rfl) : ∀ a w, St N K W a w F L → (Code.region id l.toArray true).wp P Q a w :=
  fun _ w h => x_tail m ps hm hB h fun Z hZ => r.goQ h.fr fun a hf => wpQuiet_nil (hZ a fun w hw => k a w ⟨hf, hw⟩)

/-! ### Operations -/
section
variable {d g k q r j n by_ sz i2 : Nat} {T E e : TypeId} {x y : Operand} {v : Value} {z cs vs : List Value}
theorem wn [Defs] (hg : o.guard = none) : ∀ a, Fr N a F → Region.wanted o (yielded ops a.tmps) = true := fun _ _ => wanted_none hg _
/-- Any operation. -/
theorem oV [Defs] (hr : Rn P o N K W F L v) (e : (o.dst, o.guard, Nat.blt d N) = (some d, none, true)) (k : Runs P ops N K W L l ((d, v) :: F) l' F') : Runs P ops N K W L (o :: l) F l' F' := by
  simp only [Prod.mk.injEq] at e
  exact .cn hr (wn e.2.1) e.1 e.2.2 k
/-- .. whose guard says yes; no. -/
theorem oG [Defs] {b want : Bool} {t : Nat} {oj : Oper} (hb : b = want) (hr : Rn P o N K W F L v) (e : (o.dst, o.guard, ops[j]?, oj.dst, lk F t, Nat.blt d N) = (some d, some (j, want), some oj, some t, some (.bool b), true)) (k : Runs P ops N K W L l ((d, v) :: F) l' F') : Runs P ops N K W L (o :: l) F l' F' := by
  simp only [Prod.mk.injEq] at e
  exact .cn hr (fun a h => wanted_yes h e.2.1 e.2.2.1 e.2.2.2.1 e.2.2.2.2.1 hb) e.1 e.2.2.2.2.2 k
theorem oK [Defs] {b want : Bool} {t : Nat} {oj : Oper} (hb : b = !want) (e : (o.dst, o.guard, ops[j]?, oj.dst, lk F t, Nat.blt d N) = (some d, some (j, want), some oj, some t, some (.bool b), true)) (k : Runs P ops N K W L l ((d, undef) :: F) l' F') : Runs P ops N K W L (o :: l) F l' F' := by
  simp only [Prod.mk.injEq] at e
  exact .sk (fun a h => wanted_no h e.2.1 e.2.2.1 e.2.2.2.1 e.2.2.2.2.1 hb) e.1 e.2.2.2.2.2 k
theorem oK2 [Defs] {want : Bool} {t : Nat} {oj : Oper} (e : (o.dst, o.guard, ops[j]?, oj.dst, lk F t, Nat.blt d N) = (some d, some (j, want), some oj, some t, some undef, true)) (k : Runs P ops N K W L l ((d, undef) :: F) l' F') : Runs P ops N K W L (o :: l) F l' F' := by
  simp only [Prod.mk.injEq] at e
  exact .sk (fun a h => wanted_no2 h e.2.1 e.2.2.1 e.2.2.2.1 e.2.2.2.2.1) e.1 e.2.2.2.2.2 k
/-- Some that are passed over, one guard saying so of all. -/
def skF (N j t : Nat) (want : Bool) : Nat → List Oper → List (Nat × Value) → Option (List Oper × List (Nat × Value))
  | 0, l, F => some (l, F)
  | n + 1, o :: l, F => match o.guard with
    | some (j', w') => bif Nat.beq j' j && (w' == want) then match o.dst with
      | some d => bif Nat.blt d N && !(Nat.beq d t) then skF N j t want n l ((d, undef) :: F) else none
      | none => none
      else none
    | none => none
  | _ + 1, [], _ => none
theorem oKs [Defs] (n : Nat) {b want : Bool} {j t : Nat} {oj : Oper} (hb : b = !want) (e : (o.guard, ops[j]?, oj.dst, lk F t) = (some (j, want), some oj, some t, some (.bool b))) (hs : skF N j t want n (o :: l) F = some (l2, F2)) (k : Runs P ops N K W L l2 F2 l' F') : Runs P ops N K W L (o :: l) F l' F' := by
  simp only [Prod.mk.injEq] at e
  obtain ⟨_, e1, e2, e3⟩ := e
  generalize o :: l = m at hs ⊢
  induction n generalizing m F with
  | zero => cases hs; exact k
  | succ n ih =>
    cases m with
    | nil => cases hs
    | cons o m =>
      unfold skF at hs
      split at hs
      · rename_i j' w' hg
        cases hc : Nat.beq j' j && (w' == want) with
        | false => rw [hc] at hs; cases hs
        | true =>
          rw [hc, cond_true] at hs
          obtain ⟨h1, h2⟩ := Bool.and_eq_true_iff.1 hc
          cases Nat.eq_of_beq_eq_true h1
          obtain rfl : w' = want := by simpa using h2
          split at hs
          · rename_i d hd
            cases hc2 : Nat.blt d N && !(Nat.beq d t) with
            | false => rw [hc2] at hs; cases hs
            | true =>
              rw [hc2, cond_true] at hs
              obtain ⟨h3, h4⟩ := Bool.and_eq_true_iff.1 hc2
              have h5 : d ≠ t := fun e => by subst e; simp at h4
              exact .sk (fun a h => wanted_no h hg e1 e2 e3 hb) hd h3 (ih (by rw [lk_cons, if_neg h5]; exact e3) m hs)
          · cases hs
      · cases hs
/-- Moves. -/
theorem oM [Defs] (n : Nat) (e : mvN N n l F = some (l2, F2)) (k : Runs P ops N K W L l2 F2 l' F') : Runs P ops N K W L l F l' F' := by
  induction n generalizing l F with
  | zero => cases e; exact k
  | succ n ih =>
    cases l with
    | nil => cases e
    | cons o l =>
      unfold mvN at e
      split at e
      · rename_i d x hg hd ho
        split at e
        · rename_i v hv
          cases hb : Nat.blt d N with
          | false => rw [hb] at e; cases e
          | true => rw [hb] at e; exact .cn (r_move ho hv) (wn hg) hd hb (ih e)
        · cases e
      · rename_i d x hg hd ho
        split at e
        · rename_i v hv
          cases hb : Nat.blt d N with
          | false => rw [hb] at e; cases e
          | true => rw [hb] at e; exact .cn (r_assign ho hv) (wn hg) hd hb (ih e)
        · cases e
      · cases e
/-- A pointer is no nil. -/
theorem onl [Defs] {p : Addr} (e : (o.dst, o.op, ev F x, okg o d N) = (some d, .nilCheck x, some (.pointer (some p)), true)) (k : Runs P ops N K W L l ((d, .pointer (some p)) :: F) l' F') : Runs P ops N K W L (o :: l) F l' F' := by
  simp only [Prod.mk.injEq, okg, Bool.and_eq_true, Option.isNone_iff_eq_none] at e
  exact .cn (r_nil e.2.1 e.2.2.1) (wn e.2.2.2.1) e.1 e.2.2.2.2 k
/-- A field's place in a block. -/
theorem ofB [Defs] {f : Nat} (hT : flI P T f = some k) (e : (o.dst, o.op, ev F x, okg o d N) = (some d, .fieldAddr T x f, some (.pointer (some ⟨g, 0, none⟩)), true)) (kk : Runs P ops N K W L l ((d, .pointer (some ⟨g, k, none⟩)) :: F) l' F') : Runs P ops N K W L (o :: l) F l' F' := by
  simp only [Prod.mk.injEq, okg, Bool.and_eq_true, Option.isNone_iff_eq_none] at e
  exact .cn (r_fieldB hT e.2.1 e.2.2.1 (Nat.zero_add k)) (wn e.2.2.2.1) e.1 e.2.2.2.2 kk
/-- No nil, a field's place. -/
theorem onf [Defs] {o2 : Oper} {f d2 : Nat} {p : Addr} {y : Operand} (hT : flI P T f = some k) (e : (o.dst, o.op, ev F x, okg o d N, o2.dst, o2.op, ev ((d, .pointer (some p)) :: F) y, okg o2 d2 N) = (some d, .nilCheck x, some (.pointer (some p)), true, some d2, .fieldAddr T y f, some (.pointer (some ⟨g, 0, none⟩)), true))
    (kk : Runs P ops N K W L l ((d2, .pointer (some ⟨g, k, none⟩)) :: (d, .pointer (some p)) :: F) l' F') : Runs P ops N K W L (o :: o2 :: l) F l' F' := by
  simp only [Prod.mk.injEq] at e
  obtain ⟨e1, e2, e3, e4, e5, e6, e7, e8⟩ := e
  exact onl (by rw [e1, e2, e3, e4]) (ofB hT (by rw [e5, e6, e7, e8]) kk)
/-- A load of one cell of a block. -/
theorem olB [Defs] (i : Nat) (hT : tyI P T = some (false, n, by_, z)) (hi : L[i]? = some (.blk g E cs)) (e : (o.dst, o.op, ev F x, okg o d N, cs[q]?) = (some d, .load T x, some (.pointer (some ⟨g, q, none⟩)), true, some v)) (k : Runs P ops N K W L l ((d, v) :: F) l' F') : Runs P ops N K W L (o :: l) F l' F' := by
  simp only [Prod.mk.injEq, okg, Bool.and_eq_true, Option.isNone_iff_eq_none] at e
  exact .cn (r_ldb hT e.2.1 e.2.2.1 hi e.2.2.2.2) (wn e.2.2.2.1.1) e.1 e.2.2.2.1.2 k


/-- .. of a block that is read. -/
theorem olR [Defs] (i : Nat) (hT : tyI P T = some (false, n, by_, z)) (hi : L[i]? = some (.rblk g E cs)) (e : (o.dst, o.op, ev F x, okg o d N, cs[q]?) = (some d, .load T x, some (.pointer (some ⟨g, q, none⟩)), true, some v)) (k : Runs P ops N K W L l ((d, v) :: F) l' F') : Runs P ops N K W L (o :: l) F l' F' := by
  simp only [Prod.mk.injEq, okg, Bool.and_eq_true, Option.isNone_iff_eq_none] at e
  exact .cn (r_ldbR hT e.2.1 e.2.2.1 (fun w h => h.rblk i hi) e.2.2.2.2) (wn e.2.2.2.1.1) e.1 e.2.2.2.1.2 k
/-- No nil, a field's place, its load. -/
theorem onfl [Defs] (i : Nat) {o2 o3 : Oper} {f d2 d3 : Nat} {T' : TypeId} {p : Addr} {y u : Operand} (hT : flI P T f = some k) (hT' : tyI P T' = some (false, n, by_, z)) (hi : L[i]? = some (.blk g E cs))
    (e : (o.dst, o.op, ev F x, okg o d N, o2.dst, o2.op, ev ((d, .pointer (some p)) :: F) y, okg o2 d2 N, o3.dst, o3.op, ev ((d2, .pointer (some ⟨g, k, none⟩)) :: (d, .pointer (some p)) :: F) u, okg o3 d3 N, cs[k]?) = (some d, .nilCheck x, some (.pointer (some p)), true, some d2, .fieldAddr T y f, some (.pointer (some ⟨g, 0, none⟩)), true, some d3, .load T' u, some (.pointer (some ⟨g, k, none⟩)), true, some v))
    (kk : Runs P ops N K W L l ((d3, v) :: (d2, .pointer (some ⟨g, k, none⟩)) :: (d, .pointer (some p)) :: F) l' F') : Runs P ops N K W L (o :: o2 :: o3 :: l) F l' F' := by
  simp only [Prod.mk.injEq] at e
  obtain ⟨e1, e2, e3, e4, e5, e6, e7, e8, e9, f1, f2, f3, f4⟩ := e
  exact onl (by rw [e1, e2, e3, e4]) (ofB hT (by rw [e5, e6, e7, e8]) (olB i hT' hi (by rw [e9, f1, f2, f3, f4]) kk))
/-- Cells that lie beside one another. -/
def takeO : List Value → Nat → Nat → Option (List Value)
  | _, _, 0 => some []
  | [], _, _ + 1 => none
  | _ :: r, q + 1, n + 1 => takeO r q (n + 1)
  | v :: r, 0, n + 1 => match takeO r 0 n with
    | some l => some (v :: l)
    | none => none
theorem takeO_eq : ∀ {cs : List Value} {q n : Nat} {vs : List Value}, takeO cs q n = some vs → (cs.drop q).take n = vs ∧ vs.length = n
  | cs, q, 0, vs, h => by unfold takeO at h; cases h; simp
  | [], q, n + 1, vs, h => by cases q <;> cases h
  | _ :: r, q + 1, n + 1, vs, h => by
    unfold takeO at h
    simpa using takeO_eq h
  | v :: r, 0, n + 1, vs, h => by
    unfold takeO at h
    split at h
    · next l hl =>
      cases h
      obtain ⟨h1, h2⟩ := takeO_eq hl
      refine ⟨?_, by simp [h2]⟩
      rw [List.drop_zero] at h1 ⊢
      rw [List.take_succ_cons, h1]
    · cases h
/-- A load of some cells of a block. -/
theorem olw [Defs] (i : Nat) (hT : tyI P T = some (true, n, by_, z)) (hi : L[i]? = some (.blk g E cs)) (e : (o.dst, o.op, ev F x, okg o d N, takeO cs q n) = (some d, .load T x, some (.pointer (some ⟨g, q, none⟩)), true, some vs)) (k : Runs P ops N K W L l ((d, .agg vs.toArray) :: F) l' F') : Runs P ops N K W L (o :: l) F l' F' := by
  simp only [Prod.mk.injEq, okg, Bool.and_eq_true, Option.isNone_iff_eq_none] at e
  exact .cn (r_ldbw hT e.2.1 e.2.2.1 hi (takeO_eq e.2.2.2.2).1 (takeO_eq e.2.2.2.2).2) (wn e.2.2.2.1.1) e.1 e.2.2.2.1.2 k
theorem oxt [Defs] {i : Nat} {vs : Array Value} (e : (o.dst, o.op, ev F x, okg o d N, vs[i]?) = (some d, .extract x i, some (.tuple vs), true, some v)) (k : Runs P ops N K W L l ((d, v) :: F) l' F') : Runs P ops N K W L (o :: l) F l' F' := by
  simp only [Prod.mk.injEq, okg, Bool.and_eq_true, Option.isNone_iff_eq_none] at e
  exact .cn (r_extract e.2.1 e.2.2.1 e.2.2.2.2) (wn e.2.2.2.1.1) e.1 e.2.2.2.1.2 k
theorem opT [Defs] {b : Bool} {c x y : Operand} (hb : b = true) (e : (o.dst, o.op, ev F c, ev F x, okg o d N) = (some d, .pick c x y, some (.bool b), some v, true)) (k : Runs P ops N K W L l ((d, v) :: F) l' F') : Runs P ops N K W L (o :: l) F l' F' := by
  simp only [Prod.mk.injEq, okg, Bool.and_eq_true, Option.isNone_iff_eq_none] at e
  exact .cn (r_pickT e.2.1 e.2.2.1 hb e.2.2.2.1) (wn e.2.2.2.2.1) e.1 e.2.2.2.2.2 k
theorem opF [Defs] {b : Bool} {c x y : Operand} (hb : b = false) (e : (o.dst, o.op, ev F c, ev F y, okg o d N) = (some d, .pick c x y, some (.bool b), some v, true)) (k : Runs P ops N K W L l ((d, v) :: F) l' F') : Runs P ops N K W L (o :: l) F l' F' := by
  simp only [Prod.mk.injEq, okg, Bool.and_eq_true, Option.isNone_iff_eq_none] at e
  exact .cn (r_pickF e.2.1 e.2.2.1 hb e.2.2.2.1) (wn e.2.2.2.2.1) e.1 e.2.2.2.2.2 k
theorem ont [Defs] {b : Bool} (e : (o.dst, o.op, ev F x, okg o d N) = (some d, .unOp .not T x, some (.bool b), true)) (k : Runs P ops N K W L l ((d, .bool (!b)) :: F) l' F') : Runs P ops N K W L (o :: l) F l' F' := by
  simp only [Prod.mk.injEq, okg, Bool.and_eq_true, Option.isNone_iff_eq_none] at e
  exact .cn (r_not e.2.1 e.2.2.1) (wn e.2.2.2.1) e.1 e.2.2.2.2 k
section
variable {α : Type} [Enc α] {s : Ls α} {gb : Bool}
theorem oxN [Defs] {kd : IntKind} (hT : slI P T = some e) (he : tyI P e = some (gb, n, by_, z)) (hat : ∀ w, Sh K W w L → s.At w) (q : Nat) (hb : q < s.l.length) (e' : (o.dst, o.op, ev F x, ev F y, okg o d N) = (some d, .indexAddr T x y, some s.v, some (.int kd (q : Int)), true))
    (k : Runs P ops N K W L l ((d, .pointer (some (padr s.v n q 0))) :: F) l' F') : Runs P ops N K W L (o :: l) F l' F' := by
  simp only [Prod.mk.injEq, okg, Bool.and_eq_true, Option.isNone_iff_eq_none] at e'
  exact .cn (r_ixN hT he e'.2.1 e'.2.2.1 e'.2.2.2.1 hat hb) (wn e'.2.2.2.2.1) e'.1 e'.2.2.2.2.2 k
theorem ofE [Defs] {f i : Nat} (hT : flI P T f = some k) (e : (o.dst, o.op, ev F x, okg o d N) = (some d, .fieldAddr T x f, some (.pointer (some (padr v sz i 0))), true)) (kk : Runs P ops N K W L l ((d, .pointer (some (padr v sz i k))) :: F) l' F') : Runs P ops N K W L (o :: l) F l' F' := by
  simp only [Prod.mk.injEq, okg, Bool.and_eq_true, Option.isNone_iff_eq_none] at e
  exact .cn (r_fieldE hT e.2.1 e.2.2.1 (Nat.zero_add k)) (wn e.2.2.2.1) e.1 e.2.2.2.2 kk
theorem olE [Defs] {i : Nat} (v : Value) (hT : tyI P T = some (false, n, by_, z)) (hat : ∀ w, Sh K W w L → s.At w) (hi : i < s.l.length) (e : (o.dst, o.op, ev F x, okg o d N, Enc.sz α, Nat.blt j sz, Enc.cell (nth s.l i) j) = (some d, .load T x, some (.pointer (some (padr s.v sz i j))), true, sz, true, v)) (k : Runs P ops N K W L l ((d, v) :: F) l' F') : Runs P ops N K W L (o :: l) F l' F' := by
  simp only [Prod.mk.injEq, okg, Bool.and_eq_true, Option.isNone_iff_eq_none] at e
  exact .cn (r_lde hT e.2.1 e.2.2.1 e.2.2.2.2.1 hat hi (by simpa [Nat.blt_eq] using e.2.2.2.2.2.1) e.2.2.2.2.2.2) (wn e.2.2.2.1.1) e.1 e.2.2.2.1.2 k
/-- .. that is a number. -/
theorem olI [Defs] {i : Nat} {kd : IntKind} {u : Int} (hT : tyI P T = some (false, n, by_, z)) (hat : ∀ w, Sh K W w L → s.At w) (hi : i < s.l.length) (e : (o.dst, o.op, ev F x, okg o d N, Enc.sz α, Nat.blt j sz, Enc.cell (nth s.l i) j) = (some d, .load T x, some (.pointer (some (padr s.v sz i j))), true, sz, true, .int kd u)) (k : Runs P ops N K W L l ((d, .int kd u) :: F) l' F') : Runs P ops N K W L (o :: l) F l' F' := olE (.int kd u) hT hat hi e k
theorem olw2 [Defs] {i : Nat} (vs : List Value) (hT : tyI P T = some (true, n, by_, z)) (hat : ∀ w, Sh K W w L → s.At w) (hi : i < s.l.length) (e : (o.dst, o.op, ev F x, okg o d N, Enc.sz α, Nat.ble (j + n) sz, (List.range n).map (fun q => Enc.cell (nth s.l i) (j + q))) = (some d, .load T x, some (.pointer (some (padr s.v sz i j))), true, sz, true, vs)) (k : Runs P ops N K W L l ((d, .agg vs.toArray) :: F) l' F') : Runs P ops N K W L (o :: l) F l' F' := by
  simp only [Prod.mk.injEq, okg, Bool.and_eq_true, Option.isNone_iff_eq_none] at e
  exact .cn (r_ldew hT e.2.1 e.2.2.1 e.2.2.2.2.1 hat hi (Nat.le_of_ble_eq_true e.2.2.2.2.2.1) e.2.2.2.2.2.2) (wn e.2.2.2.1.1) e.1 e.2.2.2.1.2 k
theorem oln [Defs] {n : Nat} (hT : slI P T = some e) (hat : ∀ w, Sh K W w L → s.At w) (e' : (o.dst, o.op, ev F x, okg o d N, s.l.length) = (some d, .call ⟨.builtin .len, #[x], #[T]⟩, some s.v, true, n)) (k : Runs P ops N K W L l ((d, .int .i64 (n : Int)) :: F) l' F') : Runs P ops N K W L (o :: l) F l' F' := by
  simp only [Prod.mk.injEq, okg, Bool.and_eq_true, Option.isNone_iff_eq_none] at e'
  exact .cn (r_len hT e'.2.1 e'.2.2.1 hat e'.2.2.2.2) (wn e'.2.2.2.1.1) e'.1 e'.2.2.2.1.2 k
end
section
variable {U : TypeId} {kd : IntKind}
theorem oltN [Defs] (p q : Nat) (e : (o.dst, o.op, ev F x, ev F y, okg o d N) = (some d, .binOp .lss T x y U, some (.int kd (p : Int)), some (.int kd (q : Int)), true)) (k : Runs P ops N K W L l ((d, .bool (decide (p < q))) :: F) l' F') : Runs P ops N K W L (o :: l) F l' F' := by
  simp only [Prod.mk.injEq, okg, Bool.and_eq_true, Option.isNone_iff_eq_none] at e
  exact .cn (r_lssN e.2.1 e.2.2.1 e.2.2.2.1) (wn e.2.2.2.2.1) e.1 e.2.2.2.2.2 k
theorem oltI [Defs] (p q : Int) (e : (o.dst, o.op, ev F x, ev F y, okg o d N) = (some d, .binOp .lss T x y U, some (.int kd p), some (.int kd q), true)) (k : Runs P ops N K W L l ((d, .bool (decide (p < q))) :: F) l' F') : Runs P ops N K W L (o :: l) F l' F' := by
  simp only [Prod.mk.injEq, okg, Bool.and_eq_true, Option.isNone_iff_eq_none] at e
  exact .cn (r_lssI e.2.1 e.2.2.1 e.2.2.2.1) (wn e.2.2.2.2.1) e.1 e.2.2.2.2.2 k
theorem oleI [Defs] (p q : Int) (e : (o.dst, o.op, ev F x, ev F y, okg o d N) = (some d, .binOp .leq T x y U, some (.int kd p), some (.int kd q), true)) (k : Runs P ops N K W L l ((d, .bool (decide (p ≤ q))) :: F) l' F') : Runs P ops N K W L (o :: l) F l' F' := by
  simp only [Prod.mk.injEq, okg, Bool.and_eq_true, Option.isNone_iff_eq_none] at e
  exact .cn (r_leqI e.2.1 e.2.2.1 e.2.2.2.1) (wn e.2.2.2.2.1) e.1 e.2.2.2.2.2 k
theorem ogtN [Defs] (p q : Nat) (e : (o.dst, o.op, ev F x, ev F y, okg o d N) = (some d, .binOp .gtr T x y U, some (.int kd (p : Int)), some (.int kd (q : Int)), true)) (k : Runs P ops N K W L l ((d, .bool (decide (q < p))) :: F) l' F') : Runs P ops N K W L (o :: l) F l' F' := by
  simp only [Prod.mk.injEq, okg, Bool.and_eq_true, Option.isNone_iff_eq_none] at e
  exact .cn (r_gtrN e.2.1 e.2.2.1 e.2.2.2.1) (wn e.2.2.2.2.1) e.1 e.2.2.2.2.2 k
theorem ogeN [Defs] (p q : Nat) (e : (o.dst, o.op, ev F x, ev F y, okg o d N) = (some d, .binOp .geq T x y U, some (.int kd (p : Int)), some (.int kd (q : Int)), true)) (k : Runs P ops N K W L l ((d, .bool (decide (q ≤ p))) :: F) l' F') : Runs P ops N K W L (o :: l) F l' F' := by
  simp only [Prod.mk.injEq, okg, Bool.and_eq_true, Option.isNone_iff_eq_none] at e
  exact .cn (r_geqN e.2.1 e.2.2.1 e.2.2.2.1) (wn e.2.2.2.2.1) e.1 e.2.2.2.2.2 k
theorem ogeI [Defs] (p q : Int) (e : (o.dst, o.op, ev F x, ev F y, okg o d N) = (some d, .binOp .geq T x y U, some (.int kd p), some (.int kd q), true)) (k : Runs P ops N K W L l ((d, .bool (decide (q ≤ p))) :: F) l' F') : Runs P ops N K W L (o :: l) F l' F' := by
  simp only [Prod.mk.injEq, okg, Bool.and_eq_true, Option.isNone_iff_eq_none] at e
  exact .cn (r_geqI e.2.1 e.2.2.1 e.2.2.2.1) (wn e.2.2.2.2.1) e.1 e.2.2.2.2.2 k
theorem oeqN [Defs] (p q : Nat) (e : (o.dst, o.op, ev F x, ev F y, okg o d N) = (some d, .binOp .eql T x y U, some (.int kd (p : Int)), some (.int kd (q : Int)), true)) (k : Runs P ops N K W L l ((d, .bool (decide (p = q))) :: F) l' F') : Runs P ops N K W L (o :: l) F l' F' := by
  simp only [Prod.mk.injEq, okg, Bool.and_eq_true, Option.isNone_iff_eq_none] at e
  exact .cn (r_eqlN e.2.1 e.2.2.1 e.2.2.2.1) (wn e.2.2.2.2.1) e.1 e.2.2.2.2.2 k
theorem oeqI [Defs] (p q : Int) (e : (o.dst, o.op, ev F x, ev F y, okg o d N) = (some d, .binOp .eql T x y U, some (.int kd p), some (.int kd q), true)) (k : Runs P ops N K W L l ((d, .bool (decide (p = q))) :: F) l' F') : Runs P ops N K W L (o :: l) F l' F' := by
  simp only [Prod.mk.injEq, okg, Bool.and_eq_true, Option.isNone_iff_eq_none] at e
  exact .cn (r_eqlI e.2.1 e.2.2.1 e.2.2.2.1) (wn e.2.2.2.2.1) e.1 e.2.2.2.2.2 k
theorem oneN [Defs] (p q : Nat) (e : (o.dst, o.op, ev F x, ev F y, okg o d N) = (some d, .binOp .neq T x y U, some (.int kd (p : Int)), some (.int kd (q : Int)), true)) (k : Runs P ops N K W L l ((d, .bool (decide (p ≠ q))) :: F) l' F') : Runs P ops N K W L (o :: l) F l' F' := by
  simp only [Prod.mk.injEq, okg, Bool.and_eq_true, Option.isNone_iff_eq_none] at e
  exact .cn (r_neqN e.2.1 e.2.2.1 e.2.2.2.1) (wn e.2.2.2.2.1) e.1 e.2.2.2.2.2 k
theorem oneI [Defs] (p q : Int) (e : (o.dst, o.op, ev F x, ev F y, okg o d N) = (some d, .binOp .neq T x y U, some (.int kd p), some (.int kd q), true)) (k : Runs P ops N K W L l ((d, .bool (decide (p ≠ q))) :: F) l' F') : Runs P ops N K W L (o :: l) F l' F' := by
  simp only [Prod.mk.injEq, okg, Bool.and_eq_true, Option.isNone_iff_eq_none] at e
  exact .cn (r_neqI e.2.1 e.2.2.1 e.2.2.2.1) (wn e.2.2.2.2.1) e.1 e.2.2.2.2.2 k
theorem oadN [Defs] (p q : Nat) (hb : p + q < 9223372036854775808) (e : (o.dst, o.op, ev F x, ev F y, okg o d N) = (some d, .binOp .add T x y U, some (.int .i64 (p : Int)), some (.int .i64 (q : Int)), true)) (k : Runs P ops N K W L l ((d, .int .i64 ((p + q : Nat) : Int)) :: F) l' F') : Runs P ops N K W L (o :: l) F l' F' := by
  simp only [Prod.mk.injEq, okg, Bool.and_eq_true, Option.isNone_iff_eq_none] at e
  exact .cn (r_addN e.2.1 e.2.2.1 e.2.2.2.1 hb) (wn e.2.2.2.2.1) e.1 e.2.2.2.2.2 k
theorem oadI [Defs] (p q : Int) (hb : -9223372036854775808 ≤ p + q ∧ p + q < 9223372036854775808) (e : (o.dst, o.op, ev F x, ev F y, okg o d N) = (some d, .binOp .add T x y U, some (.int .i64 p), some (.int .i64 q), true)) (k : Runs P ops N K W L l ((d, .int .i64 (p + q)) :: F) l' F') : Runs P ops N K W L (o :: l) F l' F' := by
  simp only [Prod.mk.injEq, okg, Bool.and_eq_true, Option.isNone_iff_eq_none] at e
  exact .cn (r_addI e.2.1 e.2.2.1 e.2.2.2.1 hb) (wn e.2.2.2.2.1) e.1 e.2.2.2.2.2 k
theorem osbN [Defs] (p q : Nat) (hb : q ≤ p ∧ p < 9223372036854775808) (e : (o.dst, o.op, ev F x, ev F y, okg o d N) = (some d, .binOp .sub T x y U, some (.int .i64 (p : Int)), some (.int .i64 (q : Int)), true)) (k : Runs P ops N K W L l ((d, .int .i64 ((p - q : Nat) : Int)) :: F) l' F') : Runs P ops N K W L (o :: l) F l' F' := by
  simp only [Prod.mk.injEq, okg, Bool.and_eq_true, Option.isNone_iff_eq_none] at e
  exact .cn (r_subN e.2.1 e.2.2.1 e.2.2.2.1 hb) (wn e.2.2.2.2.1) e.1 e.2.2.2.2.2 k
theorem omlI [Defs] (p q : Int) (hb : -9223372036854775808 ≤ p * q ∧ p * q < 9223372036854775808) (e : (o.dst, o.op, ev F x, ev F y, okg o d N) = (some d, .binOp .mul T x y U, some (.int .i64 p), some (.int .i64 q), true)) (k : Runs P ops N K W L l ((d, .int .i64 (p * q)) :: F) l' F') : Runs P ops N K W L (o :: l) F l' F' := by
  simp only [Prod.mk.injEq, okg, Bool.and_eq_true, Option.isNone_iff_eq_none] at e
  exact .cn (r_mulI e.2.1 e.2.2.1 e.2.2.2.1 hb) (wn e.2.2.2.2.1) e.1 e.2.2.2.2.2 k
end
/-- A value put together, some of its parts being rows. -/
theorem r_buildS [Defs] {parts : List (Nat × Operand)} {pv : List (Nat × Value)} {cs : List Value} (ho : o.op = .build T parts.toArray) (hx : evp F parts = some pv) (hb : ∀ w, Sh K W w L → P.built T pv = some cs.toArray) : Rn P o N K W F L (.agg cs.toArray) := fun a w h => r_build ho hx (hb w h.sh) a w h
/-! ### What turns something -/
/-- A cell of a block is written. -/
def setO : List Value → Nat → Value → Option (List Value)
  | [], _, _ => none
  | _ :: r, 0, v => some (v :: r)
  | u :: r, q + 1, v => match setO r q v with
    | some l => some (u :: l)
    | none => none
theorem setO_eq : ∀ {cs : List Value} {q : Nat} {v : Value} {cs' : List Value}, setO cs q v = some cs' → q + 1 ≤ cs.length ∧ splice cs q [v] = cs'
  | [], _, _, _, h => by cases h
  | u :: r, 0, v, _, h => by cases h; exact ⟨by simp, by simp [splice]⟩
  | u :: r, q + 1, v, cs', h => by
    unfold setO at h
    split at h
    · next l hl =>
      cases h
      obtain ⟨h1, h2⟩ := setO_eq hl
      refine ⟨by simpa using h1, ?_⟩
      rw [← h2]
      simp [splice, Nat.add_right_comm q 1 1]
    · cases h
def putO : List Asn → Nat → Asn → Option (List Asn)
  | [], _, _ => none
  | _ :: r, 0, v => some (v :: r)
  | u :: r, q + 1, v => match putO r q v with
    | some l => some (u :: l)
    | none => none
theorem putO_eq : ∀ {L : List Asn} {q : Nat} {A : Asn} {L' : List Asn}, putO L q A = some L' → L.set q A = L'
  | [], _, _, _, h => by cases h
  | u :: r, 0, v, _, h => by cases h; rfl
  | u :: r, q + 1, v, cs', h => by
    unfold putO at h
    split at h
    · next l hl => cases h; rw [List.set_cons_succ, putO_eq hl]
    · cases h
theorem gst [Defs] (i : Nat) {gg : Bool} {cs' : List Value} {L2 : List Asn} (hT : tyI P T = some (gg, 1, by_, z)) (hi : L[i]? = some (.blk g E cs)) (e : (o.op, o.dst, o.guard, ev F x, ev F y, setO cs q v, putO L i (.blk g E cs')) = (.store T x y, none, none, some (.pointer (some ⟨g, q, none⟩)), some v, some cs', some L2)) (h1 : v.oneCell' = true)
    (k : ∀ a w, St N K W a w F L2 → wpList P ops Q rest a w) : ∀ a w, St N K W a w F L → wpList P ops Q (o :: rest) a w := by
  simp only [Prod.mk.injEq] at e
  obtain ⟨e1, e2, e3, e4, e5, e6, e7⟩ := e
  intro a w h
  obtain ⟨h3, h4⟩ := setO_eq e6
  refine wl_ex (x_stb (vs := [v]) h hT e1 e2 e4 e5 hi (cells_oneL h1) rfl (allOne_cons h1 allOne_nil) h3 h4) (wanted_none e3 _) fun a' w' h' => ?_
  rw [putO_eq e7] at h'
  exact k _ _ h'
theorem gal [Defs] {gg : Bool} (hT : tyI P T = some (gg, n, by_, z)) (e : (o.op, o.dst, o.guard, Nat.blt d N) = (.alloc T, some d, none, true)) (k : ∀ (b : Nat) (a : Act) (w : World), St N K W a w ((d, .pointer (some ⟨b, 0, none⟩)) :: F) (.blk b T z :: L) → wpList P ops Q rest a w) : ∀ a w, St N K W a w F L → wpList P ops Q (o :: rest) a w := by
  simp only [Prod.mk.injEq] at e
  intro a w h
  exact wl_ex (x_alloc h hT e.1 e.2.1 e.2.2.2) (wanted_none e.2.2.1 _) fun a w ⟨b, h⟩ => k b a w h
/-- .. a cell that is a row. -/
theorem gsr [Defs] {α : Type} [Enc α] {s : Ls α} (i : Nat) {gg : Bool} {cs' : List Value} {L2 : List Asn} (hT : tyI P T = some (gg, 1, by_, z)) (hi : L[i]? = some (.blk g E cs)) (hat : ∀ w, Sh K W w L → s.At w) (e : (o.op, o.dst, o.guard, ev F x, ev F y, setO cs q s.v, putO L i (.blk g E cs')) = (.store T x y, none, none, some (.pointer (some ⟨g, q, none⟩)), some s.v, some cs', some L2))
    (k : ∀ a w, St N K W a w F L2 → wpList P ops Q rest a w) : ∀ a w, St N K W a w F L → wpList P ops Q (o :: rest) a w := fun a w h => gst i hT hi e (hat w h.sh).one k a w h
def forceL : List Value → Option (List Value)
  | [] => some []
  | v :: r => match forceL r with
    | some l => some (v :: l)
    | none => none
theorem forceL_eq : ∀ {l l' : List Value}, forceL l = some l' → l = l'
  | [], _, h => by cases h; rfl
  | v :: r, _, h => by
    unfold forceL at h
    split at h
    · next l hl => cases h; rw [forceL_eq hl]
    · cases h
/-- Some cells of a block are written. -/
theorem gsw [Defs] (i : Nat) {gg : Bool} {cs' : List Value} {L2 : List Asn} (hT : tyI P T = some (gg, n, by_, z)) (hi : L[i]? = some (.blk g E cs)) (e : (o.op, o.dst, o.guard, ev F x, ev F y, Nat.beq vs.length n, Nat.ble (q + n) cs.length, forceL (splice cs q vs), putO L i (.blk g E cs')) = (.store T x y, none, none, some (.pointer (some ⟨g, q, none⟩)), some (.agg vs.toArray), true, true, some cs', some L2)) (h1 : vs.all (·.oneCell') = true)
    (k : ∀ a w, St N K W a w F L2 → wpList P ops Q rest a w) : ∀ a w, St N K W a w F L → wpList P ops Q (o :: rest) a w := by
  simp only [Prod.mk.injEq] at e
  obtain ⟨e1, e2, e3, e4, e5, e6, e7, e8, e9⟩ := e
  intro a w h
  refine wl_ex (x_stb (vs := vs) h hT e1 e2 e4 e5 hi (by simp [Value.cells]) (Nat.eq_of_beq_eq_true e6) h1 (Nat.le_of_ble_eq_true e7) (forceL_eq e8)) (wanted_none e3 _) fun a' w' h' => ?_
  rw [putO_eq e9] at h'
  exact k _ _ h'
theorem gbx [Defs] (e : (o.op, o.dst, o.guard, ev F x, Nat.blt d N) = (.box T x, some d, none, some v, true)) (hv : v.cells = cs.toArray) (k : ∀ (b : Nat) (a : Act) (w : World), St N K W a w ((d, .pointer (some ⟨b, 0, none⟩)) :: F) (.blk b T cs :: L) → wpList P ops Q rest a w) : ∀ a w, St N K W a w F L → wpList P ops Q (o :: rest) a w := by
  simp only [Prod.mk.injEq] at e
  intro a w h
  exact wl_ex (x_box h e.1 e.2.2.2.1 hv e.2.1 e.2.2.2.2) (wanted_none e.2.2.1 _) fun a w ⟨b, h⟩ => k b a w h
/-- A cell of an element is written; x' is the element behind it. -/
theorem gte [Defs] {α : Type} [Enc α] [Flat α] {s : Ls α} {i j : Nat} {gg : Bool} {L2 : List Asn} (r : Nat) (x' : α) (hT : tyI P T = some (gg, 1, by_, z)) (hi : i < s.l.length) (e : (o.op, o.dst, o.guard, L[r]?, ev F x, ev F y, Enc.sz α, Nat.blt j sz, putO L r (.own E ⟨s.v, s.l.set i x'⟩)) = (.store T x y, none, none, some (.own E s), some (.pointer (some (padr s.v sz i j))), some v, sz, true, some L2)) (h1 : v.oneCell' = true)
    (k : ∀ a w, St N K W a w F L2 → wpList P ops Q rest a w) (hx : ∀ q, q < sz → Enc.cell x' q = if q = j then v else Enc.cell (nth s.l i) q := by intro q hq; rcases q with _ | _ | _ | _ | q <;> first | rfl | omega) : ∀ a w, St N K W a w F L → wpList P ops Q (o :: rest) a w := by
  simp only [Prod.mk.injEq] at e
  obtain ⟨e1, e2, e3, e4, e5, e6, e7, e8, e9⟩ := e
  intro a w h
  refine wl_ex (x_ste h hT e1 e2 e5 e7 e4 hi (by simpa [Nat.blt_eq] using e8) e6 (cells_oneL h1) h1 hx (fun w h => Flat.inner _ _) (fun b hb => (Flat.on _ _ hb).elim)) (wanted_none e3 _) fun a' w' h' => ?_
  rw [putO_eq e9] at h'
  exact k _ _ h'
theorem gtr [Defs] {α β : Type} [Enc α] [Flat α] [Enc β] {s : Ls α} {u : Ls β} {i j : Nat} {gg : Bool} {L2 : List Asn} (r : Nat) (x' : α) (hT : tyI P T = some (gg, 1, by_, z)) (hi : i < s.l.length) (hat : ∀ w, Sh K W w L → u.At w) (e : (o.op, o.dst, o.guard, L[r]?, ev F x, ev F y, Enc.sz α, Nat.blt j sz, putO L r (.own E ⟨s.v, s.l.set i x'⟩)) = (.store T x y, none, none, some (.own E s), some (.pointer (some (padr s.v sz i j))), some u.v, sz, true, some L2))
    (k : ∀ a w, St N K W a w F L2 → wpList P ops Q rest a w) (hx : ∀ q, q < sz → Enc.cell x' q = if q = j then u.v else Enc.cell (nth s.l i) q := by intro q hq; rcases q with _ | _ | _ | _ | q <;> first | rfl | omega) : ∀ a w, St N K W a w F L → wpList P ops Q (o :: rest) a w := fun a w h => gte r x' hT hi e (hat w h.sh).one k hx a w h
/-- Calls: the law of each in one word. -/
theorem xCl [Defs] {f : Nat} {fo : Operand} {xs : List Operand} {tys : Array TypeId} {us vs ws : List Value} {R : Value → World → Prop} (h : St N K W a w F L) (hb : bodyI P f = true) (e : (o.op, o.dst, Nat.blt d N, ev F fo, evs F xs) = (.call ⟨.value fo, xs.toArray, tys⟩, some d, true, some (.func (.func f) us.toArray ws.toArray), some vs)) (hc : Rets P f (us ++ vs ++ ws) w R) : Ex P o a w (fun a' w' => ∃ v, R v w' ∧ Fr N a' ((d, v) :: F)) := by
  simp only [Prod.mk.injEq] at e
  exact x_call h hb e.1 e.2.2.2.1 e.2.2.2.2 e.2.1 e.2.2.1 hc
/-- It turns nothing; v is known. -/
theorem gP [Defs] (hx : ∀ a w, St N K W a w F L → Ex P o a w (fun a' w' => ∃ u, (u = v ∧ Sh0 w w' []) ∧ Fr N a' ((d, u) :: F))) (hg : o.guard = none) (k : ∀ a w, St N K W a w ((d, v) :: F) L → wpList P ops Q rest a w) : ∀ a w, St N K W a w F L → wpList P ops Q (o :: rest) a w :=
  fun _ w h => wl_ex (hx _ w h) (wanted_none hg _) fun a w' ⟨u, ⟨hu, hs⟩, hf⟩ => by subst hu; exact k a w' ⟨hf, h.sh.call0 hs⟩
def appO : List Asn → List Asn → Option (List Asn)
  | [], M => some M
  | A :: r, M => match appO r M with
    | some l => some (A :: l)
    | none => none
theorem appO_eq : ∀ {L M L' : List Asn}, appO L M = some L' → L ++ M = L'
  | [], M, _, h => by unfold appO at h; cases h; rfl
  | A :: r, M, _, h => by
    unfold appO at h
    split at h
    · next l hl => cases h; rw [List.cons_append, appO_eq hl]
    · cases h
/-- What a call makes comes in front. -/
theorem gC [Defs] {Rr : World → Value → World → Prop} (hx : ∀ a w, St N K W a w F L → Ex P o a w (fun a' w' => ∃ v, Rr w v w' ∧ Fr N a' ((d, v) :: F))) (hg : o.guard = none)
    (k : ∀ w v w', Rr w v w' → ∃ L' L2, Sh0 w w' L' ∧ AllNo L' ∧ appO L' L = some L2 ∧ ∀ a, St N K W a w' ((d, v) :: F) L2 → wpList P ops Q rest a w') : ∀ a w, St N K W a w F L → wpList P ops Q (o :: rest) a w :=
  fun _ w h => wl_ex (hx _ w h) (wanted_none hg _) fun a w' ⟨v, hr, hf⟩ => by
    obtain ⟨L', L2, hs, hi, e, k⟩ := k _ _ _ hr
    have := h.sh.callI hs
    rw [appO_eq e] at this
    exact k a ⟨hf, this⟩
theorem gWk [Defs] {L' L2 M : List Asn} {w w' : World} {X : Act → Prop} {F : List (Nat × Value)} [hi : AllNo L'] (hs : Sh0 w w' L') (e : appO L' M = some L2) (k : ∀ a, St N K W a w' F L2 → X a) : ∃ L' L2, Sh0 w w' L' ∧ AllNo L' ∧ appO L' M = some L2 ∧ ∀ a, St N K W a w' F L2 → X a := ⟨_, _, hs, hi, e, k⟩
/-- Whatever the world. -/
theorem gU [Defs] {w : World} (k : ∀ a w, St N K W a w F L → R a w) : ∀ a, St N K W a w F L → R a w := fun a h => k a w h
/-- .. whose guard says yes. -/
theorem qPg [Defs] {Z : Act → Prop} {f j t : Nat} {b want : Bool} {oj : Oper} {fo : Operand} {xs : List Operand} {tys : Array TypeId} {us vs ws : List Value} (hg : b = want) (hb : bodyI P f = true) (e : (o.op, o.guard, ops[j]?, oj.dst, lk F t, o.dst, Nat.blt d N, ev F fo, evs F xs) = (.call ⟨.value fo, xs.toArray, tys⟩, some (j, want), some oj, some t, some (.bool b), some d, true, some (.func (.func f) us.toArray ws.toArray), some vs)) (hc : ∀ w, Sh K W w L → Rets P f (us ++ vs ++ ws) w (fun v' w' => v' = v ∧ Sh0 w w' []))
    (k : ∀ a, Fr N a ((d, v) :: F) → wpQuiet P ops (fun w => Sh K W w L) Z rest a) : ∀ a, Fr N a F → wpQuiet P ops (fun w => Sh K W w L) Z (o :: rest) a := by
  simp only [Prod.mk.injEq] at e
  obtain ⟨e1, e2, e3, e4, e5, e6, e7, e8, e9⟩ := e
  exact fun a h => wq_call h hb e1 e8 e9 (wanted_yes h e2 e3 e4 e5 hg) e6 e7 hc k
/-- In a region that draws its order: a call that turns nothing. -/
theorem qP [Defs] {Z : Act → Prop} {f : Nat} {fo : Operand} {xs : List Operand} {tys : Array TypeId} {us vs ws : List Value} (hb : bodyI P f = true) (e : (o.op, o.guard, o.dst, Nat.blt d N, ev F fo, evs F xs) = (.call ⟨.value fo, xs.toArray, tys⟩, none, some d, true, some (.func (.func f) us.toArray ws.toArray), some vs)) (hc : ∀ w, Sh K W w L → Rets P f (us ++ vs ++ ws) w (fun v' w' => v' = v ∧ Sh0 w w' []))
    (k : ∀ a, Fr N a ((d, v) :: F) → wpQuiet P ops (fun w => Sh K W w L) Z rest a) : ∀ a, Fr N a F → wpQuiet P ops (fun w => Sh K W w L) Z (o :: rest) a := by
  simp only [Prod.mk.injEq] at e
  exact fun a h => wq_call h hb e.1 e.2.2.2.2.1 e.2.2.2.2.2 (wanted_none e.2.1 _) e.2.2.1 e.2.2.2.1 hc k
end
/-- Where the row at place i is; a row that is read. -/
theorem aO {α : Type} [Enc α] {E : TypeId} {s : Ls α} (i : Nat) (hi : L[i]? = some (.own E s)) : ∀ w, Sh K W w L → s.At w := fun w h => h.own i hi
theorem aA {α : Type} [Enc α] {s : Ls α} (i : Nat) (hi : L[i]? = some (.at_ s)) : ∀ w, Sh K W w L → s.At w := fun w h => h.at i hi
theorem aD {α : Type} [Enc α] {E : TypeId} {s : Ls α} (i : Nat) (hi : L[i]? = some (.deep E s)) : ∀ w, Sh K W w L → s.At w := fun w h => h.deep i hi
end
end Go.Proofs.YthdkmhaneellcaaGreatDoor
