/-
  Frames and states of a walk; one law for each kind of operation. It imports nothing of the dump.
-/
import Derived.Test.YthdkmhaneellcaaGreatDoorS1
import Derived.Great.BuildSlice
namespace Go.Proofs.YthdkmhaneellcaaGreatDoor
open Go.RowKit
set_option linter.unusedSimpArgs false
set_option linter.unusedVariables false

def lk : List (Nat × Value) → Nat → Option Value
  | [], _ => none
  | (t, v) :: r, u => bif Nat.beq t u then some v else lk r u
def ev (F : List (Nat × Value)) : Operand → Option Value
  | .tmp t => lk F t
  | .const v => some v
  | .global g => some (.pointer (some ⟨g, 0, none⟩))
  | .func f => some (.func (.func f) #[] #[])
def evs (F : List (Nat × Value)) : List Operand → Option (List Value)
  | [] => some []
  | x :: r => match ev F x with
    | some v => match evs F r with
      | some vs => some (v :: vs)
      | none => none
    | none => none

/-- What a walk's own function has deferred: nothing, where nothing is said of it. -/
class Defs where
  d : List Deferred
instance (priority := low) noDefs : Defs := ⟨[]⟩
structure Fr [Defs] (N : Nat) (a : Act) (F : List (Nat × Value)) : Prop where
  size : a.tmps.size = N
  defers : a.defers = Defs.d
  at_ : ∀ t v, lk F t = some v → a.tmps[t]? = some v
theorem Fr.ev [Defs] {N : Nat} {a : Act} {F : List (Nat × Value)} (h : Fr N a F) {x : Operand} {v : Value} (hx : ev F x = some v) : a.eval x = v := by
  cases x with
  | tmp t =>
    have := h.at_ t v hx
    simp [Act.eval, Array.getD_eq_getD_getElem?, this]
  | const c => simpa [Go.Proofs.YthdkmhaneellcaaGreatDoor.ev, Act.eval] using hx
  | global g => simpa [Go.Proofs.YthdkmhaneellcaaGreatDoor.ev, Act.eval] using hx
  | func f => simpa [Go.Proofs.YthdkmhaneellcaaGreatDoor.ev, Act.eval] using hx
theorem Fr.evs [Defs] {N : Nat} {a : Act} {F : List (Nat × Value)} (h : Fr N a F) : ∀ {xs : List Operand} {vs : List Value}, evs F xs = some vs → xs.map a.eval = vs
  | [], vs, hx => by simp [Go.Proofs.YthdkmhaneellcaaGreatDoor.evs] at hx; simp [hx]
  | x :: r, vs, hx => by
    unfold Go.Proofs.YthdkmhaneellcaaGreatDoor.evs at hx
    split at hx
    · rename_i v hv
      split at hx
      · rename_i us hu
        simp only [Option.some.injEq] at hx
        subst hx
        simp [h.ev hv, h.evs hu]
      · cases hx
    · cases hx
theorem beq_no {d t : Nat} (h : d ≠ t) : Nat.beq d t = false := by
  cases hb : Nat.beq d t
  · rfl
  · exact absurd (Nat.eq_of_beq_eq_true hb) h
theorem lk_cons (d : Nat) (v : Value) (F : List (Nat × Value)) (t : Nat) : lk ((d, v) :: F) t = if d = t then some v else lk F t := by
  show (bif Nat.beq d t then some v else lk F t) = _
  by_cases h : d = t
  · subst h; simp
  · simp [h, beq_no h]
theorem Fr.put [Defs] {N : Nat} {a : Act} {F : List (Nat × Value)} (h : Fr N a F) (d : Nat) (hd : d < N) (v : Value) : Fr N (a.put (some d) v) ((d, v) :: F) := by
  refine ⟨by simp [Act.put, h.size], h.defers, fun t u htu => ?_⟩
  rw [lk_cons] at htu
  simp only [Act.put, Array.getElem?_setIfInBounds]
  by_cases e : d = t
  · subst e; simp at htu; simp [htu, h.size, hd]
  · simp [e] at htu ⊢; exact h.at_ t u htu
/-- A guarded operation that is passed over: nothing is said of its slot any more. -/
def rm (d : Nat) : List (Nat × Value) → List (Nat × Value)
  | [] => []
  | (t, v) :: r => bif Nat.beq d t then rm d r else (t, v) :: rm d r
theorem lk_rm (d : Nat) : ∀ (F : List (Nat × Value)) (t : Nat) (v : Value), lk (rm d F) t = some v → d ≠ t ∧ lk F t = some v
  | [], t, v, h => by simp [rm, lk] at h
  | (u, x) :: r, t, v, h => by
    unfold rm at h
    by_cases e : d = u
    · subst e
      have e1 : Nat.beq d d = true := by simp
      rw [e1, cond_true] at h
      obtain ⟨h1, h2⟩ := lk_rm d r t v h
      exact ⟨h1, by rw [lk_cons, if_neg h1]; exact h2⟩
    · have e1 : Nat.beq d u = false := beq_no e
      rw [e1, cond_false, lk_cons] at h
      by_cases e2 : u = t
      · subst e2
        rw [if_pos rfl] at h
        exact ⟨e, by rw [lk_cons, if_pos rfl]; exact h⟩
      · rw [if_neg e2] at h
        obtain ⟨h1, h2⟩ := lk_rm d r t v h
        exact ⟨h1, by rw [lk_cons, if_neg e2]; exact h2⟩
theorem Fr.skip [Defs] {N : Nat} {a : Act} {F : List (Nat × Value)} (h : Fr N a F) (d : Nat) : Fr N (a.put (some d) undef) (rm d F) := by
  refine ⟨by simp [Act.put, h.size], h.defers, fun t u htu => ?_⟩
  obtain ⟨h1, h2⟩ := lk_rm d F t u htu
  simp only [Act.put, Array.getElem?_setIfInBounds, if_neg h1]
  exact h.at_ t u h2
def frOK (F : List (Nat × Value)) : List (Nat × Value) → Prop
  | [] => True
  | (t, v) :: r => lk F t = some v ∧ frOK F r
theorem Fr.sub [Defs] {N : Nat} {a : Act} {F F' : List (Nat × Value)} (h : Fr N a F) (hs : frOK F F') : Fr N a F' := by
  refine ⟨h.size, h.defers, fun t v htv => h.at_ t v ?_⟩
  induction F' with
  | nil => simp [lk] at htv
  | cons x r ih =>
    obtain ⟨u, z⟩ := x
    rw [lk_cons] at htv
    by_cases e : u = t
    · subst e; simp at htv; subst htv; exact hs.1
    · simp [e] at htv; exact ih hs.2 htv

theorem Fr.same [Defs] {N : Nat} {a : Act} {F : List (Nat × Value)} (h : Fr N a F) {d : Nat} {v v' : Value} (hd : lk F d = some v) (e : v = v') : Fr N a ((d, v') :: F) := by
  subst e
  refine ⟨h.size, h.defers, fun t u htu => ?_⟩
  rw [lk_cons] at htu
  by_cases e : d = t
  · subst e; simp at htu; subst htu; exact h.at_ _ _ hd
  · rw [if_neg e] at htu; exact h.at_ t u htu
/-- A state of the walk: slots, resources. -/
structure St [Defs] (N : Nat) (K : Nat → Prop) (W : World) (a : Act) (w : World) (F : List (Nat × Value)) (L : List Asn) : Prop where
  fr : Fr N a F
  sh : Sh K W w L

section
variable {P : Program} {N : Nat} {K : Nat → Prop} {W w : World} {a : Act} {F F' : List (Nat × Value)} {L L' : List Asn} {o : Oper} {ops : Array Oper} {rest : List Oper} {Q : Exit → Act → World → Prop}

theorem St.sub [Defs] (h : St N K W a w F L) (hs : frOK F F') : St N K W a w F' L := ⟨h.fr.sub hs, h.sh⟩
theorem St.sel [Defs] (h : St N K W a w F L) (is : List Nat) (hs : selB L is = some L') : St N K W a w F L' := ⟨h.fr, h.sh.sel is hs⟩
theorem St.nrm [Defs] (h : St N K W a w F L) (hs : frOK F F') (is : List Nat) (hl : selB L is = some L') : St N K W a w F' L' := ⟨h.fr.sub hs, h.sh.sel is hl⟩
theorem St.nf [Defs] (h : St N K W a w F L) (hs : frOK F F') : St N K W a w F' L := ⟨h.fr.sub hs, h.sh⟩
theorem St.same [Defs] {d : Nat} {v v' : Value} (h : St N K W a w F L) (hd : lk F d = some v) (e : v = v') : St N K W a w ((d, v') :: F) L := ⟨h.fr.same hd e, h.sh⟩
theorem St.drew [Defs] (h : St N K W a w F L) : St N K W a w.drew F L := ⟨h.fr, h.sh.drew⟩

/-- The operation is carried out; what it leaves. -/
def Ex (P : Program) (o : Oper) (a : Act) (w : World) (R : Act → World → Prop) : Prop := ∀ (next : Act → World → Prop) (Q : Exit → Act → World → Prop), (∀ a' w', R a' w' → next a' w') → o.wp P a w next Q
/-- The operation yields v, in every state of this kind; it turns nothing. -/
def Rn [Defs] (P : Program) (o : Oper) (N : Nat) (K : Nat → Prop) (W : World) (F : List (Nat × Value)) (L : List Asn) (v : Value) : Prop := ∀ a w, St N K W a w F L → (execOp a.eval o).run P w = .ok (.value v) w

theorem Ex.of_run {R : Act → World → Prop} {v : Value} {w' : World} (hr : (execOp a.eval o).run P w = .ok (.value v) w') (h : R (a.put o.dst v) w') : Ex P o a w R := by
  intro next Q hn
  unfold Oper.wp
  rw [hr]
  exact hn _ _ h
theorem Ex.of_skip {R : Act → World → Prop} {w' : World} (hr : (execOp a.eval o).run P w = .ok .skip w') (h : R (a.put o.dst undef) w') : Ex P o a w R := by
  intro next Q hn
  unfold Oper.wp
  rw [hr]
  exact hn _ _ h
theorem Ex.mono {R R' : Act → World → Prop} (h : Ex P o a w R) (hr : ∀ a' w', R a' w' → R' a' w') : Ex P o a w R' := fun next Q hn => h next Q fun a' w' x => hn a' w' (hr a' w' x)

theorem wanted_none (hg : o.guard = none) (y : Nat → Option Bool) : Region.wanted o y = true := by simp [Region.wanted, hg]
theorem yielded_of [Defs] {a : Act} {t j : Nat} {oj : Oper} {b : Bool} (h : Fr N a F) (hj : ops[j]? = some oj) (hd : oj.dst = some t) (hv : lk F t = some (.bool b)) : yielded ops a.tmps j = some b := by
  unfold yielded
  simp [hj, hd, h.at_ t _ hv]
theorem wanted_yes [Defs] {a : Act} {t j : Nat} {oj : Oper} {b want : Bool} (h : Fr N a F) (hg : o.guard = some (j, want)) (hj : ops[j]? = some oj) (hd : oj.dst = some t) (hv : lk F t = some (.bool b)) (hb : b = want) : Region.wanted o (yielded ops a.tmps) = true := by
  simp [Region.wanted, hg, yielded_of h hj hd hv, hb]
theorem wanted_no [Defs] {a : Act} {t j : Nat} {oj : Oper} {b want : Bool} (h : Fr N a F) (hg : o.guard = some (j, want)) (hj : ops[j]? = some oj) (hd : oj.dst = some t) (hv : lk F t = some (.bool b)) (hb : b = !want) : Region.wanted o (yielded ops a.tmps) = false := by
  rw [Region.wanted, hg]
  show (yielded ops a.tmps j == some want) = false
  rw [yielded_of h hj hd hv, hb]
  cases want <;> rfl
/-- Its guard hangs on an operation that was itself passed over. -/
theorem wanted_no2 [Defs] {a : Act} {t j : Nat} {oj : Oper} {want : Bool} (h : Fr N a F) (hg : o.guard = some (j, want)) (hj : ops[j]? = some oj) (hd : oj.dst = some t) (hv : lk F t = some undef) : Region.wanted o (yielded ops a.tmps) = false := by
  rw [Region.wanted, hg]
  show (yielded ops a.tmps j == some want) = false
  unfold yielded
  simp [hj, hd, h.at_ t _ hv, undef]

/-- VALUE OPERATIONS in the text's order. -/
theorem wl_val [Defs] {d : Nat} {v : Value} (h : St N K W a w F L) (hr : Rn P o N K W F L v) (hw : Region.wanted o (yielded ops a.tmps) = true) (hd : o.dst = some d) (hdN : Nat.blt d N = true)
    (k : ∀ a', St N K W a' w ((d, v) :: F) L → wpList P ops Q rest a' w) : wpList P ops Q (o :: rest) a w := by
  unfold wpList
  rw [if_pos hw]
  left
  unfold Oper.wp
  rw [hr a w h]
  exact k _ ⟨by rw [hd]; exact h.fr.put d (by simpa [Nat.blt_eq] using hdN) v, h.sh⟩
def okg (o : Oper) (d N : Nat) : Bool := o.guard.isNone && Nat.blt d N
/-- The same, of an operation without a guard. -/
theorem wv [Defs] {d : Nat} {v : Value} (h : St N K W a w F L) (hr : Rn P o N K W F L v) (hd : o.dst = some d) (hc : okg o d N = true)
    (k : ∀ a', St N K W a' w ((d, v) :: F) L → wpList P ops Q rest a' w) : wpList P ops Q (o :: rest) a w := by
  simp only [okg, Bool.and_eq_true, Option.isNone_iff_eq_none] at hc
  exact wl_val h hr (wanted_none hc.1 _) hd hc.2 k
/-- Some moves at once. -/
def mvN (N : Nat) : Nat → List Oper → List (Nat × Value) → Option (List Oper × List (Nat × Value))
  | 0, l, F => some (l, F)
  | _ + 1, [], _ => none
  | n + 1, o :: l, F => match o.guard, o.dst, o.op with
    | none, some d, .move x => match ev F x with
      | some v => bif Nat.blt d N then mvN N n l ((d, v) :: F) else none
      | none => none
    | none, some d, .assign x => match ev F x with
      | some v => bif Nat.blt d N then mvN N n l ((d, v) :: F) else none
      | none => none
    | _, _, _ => none
theorem wl_ex {R : Act → World → Prop} (hx : Ex P o a w R) (hw : Region.wanted o (yielded ops a.tmps) = true) (k : ∀ a' w', R a' w' → wpList P ops Q rest a' w') : wpList P ops Q (o :: rest) a w := by
  unfold wpList
  rw [if_pos hw]
  exact .inl (hx _ _ k)
theorem wl_skip [Defs] {d : Nat} (h : St N K W a w F L) (hw : Region.wanted o (yielded ops a.tmps) = false) (hd : o.dst = some d) (hdN : Nat.blt d N = true) (k : ∀ a', St N K W a' w ((d, undef) :: F) L → wpList P ops Q rest a' w) : wpList P ops Q (o :: rest) a w := by
  unfold wpList
  rw [if_neg (by simp [hw])]
  exact k _ ⟨by rw [hd]; exact h.fr.put d (by simpa [Nat.blt_eq] using hdN) undef, h.sh⟩
/-! ### Quiet regions -/
theorem wq_val [Defs] {d : Nat} {v : Value} {Q : Act → Prop} (h : Fr N a F) (hr : Rn P o N K W F L v) (hw : Region.wanted o (yielded ops a.tmps) = true) (hd : o.dst = some d) (hdN : Nat.blt d N = true)
    (k : ∀ a', Fr N a' ((d, v) :: F) → wpQuiet P ops (fun w => Sh K W w L) Q rest a') : wpQuiet P ops (fun w => Sh K W w L) Q (o :: rest) a := by
  unfold wpQuiet
  rw [if_pos hw]
  refine ⟨v, fun w hw => ?_, k _ (by rw [hd]; exact h.put d (by simpa [Nat.blt_eq] using hdN) v)⟩
  unfold Oper.quietAt
  rw [hr a w ⟨h, hw⟩]
  exact ⟨rfl, rfl⟩
theorem wq_skip [Defs] {d : Nat} {Q : Act → Prop} (h : Fr N a F) (hw : Region.wanted o (yielded ops a.tmps) = false) (hd : o.dst = some d) (hdN : Nat.blt d N = true)
    (k : ∀ a', Fr N a' ((d, undef) :: F) → wpQuiet P ops (fun w => Sh K W w L) Q rest a') : wpQuiet P ops (fun w => Sh K W w L) Q (o :: rest) a := by
  unfold wpQuiet
  rw [if_neg (by simp [hw])]
  exact k _ (by rw [hd]; exact h.put d (by simpa [Nat.blt_eq] using hdN) undef)
theorem x_quiet [Defs] {id : Nat} {l : List Oper} (hm : P.follows .mixedOrders = true) (hB : Region.lexB .any l.toArray = true) (h : St N K W a w F L)
    (k : ∀ Z : Act → Prop, (∀ a', (∀ w', Sh K W w' L → Q .normal a' w') → Z a') → wpQuiet P l.toArray (fun w' => Sh K W w' L) Z l a) : (Code.region id l.toArray true).wp P Q a w := by
  refine wp_region_quiet (C := fun w' => Sh K W w' L) hm hB h.sh.drew ?_
  simpa using k (fun a' => ∀ w', Sh K W w' L → Q .normal a' w') (fun _ h => h)

/-! ### Values -/
theorem Rn.of [Defs] {v : Value} (h : ∀ a w, St N K W a w F L → (execOp a.eval o).run P w = .ok (.value v) w) : Rn P o N K W F L v := h
theorem r_move [Defs] {x : Operand} {v : Value} (ho : o.op = .move x) (hx : ev F x = some v) : Rn P o N K W F L v := fun a w h => by unfold execOp; simp [ho, h.fr.ev hx]
theorem r_assign [Defs] {x : Operand} {v : Value} (ho : o.op = .assign x) (hx : ev F x = some v) : Rn P o N K W F L v := fun a w h => by unfold execOp; simp [ho, h.fr.ev hx]
theorem r_pickT [Defs] {c x y : Operand} {b : Bool} {u : Value} (ho : o.op = .pick c x y) (hc : ev F c = some (.bool b)) (hb : b = true) (hx : ev F x = some u) : Rn P o N K W F L u := fun a w h => by
  unfold execOp; simp [ho, h.fr.ev hc, h.fr.ev hx, asBool, hb]
theorem r_pickF [Defs] {c x y : Operand} {b : Bool} {u : Value} (ho : o.op = .pick c x y) (hc : ev F c = some (.bool b)) (hb : b = false) (hy : ev F y = some u) : Rn P o N K W F L u := fun a w h => by
  unfold execOp; simp [ho, h.fr.ev hc, h.fr.ev hy, asBool, hb]
theorem r_not [Defs] {T : TypeId} {x : Operand} {b : Bool} (ho : o.op = .unOp .not T x) (hx : ev F x = some (.bool b)) : Rn P o N K W F L (.bool (!b)) := fun a w h => by
  unfold execOp; simp [ho, h.fr.ev hx, Op.unary]
theorem r_extract [Defs] {x : Operand} {i : Nat} {vs : Array Value} {v : Value} (ho : o.op = .extract x i) (hx : ev F x = some (.tuple vs)) (hv : vs[i]? = some v) : Rn P o N K W F L v := fun a w h => by
  unfold execOp; simp [ho, h.fr.ev hx, Instr.extract, hv]
theorem r_nil [Defs] {x : Operand} {p : Addr} (ho : o.op = .nilCheck x) (hx : ev F x = some (.pointer (some p))) : Rn P o N K W F L (.pointer (some p)) := fun a w h => by
  unfold execOp; simp [ho, h.fr.ev hx]
theorem r_makeFunc [Defs] {fn : Fn} {xs ys : List Operand} {us vs : List Value} (ho : o.op = .makeFunc fn xs.toArray ys.toArray) (hx : evs F xs = some us) (hy : evs F ys = some vs) : Rn P o N K W F L (.func fn us.toArray vs.toArray) := fun a w h => by
  unfold execOp; simp [ho, h.fr.evs hx, h.fr.evs hy, Instr.makeFunc]

/-! Integers: N: both are numbers of Lean's Nat; I: they are not; W: it may wrap. -/
section
variable {T U : TypeId} {x y : Operand}
theorem r_bin [Defs] {op : BinOp} {k : IntKind} {p q : Int} {v : Value} (ho : o.op = .binOp op T x y U) (hx : ev F x = some (.int k p)) (hy : ev F y = some (.int k q)) (hv : ∀ w, (binOp op T (.int k p) (.int k q)).run P w = .ok v w) : Rn P o N K W F L v := fun a w h => by
  unfold execOp; simp only [ho, h.fr.ev hx, h.fr.ev hy, eqGuard_at_int, Sem.run_bind, Sem.run_pure, Result.andThen_ok, hv]
theorem r_addW [Defs] {p q : Int} (ho : o.op = .binOp .add T x y U) (hx : ev F x = some (.int .i64 p)) (hy : ev F y = some (.int .i64 q)) : Rn P o N K W F L (.int .i64 (wrap64 (p + q))) := r_bin ho hx hy fun w => by simp [go_sem]; exact IntWalk.i64_left _
theorem r_subW [Defs] {p q : Int} (ho : o.op = .binOp .sub T x y U) (hx : ev F x = some (.int .i64 p)) (hy : ev F y = some (.int .i64 q)) : Rn P o N K W F L (.int .i64 (wrap64 (p - q))) := r_bin ho hx hy fun w => by simp [go_sem]; exact IntWalk.i64_left _
theorem r_mulW [Defs] {p q : Int} (ho : o.op = .binOp .mul T x y U) (hx : ev F x = some (.int .i64 p)) (hy : ev F y = some (.int .i64 q)) : Rn P o N K W F L (.int .i64 (wrap64 (p * q))) := r_bin ho hx hy fun w => by simp [go_sem]; exact IntWalk.i64_left _
theorem r_addI [Defs] {p q : Int} (ho : o.op = .binOp .add T x y U) (hx : ev F x = some (.int .i64 p)) (hy : ev F y = some (.int .i64 q)) (hb : -9223372036854775808 ≤ p + q ∧ p + q < 9223372036854775808) : Rn P o N K W F L (.int .i64 (p + q)) := by
  have := r_addW (P := P) (N := N) (K := K) (W := W) (L := L) ho hx hy; rwa [IntWalk.wrap64_in _ ⟨by omega, by omega⟩] at this
theorem r_subI [Defs] {p q : Int} (ho : o.op = .binOp .sub T x y U) (hx : ev F x = some (.int .i64 p)) (hy : ev F y = some (.int .i64 q)) (hb : -9223372036854775808 ≤ p - q ∧ p - q < 9223372036854775808) : Rn P o N K W F L (.int .i64 (p - q)) := by
  have := r_subW (P := P) (N := N) (K := K) (W := W) (L := L) ho hx hy; rwa [IntWalk.wrap64_in _ ⟨by omega, by omega⟩] at this
theorem r_mulI [Defs] {p q : Int} (ho : o.op = .binOp .mul T x y U) (hx : ev F x = some (.int .i64 p)) (hy : ev F y = some (.int .i64 q)) (hb : -9223372036854775808 ≤ p * q ∧ p * q < 9223372036854775808) : Rn P o N K W F L (.int .i64 (p * q)) := by
  have := r_mulW (P := P) (N := N) (K := K) (W := W) (L := L) ho hx hy; rwa [IntWalk.wrap64_in _ ⟨by omega, by omega⟩] at this
theorem r_addN [Defs] {p q : Nat} (ho : o.op = .binOp .add T x y U) (hx : ev F x = some (.int .i64 (p : Int))) (hy : ev F y = some (.int .i64 (q : Int))) (hb : p + q < 9223372036854775808) : Rn P o N K W F L (.int .i64 ((p + q : Nat) : Int)) := by
  rw [Int.natCast_add]; exact r_addI ho hx hy (by omega)
theorem r_subN [Defs] {p q : Nat} (ho : o.op = .binOp .sub T x y U) (hx : ev F x = some (.int .i64 (p : Int))) (hy : ev F y = some (.int .i64 (q : Int))) (hb : q ≤ p ∧ p < 9223372036854775808) : Rn P o N K W F L (.int .i64 ((p - q : Nat) : Int)) := by
  rw [Int.natCast_sub hb.1]; exact r_subI ho hx hy (by omega)
theorem r_lssI [Defs] {k : IntKind} {p q : Int} (ho : o.op = .binOp .lss T x y U) (hx : ev F x = some (.int k p)) (hy : ev F y = some (.int k q)) : Rn P o N K W F L (.bool (decide (p < q))) := r_bin ho hx hy fun w => by simp [go_sem]
theorem r_leqI [Defs] {k : IntKind} {p q : Int} (ho : o.op = .binOp .leq T x y U) (hx : ev F x = some (.int k p)) (hy : ev F y = some (.int k q)) : Rn P o N K W F L (.bool (decide (p ≤ q))) := r_bin ho hx hy fun w => by simp [go_sem]
theorem r_gtrI [Defs] {k : IntKind} {p q : Int} (ho : o.op = .binOp .gtr T x y U) (hx : ev F x = some (.int k p)) (hy : ev F y = some (.int k q)) : Rn P o N K W F L (.bool (decide (q < p))) := r_bin ho hx hy fun w => by simp [go_sem]
theorem r_geqI [Defs] {k : IntKind} {p q : Int} (ho : o.op = .binOp .geq T x y U) (hx : ev F x = some (.int k p)) (hy : ev F y = some (.int k q)) : Rn P o N K W F L (.bool (decide (q ≤ p))) := r_bin ho hx hy fun w => by simp [go_sem]
theorem r_eqlI [Defs] {k : IntKind} {p q : Int} (ho : o.op = .binOp .eql T x y U) (hx : ev F x = some (.int k p)) (hy : ev F y = some (.int k q)) : Rn P o N K W F L (.bool (decide (p = q))) := r_bin ho hx hy fun w => by simp [go_sem]; rfl
theorem r_neqI [Defs] {k : IntKind} {p q : Int} (ho : o.op = .binOp .neq T x y U) (hx : ev F x = some (.int k p)) (hy : ev F y = some (.int k q)) : Rn P o N K W F L (.bool (decide (p ≠ q))) := r_bin ho hx hy fun w => by
  simp [go_sem, bne]; rfl
theorem r_lssN [Defs] {k : IntKind} {p q : Nat} (ho : o.op = .binOp .lss T x y U) (hx : ev F x = some (.int k (p : Int))) (hy : ev F y = some (.int k (q : Int))) : Rn P o N K W F L (.bool (decide (p < q))) := by
  have := r_lssI (P := P) (N := N) (K := K) (W := W) (L := L) ho hx hy; simpa using this
theorem r_gtrN [Defs] {k : IntKind} {p q : Nat} (ho : o.op = .binOp .gtr T x y U) (hx : ev F x = some (.int k (p : Int))) (hy : ev F y = some (.int k (q : Int))) : Rn P o N K W F L (.bool (decide (q < p))) := by
  have := r_gtrI (P := P) (N := N) (K := K) (W := W) (L := L) ho hx hy; simpa using this
theorem r_geqN [Defs] {k : IntKind} {p q : Nat} (ho : o.op = .binOp .geq T x y U) (hx : ev F x = some (.int k (p : Int))) (hy : ev F y = some (.int k (q : Int))) : Rn P o N K W F L (.bool (decide (q ≤ p))) := by
  have := r_geqI (P := P) (N := N) (K := K) (W := W) (L := L) ho hx hy; simpa using this
theorem r_eqlN [Defs] {k : IntKind} {p q : Nat} (ho : o.op = .binOp .eql T x y U) (hx : ev F x = some (.int k (p : Int))) (hy : ev F y = some (.int k (q : Int))) : Rn P o N K W F L (.bool (decide (p = q))) := by
  have := r_eqlI (P := P) (N := N) (K := K) (W := W) (L := L) ho hx hy
  have e : decide ((p : Int) = (q : Int)) = decide (p = q) := by simp; omega
  rwa [e] at this
theorem r_neqN [Defs] {k : IntKind} {p q : Nat} (ho : o.op = .binOp .neq T x y U) (hx : ev F x = some (.int k (p : Int))) (hy : ev F y = some (.int k (q : Int))) : Rn P o N K W F L (.bool (decide (p ≠ q))) := by
  have := r_neqI (P := P) (N := N) (K := K) (W := W) (L := L) ho hx hy
  have e : decide ((p : Int) ≠ (q : Int)) = decide (p ≠ q) := by simp; omega
  rwa [e] at this
end
end
end Go.Proofs.YthdkmhaneellcaaGreatDoor
