/-
  Calls that may panic. It imports nothing of the dump.
-/
import Derived.Test.YthdkmhaneellcaaGreatDoorS43
import Derived.StillTail
import Derived.Scope
import Derived.WalkSmall
import Derived.Laws.Build
namespace Go.Proofs.YthdkmhaneellcaaGreatDoor
open Go.RowKit
set_option linter.unusedSimpArgs false
set_option linter.unusedVariables false

/-- What a call comes to that hands a value back or throws one. -/
def EndP (R X : Value → World → Prop) (e : Ending) (w : World) : Prop := (∃ v, e = .returned v ∧ R v w) ∨ ∃ x, e = .panicked [{ v := x, recovered := false }] ∧ X x w
def RetsP (P : Program) (f : FuncId) (vs : List Value) (w : World) (R X : Value → World → Prop) : Prop := Calls P f vs.toArray w (EndP R X)
section
variable {P : Program} {N : Nat} {K : Nat → Prop} {W w : World} {a : Act} {F F' F2 : List (Nat × Value)} {L L' : List Asn} {o : Oper} {ops : Array Oper} {l l' l2 rest : List Oper} {Q : Exit → Act → World → Prop} {c c' : Code} {fn : Func} {R X : Value → World → Prop}
theorem RetsP.mono {f : FuncId} {vs : List Value} {R R' X X' : Value → World → Prop} (h : RetsP P f vs w R X) (hr : ∀ v w', R v w' → R' v w') (hx : ∀ v w', X v w' → X' v w') : RetsP P f vs w R' X' :=
  Calls.mono h fun _ _ h => h.imp (fun ⟨v, e, r⟩ => ⟨v, e, hr v _ r⟩) (fun ⟨v, e, r⟩ => ⟨v, e, hx v _ r⟩)
theorem Rets.toP {f : FuncId} {vs : List Value} (h : Rets P f vs w R) : RetsP P f vs w R X := Calls.mono h fun _ _ h => .inl h
theorem bodyPost_mono {R R' : Ending → World → Prop} (h : ∀ e w, R e w → R' e w) : ∀ {e : Exit} {a : Act} {w : World}, bodyPost P fn R e a w → bodyPost P fn R' e a w
  | .normal, _, _, ⟨h1, v, h2, h3⟩ => ⟨h1, v, h2, h _ _ h3⟩
  | .ret, _, _, ⟨h1, v, h2, h3⟩ => ⟨h1, v, h2, h _ _ h3⟩
  | .panic _, _, _, ⟨h1, h2⟩ => ⟨h1, h _ _ h2⟩
  | .outgrown, _, _, h1 => h _ _ h1
  | .exit _, _, _, h1 => h1
  | .goto _, _, _, h1 => h1
/-- A return of a function that may panic. -/
theorem rP {e : Exit} (h : bodyPost P fn (fun e w' => ∃ v, e = .returned v ∧ R v w') e a w) : bodyPost P fn (EndP R X) e a w := bodyPost_mono (fun _ _ h => .inl h) h
/-- A panic. -/
theorem pnP {x : Value} (h : St N K W a w F L) (hx : X x w) : bodyPost P fn (EndP R X) (.panic [{ v := x, recovered := false }]) a w := ⟨h.fr.defers, .inr ⟨x, rfl, hx⟩⟩
theorem pnF {x : Value} (h : Fr N a F) (hx : X x w) : bodyPost P fn (EndP R X) (.panic [{ v := x, recovered := false }]) a w := ⟨h.defers, .inr ⟨x, rfl, hx⟩⟩
/-- Entering a function that may panic. -/
theorem genP {f : FuncId} {vs : List Value} (hf : P.funcs[f]? = some fn) (hN : fn.ntmps = N) (hS : Sh K W W L) (e : (fn.body, argF vs, Nat.ble vs.length N) = (some c, some F, true)) (k : ∀ a, St N K W a W F L → c.wp P (bodyPost P fn (EndP R X)) a W) : RetsP P f vs W R X := by
  simp only [Prod.mk.injEq] at e
  have hl : vs.length ≤ N := Nat.le_of_ble_eq_true e.2.2
  refine calls_of_wp hf e.1 (k _ ⟨⟨?_, rfl, fun t v htv => ?_⟩, hS⟩)
  · simp [hN]; omega
  · have key : ∀ (vs : List Value) (k t : Nat) (v : Value), lk ((vs.zipIdx k).map fun x => (x.2, x.1)) t = some v → k ≤ t ∧ vs[t - k]? = some v := by
      intro vs
      induction vs with
      | nil => intro k t v h; simp [lk] at h
      | cons x r ih =>
        intro k t v h
        rw [List.zipIdx_cons, List.map_cons, lk_cons] at h
        by_cases e : k = t
        · subst e; simp at h; simp [h]
        · rw [if_neg e] at h
          obtain ⟨h1, h2⟩ := ih (k + 1) t v h
          refine ⟨by omega, ?_⟩
          have : t - k = (t - (k + 1)) + 1 := by omega
          rw [this, List.getElem?_cons_succ]; exact h2
    obtain ⟨_, h2⟩ := key vs 0 t v (by rw [argF_eq e.2.1]; exact htv)
    rw [Nat.sub_zero] at h2
    have hlt := (List.getElem?_eq_some_iff.1 h2).1
    rw [Array.getElem?_append_left (by simpa using hlt)]
    simpa using h2
/-- A call that may panic. -/
theorem wl_callP [Defs] {d f : Nat} {fo : Operand} {xs : List Operand} {tys : Array TypeId} {us vs ws : List Value} (h : St N K W a w F L) (hb : bodyI P f = true) (ho : o.op = .call ⟨.value fo, xs.toArray, tys⟩) (hf : ev F fo = some (.func (.func f) us.toArray ws.toArray))
    (hx : evs F xs = some vs) (hd : o.dst = some d) (hdN : Nat.blt d N = true) (hg : Region.wanted o (yielded ops a.tmps) = true) (hc : RetsP P f (us ++ vs ++ ws) w R X)
    (hp : ∀ x w', X x w' → Q (.panic [{ v := x, recovered := false }]) a w') (k : ∀ a' w', (∃ v, R v w' ∧ Fr N a' ((d, v) :: F)) → wpList P ops Q rest a' w') : wpList P ops Q (o :: rest) a w := by
  have hrun : (execOp a.eval o).run P w = .ok (.enter f (us ++ vs ++ ws).toArray) w := by
    unfold execOp
    simp [ho, resolve, h.fr.ev hf, h.fr.evs hx, Deferred.ofValue, invoke, run_callFunc hb]
  unfold wpList
  rw [hg, if_pos rfl]
  refine .inl ?_
  unfold Oper.wp
  rw [hrun]
  show Calls P f (us ++ vs ++ ws).toArray w _
  refine Calls.mono hc ?_
  rintro e w' (⟨v, rfl, hr⟩ | ⟨x, rfl, hx⟩)
  · exact k _ _ ⟨v, hr, by rw [hd]; exact h.fr.put d (by simpa [Nat.blt_eq] using hdN) v⟩
  · exact hp x w' hx
/-- A panic of one's own. -/
theorem wl_panic [Defs] {v : Value} (h : St N K W a w F L) (hg : Region.wanted o (yielded ops a.tmps) = true) (hr : (execOp a.eval o).run P w = .halt (.panic v) w) (hp : Q (.panic [{ v := v, recovered := false }]) a w) : wpList P ops Q (o :: rest) a w := by
  unfold wpList
  rw [hg, if_pos rfl]
  refine .inl ?_
  unfold Oper.wp
  rw [hr]
  exact hp
/-- Operations that turn nothing, in one world. -/
theorem Runs.goS [Defs] {Z : Act → Prop} (r : Runs P ops N K W L l F l' F') (hw : Sh K W w L) : ∀ {a : Act}, Fr N a F → (∀ a, Fr N a F' → wpStill P ops w Z l' a) → wpStill P ops w Z l a := by
  induction r with
  | nl => exact fun h k => k _ h
  | cn hr hg hd hN _ ih =>
    intro a h k
    unfold wpStill
    rw [if_pos (hg _ h)]
    unfold Oper.still
    rw [hr a w ⟨h, hw⟩]
    exact ⟨rfl, ih (by rw [hd]; exact h.put _ (by simpa [Nat.blt_eq] using hN) _) k⟩
  | sk hg hd hN _ ih =>
    intro a h k
    unfold wpStill
    rw [if_neg (by rw [hg _ h]; decide)]
    exact ih (by rw [hd]; exact h.put _ (by simpa [Nat.blt_eq] using hN) _) k
/-- A region that draws its order, the last operations standing behind all others, in the text's order; those ahead turn nothing. What the last ones do may throw. -/
theorem rTP [Defs] {id : Nat} (n : Nat) (r : Runs P l.toArray N K W L (l.take n) F [] F') (k : ∀ a w, St N K W a w F' L → wpList P l.toArray Q (l.drop n) a w)
    (hm : P.follows .mixedOrders = true := by kernel_rfl) (hB : Region.lexTailB .any l.toArray n = true := by kernel_rfl) : ∀ a w, St N K W a w F L → (Code.region id l.toArray true).wp P Q a w :=
  fun _ w h => wp_region_still_tail n hm hB (r.goS h.sh.drew h.fr fun a hf => wpStill_nil (k a _ ⟨hf, h.sh.drew⟩))
theorem wl_panicI [Defs] {x : Operand} {T : TypeId} {v : Value} (h : St N K W a w F L) (ho : o.op = .panic x) (hx : ev F x = some (.iface T v)) (hg : Region.wanted o (yielded ops a.tmps) = true) (hp : Q (.panic [{ v := .iface T v, recovered := false }]) a w) : wpList P ops Q (o :: rest) a w :=
  wl_panic h hg (by unfold execOp; simp [ho, h.fr.ev hx, run_panic_iface]) hp
theorem r_mkIfV [Defs] {T : TypeId} {x : Operand} {u : Value} (ho : o.op = .makeInterface T x) (hx : ev F x = some u) (hT : P.concrete T = true) : Rn P o N K W F L (.iface T u) := fun a w h => by
  unfold execOp
  simp [ho, h.fr.ev hx, run_makeInterface _ T u hT]
/-- What two outcomes come to, when one is shut out. -/
theorem RetsP.ret {f : FuncId} {vs : List Value} (h : RetsP P f vs w R X) (hx : ∀ x w', ¬ X x w') : Rets P f vs w R := Calls.mono h fun _ _ h => h.elim id fun ⟨x, _, hX⟩ => absurd hX (hx x _)
/-- A scope through which one goes without a jump. -/
theorem gSc [Defs] (k : ∀ a w, St N K W a w F L → c.wp P (Exit.noGoto Q) a w) : ∀ a w, St N K W a w F L → (Code.scope c).wp P Q a w := fun _ w h => wp_scope_straight (k _ w h)
theorem uSc [Defs] (k : ∀ a w, St N K W a w F L → Q .ret a w) : ∀ a w, St N K W a w F L → Exit.noGoto Q .ret a w := k
/-- A contract of the kit's: one value, the world as it was. -/
theorem rets_pure {f : FuncId} {vs : List Value} {v : Value} (h : Calls P f vs.toArray w fun e w' => e = .returned v ∧ w' = w) : Rets P f vs w (fun v' w' => v' = v ∧ Sh0 w w' []) := Calls.mono h fun _ _ ⟨h1, h2⟩ => ⟨v, h1, rfl, by rw [h2]; exact Sh0.start _⟩
end
end Go.Proofs.YthdkmhaneellcaaGreatDoor
