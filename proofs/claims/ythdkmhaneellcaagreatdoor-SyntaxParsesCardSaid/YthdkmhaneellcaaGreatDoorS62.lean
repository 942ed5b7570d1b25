/-
  A function that has deferred one call of its own, which recovers: entering, deferring, leaving. It imports nothing of the dump.
-/
import Derived.Test.YthdkmhaneellcaaGreatDoorS60
import Derived.Recover
namespace Go.Proofs.YthdkmhaneellcaaGreatDoor
open Go.RowKit
set_option linter.unusedSimpArgs false
set_option linter.unusedVariables false

/-- What recover hands back (x), of a caller in mode u; what it makes of that mode (m). -/
def Recv (u : FrameMode) (x : Value) (m : FrameMode) : Prop := (u = .returning ∧ x = .nilIface ∧ m = .returning) ∨ (u = .panicking [{ v := x, recovered := false }] ∧ m = .panicking [{ v := x, recovered := true }])
section
variable {P : Program} {N : Nat} {K : Nat → Prop} {W w : World} {a : Act} {F F' : List (Nat × Value)} {L L' : List Asn} {o : Oper} {ops : Array Oper} {rest : List Oper} {Q : Exit → Act → World → Prop} {c : Code} {fn : Func} {R R1 X : Value → World → Prop}
theorem fr_enter {vs : List Value} (hN : fn.ntmps = N) (e : (argF vs, Nat.ble vs.length N) = (some F, true)) : @Fr noDefs N { tmps := vs.toArray ++ Array.replicate (fn.ntmps - vs.toArray.size) undef, defers := [] } F := by
  simp only [Prod.mk.injEq] at e
  have hl : vs.length ≤ N := Nat.le_of_ble_eq_true e.2
  refine ⟨?_, rfl, fun t v htv => ?_⟩
  · simp [hN]; omega
  · have key : ∀ (vs : List Value) (k t : Nat) (v : Value), lk ((vs.zipIdx k).map fun x => (x.2, x.1)) t = some v → k ≤ t ∧ vs[t - k]? = some v := by
      intro vs
      induction vs with
      | nil => intro k t v h; simp [lk] at h
      | cons x r ih =>
        intro k t v h
        rw [List.zipIdx_cons, List.map_cons, lk_cons] at h
        by_cases e : k = t
        · subst e; simp at h; simp [h]
        · rw [if_neg e] at h
          obtain ⟨h1, h2⟩ := ih (k + 1) t v h
          refine ⟨by omega, ?_⟩
          have : t - k = (t - (k + 1)) + 1 := by omega
          rw [this, List.getElem?_cons_succ]; exact h2
    obtain ⟨_, h2⟩ := key vs 0 t v (by rw [argF_eq e.1]; exact htv)
    rw [Nat.sub_zero] at h2
    have hlt := (List.getElem?_eq_some_iff.1 h2).1
    rw [Array.getElem?_append_left (by simpa using hlt)]
    simpa using h2
/-- Entering a function that will defer. -/
theorem genD {f : FuncId} {vs : List Value} {RE : Ending → World → Prop} (hf : P.funcs[f]? = some fn) (hN : fn.ntmps = N) (hS : Sh K W W L) (e : (fn.body, argF vs, Nat.ble vs.length N) = (some c, some F, true)) (k : ∀ a, @St noDefs N K W a W F L → c.wp P (bodyPostD P fn RE) a W) : Calls P f vs.toArray W RE := by
  simp only [Prod.mk.injEq] at e
  exact calls_of_wp_defers hf e.1 (k _ ⟨fr_enter hN (by rw [e.2.1, e.2.2]), hS⟩)
/-- Deferring a call. -/
theorem wl_defer {fo : Operand} {fv : Fn} {us ws : List Value} (h : @St noDefs N K W a w F L) (ho : o.op = .defer ⟨.value fo, #[], #[]⟩) (hf : ev F fo = some (.func fv us.toArray ws.toArray)) (hd : o.dst = none) (hg : Region.wanted o (yielded ops a.tmps) = true)
    (k : ∀ a', @St ⟨[⟨.fn fv ws.toArray, us.toArray⟩]⟩ N K W a' w F L → wpList P ops Q rest a' w) : wpList P ops Q (o :: rest) a w := by
  have hrun : (execOp a.eval o).run P w = .ok (.defer ⟨.fn fv ws.toArray, us.toArray⟩) w := by
    unfold execOp
    simp [ho, resolve, h.fr.ev hf, Deferred.ofValue]
  unfold wpList
  rw [hg, if_pos rfl]
  refine .inl ?_
  unfold Oper.wp
  rw [hrun, Oper.upon_defer, hd]
  obtain ⟨⟨h1, h2, h3⟩, h4⟩ := h
  exact k _ (@St.mk ⟨_⟩ _ _ _ _ _ _ _ (@Fr.mk ⟨_⟩ _ _ _ h1 (by show _ :: a.defers = _; rw [h2]; rfl) h3) h4)
/-- Entering the deferred function, which recovers first. -/
theorem genR {f : FuncId} {vs : List Value} {u m : FrameMode} {x : Value} {id t : Nat} (hm : Recv u x m) (hf : P.funcs[f]? = some fn) (hN : fn.ntmps = N) (hS : Sh K W W L) (e : (fn.body, argF vs, Nat.ble vs.length N) = (some (Code.seq (.region id #[o] false) c), some F, true))
    (ho : o.op = .call ⟨.builtin .recover, #[], #[]⟩) (hd : o.dst = some t) (hg : o.guard = none) (htN : Nat.blt t N = true)
    (k : ∀ a, @St noDefs N K W a W ((t, x) :: F) L → c.wp P (bodyPost P fn (fun e w' => ∃ v, e = .returned v ∧ R v w')) a W) : CallsD P f vs.toArray u W (fun e u' w' => ∃ v, e = .returned v ∧ u' = m ∧ R v w') := by
  simp only [Prod.mk.injEq] at e
  have hfr : @Fr noDefs N _ F := fr_enter (fn := fn) (vs := vs) hN (by rw [e.2.1, e.2.2])
  refine callsD_of_wpS hf e.1 fun c₀ cs hu => wpS_seq (wpS_region ?_)
  have hrun : ∀ (a : Act), (execOp a.eval o).run P W = .ok .recover W := fun a => by
    unfold execOp
    simp [ho, resolve, invoke, builtin]
  have hw : ∀ (tm : Array Value), Region.wanted o (yielded #[o] tm) = true := fun tm => wanted_none hg _
  have key : ∀ (cs' : List Frame), cs' = { c₀ with mode := m } :: cs → c.wpS P (bodyPostS P fn c₀ cs (fun e u' w' => ∃ v, e = .returned v ∧ u' = m ∧ R v w')) (Act.put { tmps := vs.toArray ++ Array.replicate (fn.ntmps - vs.toArray.size) undef, defers := [] } (some t) x) cs' W := by
    rintro _ rfl
    refine wpS_of_wp (wp_mono (k _ ⟨hfr.put t (Nat.blt_eq ▸ htN) x, hS⟩) ?_)
    intro e a w h
    cases e with
    | normal => obtain ⟨h1, v, h2, _, h3, h4⟩ := h; exact ⟨h1, m, rfl, v, h2, _, h3, rfl, h4⟩
    | ret => obtain ⟨h1, v, h2, _, h3, h4⟩ := h; exact ⟨h1, m, rfl, v, h2, _, h3, rfl, h4⟩
    | panic ch => obtain ⟨h1, _, h2, _⟩ := h; cases h2
    | outgrown => obtain ⟨_, h2, _⟩ := h; cases h2
    | exit id => exact h
    | goto l => exact h
  show wpOpsS P #[o] _ [0] _ _ _
  unfold wpOpsS
  simp only [List.getElem?_toArray, List.getElem?_cons_zero, hw, if_true, hrun, hd]
  rcases hm with ⟨rfl, rfl, rfl⟩ | ⟨rfl, rfl⟩
  · have h9 : recoverD (c₀ :: cs) = none := by simp only [recoverD, hu]
    simp only [h9]
    exact key _ (by rw [← hu])
  · have h9 : recoverD (c₀ :: cs) = some (x, { c₀ with mode := .panicking [{ v := x, recovered := true }] } :: cs) := by simp only [recoverD, hu]
    simp only [h9]
    exact key _ rfl
/-- Leaving, behind a return. -/
theorem leave_ret {fc : FuncId} {us ws : List Value} {RE : Ending → World → Prop} (h : @St ⟨[⟨.fn (.func fc) ws.toArray, us.toArray⟩]⟩ N K W a w F L) (hb : bodyI P fc = true) (hc : CallsD P fc (us ++ ws).toArray .returning w (fun e u' w' => ∃ v, e = .returned v ∧ u' = .returning ∧ R1 v w'))
    (hr : ∀ v w', R1 v w' → @Fr noDefs N ⟨a.tmps, []⟩ F → ∃ v, (results fn a.tmps).run P w' = .ok v w' ∧ RE (.returned v) w') : bodyPostD P fn RE .ret a w := by
  obtain ⟨⟨h1, h2, h3⟩, h4⟩ := h
  have h9 : @Fr noDefs N ⟨a.tmps, []⟩ F := ⟨h1, rfl, h3⟩
  show Leaves P fn a.tmps RE a.defers .returning w
  rw [h2]
  refine leaves_cons (by simp) (f := fc) (args := (us ++ ws).toArray) (by simp [invoke, run_callFunc hb]) (hc.mono ?_)
  rintro e u' w' ⟨v, rfl, rfl, h1⟩
  exact hr _ _ h1 h9
theorem leave_pan {fc : FuncId} {us ws : List Value} {RE : Ending → World → Prop} {x : Value} (h : @Fr ⟨[⟨.fn (.func fc) ws.toArray, us.toArray⟩]⟩ N a F) (hb : bodyI P fc = true) (hc : CallsD P fc (us ++ ws).toArray (.panicking [{ v := x, recovered := false }]) w (fun e u' w' => ∃ v, e = .returned v ∧ u' = .panicking [{ v := x, recovered := true }] ∧ R1 v w'))
    (hr : ∀ v w', R1 v w' → @Fr noDefs N ⟨a.tmps, []⟩ F → ∃ v, (results fn a.tmps).run P w' = .ok v w' ∧ RE (.returned v) w') : bodyPostD P fn RE (.panic [{ v := x, recovered := false }]) a w := by
  obtain ⟨h1, h2, h3⟩ := h
  have h9 : @Fr noDefs N ⟨a.tmps, []⟩ F := ⟨h1, rfl, h3⟩
  show Leaves P fn a.tmps RE a.defers (.panicking _) w
  rw [h2]
  refine leaves_cons (by simp) (f := fc) (args := (us ++ ws).toArray) (by simp [invoke, run_callFunc hb]) (hc.mono ?_)
  rintro e u' w' ⟨v, rfl, rfl, h1⟩
  exact hr _ _ h1 h9
/-- Leaving, nothing being deferred yet. -/
theorem leave0 {RE : Ending → World → Prop} (h : @St noDefs N K W a w F L) (hr : @Fr noDefs N ⟨a.tmps, []⟩ F → ∃ v, (results fn a.tmps).run P w = .ok v w ∧ RE (.returned v) w) : bodyPostD P fn RE .ret a w := by
  obtain ⟨⟨h1, h2, h3⟩, h4⟩ := h
  show Leaves P fn a.tmps RE a.defers .returning w
  rw [h2]
  exact hr ⟨h1, rfl, h3⟩
/-- Two results that lie in variables of the call's own: a plain one, a struct. -/
theorem res_cell2 {tm : Array Value} {t T g i n by_ t2 T2 g2 i2 n2 by2 : Nat} {E E2 : TypeId} {z z2 cs2 : List Value} {v : Value} (hT : tyI P T = some (false, n, by_, z)) (hT2 : tyI P T2 = some (true, n2, by2, z2)) (hs : fn.results = #[.cell t T, .cell t2 T2]) (h : @Fr noDefs N ⟨tm, []⟩ F) (hS : Sh K W w L)
    (ht : lk F t = some (.pointer (some ⟨g, 0, none⟩))) (ht2 : lk F t2 = some (.pointer (some ⟨g2, 0, none⟩)))
    (hi : L[i]? = some (.blk g E [v])) (hi2 : L[i2]? = some (.blk g2 E2 cs2)) (hn2 : cs2.length = n2) : (results fn tm).run P w = .ok (.tuple #[v, .agg cs2.toArray]) w := by
  obtain ⟨ti, d, zv, hti, hd, hg, hsz, _⟩ := tyI_parts hT
  obtain ⟨ti2, d2, zv2, hti2, hd2, hg2, hsz2, _⟩ := tyI_parts hT2
  have hc : w.cell? ⟨g, 0, none⟩ = some v := by rw [(hS.blk i hi).cell 0]; rfl
  have hld : (loadVar T ⟨g, 0, none⟩).run P w = .ok v w := by simp [loadVar, run_isAgg hd, hg, hc]
  have hld2 := run_loadVar_row (P := P) w g2 E2 T2 cs2.toArray (0, 0) d2 (hS.blk i2 hi2) hd2 (by cases d2 <;> simp_all [aggD]) (by rw [hti2]; simp [hsz2, hn2])
  have h1 : tm[t]?.getD undef = .pointer (some ⟨g, 0, none⟩) := by rw [show tm[t]? = _ from h.at_ t _ ht]; rfl
  have h2 : tm[t2]?.getD undef = .pointer (some ⟨g2, 0, none⟩) := by rw [show tm[t2]? = _ from h.at_ t2 _ ht2]; rfl
  simp [results, hs, asAddr, h1, hld, h2, hld2]
theorem r_eqIfN [Defs] {T U t : TypeId} {u : Value} {x : Operand} {ms : Array (String × TypeId)} (hT : P.underlying T = some (.interface ms)) (ho : o.op = .binOp .eql T x (.const .nilIface) U) (hx : ev F x = some (.iface t u)) : Rn P o N K W F L (.bool false) := fun a w h => by
  unfold execOp
  have hz : a.eval (.const .nilIface) = .nilIface := rfl
  simp only [ho, h.fr.ev hx, hz]
  have key : ∀ d : Nat, (Op.equalIn (d + 1) T (.iface t u) .nilIface).run P w = .ok false w := fun d => by simp [Op.equalIn, run_underlying hT]
  simp [eqGuard, binOp, go_sem, Op.equal, run_underlying hT]
  rw [show Op.maxDepth = 9999 + 1 from rfl, key]
  rfl
theorem r_eqNN [Defs] {T U : TypeId} {x : Operand} {ms : Array (String × TypeId)} (hT : P.underlying T = some (.interface ms)) (ho : o.op = .binOp .eql T x (.const .nilIface) U) (hx : ev F x = some .nilIface) : Rn P o N K W F L (.bool true) := fun a w h => by
  unfold execOp
  have hz : a.eval (.const .nilIface) = .nilIface := rfl
  simp only [ho, h.fr.ev hx, hz]
  have key : ∀ d : Nat, (Op.equalIn (d + 1) T .nilIface .nilIface).run P w = .ok true w := fun d => by simp [Op.equalIn, run_underlying hT]
  simp [eqGuard, binOp, go_sem, Op.equal, run_underlying hT]
  rw [show Op.maxDepth = 9999 + 1 from rfl, key]
  rfl
theorem r_asrtS [Defs] {T xT : TypeId} {u : Value} {x : Operand} {fs : Array Field} (hT : P.underlying T = some (.struct fs)) (ho : o.op = .typeAssert x xT T true) (hx : ev F x = some (.iface T u)) : Rn P o N K W F L (.tuple #[u, .bool true]) := fun a w h => by
  unfold execOp
  simp only [ho, h.fr.ev hx]
  simp [Instr.typeAssert, run_underlying hT, go_sem, Result.andThen]
end
end Go.Proofs.YthdkmhaneellcaaGreatDoor
