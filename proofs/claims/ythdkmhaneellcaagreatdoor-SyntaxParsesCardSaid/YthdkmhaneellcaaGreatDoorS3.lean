/-
  Laws for operations on memory. It imports nothing of the dump.
-/
import Derived.Test.YthdkmhaneellcaaGreatDoorS2
namespace Go.Proofs.YthdkmhaneellcaaGreatDoor
open Go.RowKit
set_option linter.unusedSimpArgs false
set_option linter.unusedVariables false

def aggD : TypeDesc → Bool
  | .struct _ | .array _ _ => true
  | _ => false
/-- What is asked of a type: is it a struct or an array? its cells, its bytes, its zero. -/
def tyI (P : Program) (T : TypeId) : Option (Bool × Nat × Nat × List Value) := match P.info? T, P.underlying T with
  | some i, some d => match i.zero with
    | some z => some (aggD d, i.size, i.bytes, z.cells.toList)
    | none => none
  | _, _ => none
def slI (P : Program) (T : TypeId) : Option TypeId := match P.underlying T with
  | some (.slice e) => some e
  | _ => none
def flI (P : Program) (T : TypeId) (f : Nat) : Option Nat := match P.underlying T with
  | some (.struct fs) => match fs[f]? with
    | some fd => match P.info? fd.type with
      | some i => if i.size = 0 then none else some fd.offset
      | none => none
    | none => none
  | _ => none
def bodyI (P : Program) (f : FuncId) : Bool := match P.funcs[f]? with
  | some fn => !(fn.name == "runtime.NumGoroutine") && fn.body.isSome
  | none => false

section
variable {P : Program} {N : Nat} {K : Nat → Prop} {W w : World} {a : Act} {F F' : List (Nat × Value)} {L L' : List Asn} {o : Oper} {ops : Array Oper} {rest : List Oper} {Q : Exit → Act → World → Prop}

theorem tyI_parts {T : TypeId} {g : Bool} {n by_ : Nat} {z : List Value} (h : tyI P T = some (g, n, by_, z)) :
    ∃ i d zv, P.info? T = some i ∧ P.underlying T = some d ∧ aggD d = g ∧ i.size = n ∧ i.bytes = by_ ∧ i.zero = some zv ∧ zv.cells.toList = z := by
  unfold tyI at h
  split at h
  · rename_i i d h1 h2
    split at h
    · rename_i zv hz
      simp only [Option.some.injEq, Prod.mk.injEq] at h
      exact ⟨i, d, zv, h1, h2, h.1, h.2.1, h.2.2.1, hz, h.2.2.2⟩
    · cases h
  · cases h
theorem slI_parts {T e : TypeId} (h : slI P T = some e) : P.underlying T = some (.slice e) := by
  unfold slI at h
  split at h
  · simp at h; subst h; assumption
  · cases h
theorem run_sizeOf {T : TypeId} {i : TypeInfo} (h : P.info? T = some i) (w : World) : (sizeOf T).run P w = .ok i.size w := by simp [sizeOf, typeInfo, h]
theorem run_zero {T : TypeId} {i : TypeInfo} {z : Value} (h : P.info? T = some i) (hz : i.zero = some z) (w : World) : (zeroValue T).run P w = .ok z w := by simp [zeroValue, typeInfo, h, hz]
theorem run_isAgg {T : TypeId} {d : TypeDesc} (h : P.underlying T = some d) (w : World) : (isAgg T).run P w = .ok (aggD d) w := by
  unfold isAgg
  rw [Sem.run_bind, run_underlying h]
  cases d <;> rfl
theorem run_fieldAt {T : TypeId} {f k : Nat} {p : Addr} (h : flI P T f = some k) (w : World) : (Instr.fieldAt T (.pointer (some p)) f).run P w = .ok (.pointer (some (p.add k))) w := by
  unfold flI at h
  split at h
  · rename_i fs hfs
    split at h
    · rename_i fd hfd
      split at h
      · rename_i i hi
        split at h
        · cases h
        · rename_i hne
          simp only [Option.some.injEq] at h
          subst h
          simp [Instr.fieldAt, run_underlying hfs, hfd, Instr.sureAddr, fieldPlace, run_sizeOf hi, hne]
      · cases h
    · cases h
  · cases h

/-! ### Addresses -/
theorem r_fieldB [Defs] {T : TypeId} {x : Operand} {f k g q r : Nat} (hT : flI P T f = some k) (ho : o.op = .fieldAddr T x f) (hx : ev F x = some (.pointer (some ⟨g, q, none⟩))) (hr : q + k = r) : Rn P o N K W F L (.pointer (some ⟨g, r, none⟩)) := fun a w h => by
  subst hr
  unfold execOp; simp only [ho, h.fr.ev hx, Sem.run_bind, run_fieldAt hT, Addr.add_lit, Result.andThen_ok, Sem.run_pure]
theorem r_fieldE [Defs] {T : TypeId} {x : Operand} {f k sz i j r : Nat} {v : Value} (hT : flI P T f = some k) (ho : o.op = .fieldAddr T x f) (hx : ev F x = some (.pointer (some (padr v sz i j)))) (hr : j + k = r) : Rn P o N K W F L (.pointer (some (padr v sz i r))) := fun a w h => by
  subst hr
  unfold execOp; simp only [ho, h.fr.ev hx, Sem.run_bind, run_fieldAt hT, padr_add, Result.andThen_ok, Sem.run_pure]
section
variable {α : Type} [Enc α]
theorem run_index {T e : TypeId} {g : Bool} {n by_ : Nat} {z : List Value} {s : Ls α} {kd : IntKind} {q : Int} (hT : slI P T = some e) (he : tyI P e = some (g, n, by_, z)) (hat : s.At w) (h0 : 0 ≤ q) (h1 : q < s.l.length) :
    (Instr.indexAt T s.v (.int kd q)).run P w = .ok (.pointer (some (padr s.v n q.toNat 0))) w := by
  obtain ⟨i, d, zv, hi, hd, _, rfl, _⟩ := tyI_parts he
  obtain ⟨A, cap, hv, hA⟩ := hat
  obtain ⟨b, hb, hs⟩ := hA.some (show 0 < s.l.length by omega)
  have hu := slI_parts hT
  have hel : P.elem T = e := by simp [Program.elem, hu]
  simp only at hb
  subst hb
  rw [hv, run_indexAt_slice (h := by rw [hel]; exact hu), if_pos ⟨h0, h1⟩, hel, run_sizeOf hi]
  obtain ⟨blk, off, sp⟩ := b
  simp only at hs
  subst hs
  simp [Result.andThen_ok, padr, vblk, voff, Addr.add_lit]
theorem r_ixI [Defs] {T e : TypeId} {g : Bool} {n by_ : Nat} {z : List Value} {s : Ls α} {kd : IntKind} {q : Int} {x y : Operand} (hT : slI P T = some e) (he : tyI P e = some (g, n, by_, z)) (ho : o.op = .indexAddr T x y) (hx : ev F x = some s.v) (hy : ev F y = some (.int kd q)) (hat : ∀ w, Sh K W w L → s.At w)
    (hb : 0 ≤ q ∧ q < s.l.length) : Rn P o N K W F L (.pointer (some (padr s.v n q.toNat 0))) := fun a w h => by
  unfold execOp; simp only [ho, h.fr.ev hx, h.fr.ev hy, Sem.run_bind, run_index hT he (hat w h.sh) hb.1 hb.2, Result.andThen_ok, Sem.run_pure]
theorem r_ixN [Defs] {T e : TypeId} {g : Bool} {n by_ : Nat} {z : List Value} {s : Ls α} {kd : IntKind} {q : Nat} {x y : Operand} (hT : slI P T = some e) (he : tyI P e = some (g, n, by_, z)) (ho : o.op = .indexAddr T x y) (hx : ev F x = some s.v) (hy : ev F y = some (.int kd (q : Int))) (hat : ∀ w, Sh K W w L → s.At w)
    (hb : q < s.l.length) : Rn P o N K W F L (.pointer (some (padr s.v n q 0))) := by
  simpa using r_ixI (P := P) (N := N) (K := K) (W := W) (L := L) hT he ho hx hy hat ⟨by omega, by omega⟩
theorem r_len [Defs] {T e : TypeId} {s : Ls α} {x : Operand} {n : Nat} (hT : slI P T = some e) (ho : o.op = .call ⟨.builtin .len, #[x], #[T]⟩) (hx : ev F x = some s.v) (hat : ∀ w, Sh K W w L → s.At w) (hn : s.l.length = n) : Rn P o N K W F L (.int .i64 (n : Int)) := fun a w h => by
  subst hn
  obtain ⟨A, cap, hv, _⟩ := hat w h.sh
  have hu := slI_parts hT
  have hel : P.elem T = e := by simp [Program.elem, hu]
  unfold execOp
  have e1 := h.fr.ev hx
  rw [hv] at e1
  simp [ho, resolve, invoke, builtin, e1, run_len_slice _ _ _ _ _ _ (show P.underlying T = some (.slice (P.elem T)) by rw [hel]; exact hu), goInt]

/-! ### Loads -/
theorem run_load1 {T : TypeId} {n by_ : Nat} {z : List Value} {p : Addr} {v : Value} (hT : tyI P T = some (false, n, by_, z)) (hc : w.cell? p = some v) : (Instr.loadAt T (.pointer (some p))).run P w = .ok v w := by
  obtain ⟨i, d, zv, hi, hd, hg, _⟩ := tyI_parts hT
  simp [Instr.loadAt, Instr.sureAddr, loadVar, run_isAgg hd, hg, hc]
theorem run_loadN {T : TypeId} {n by_ : Nat} {z : List Value} {p : Addr} {vs : List Value} (hT : tyI P T = some (true, n, by_, z)) (hn : vs.length = n) (hc : ∀ (j : Nat) (v : Value), vs[j]? = some v → w.cell? (p.add j) = some v) : (Instr.loadAt T (.pointer (some p))).run P w = .ok (.agg vs.toArray) w := by
  obtain ⟨i, d, zv, hi, hd, hg, hs, _⟩ := tyI_parts hT
  subst hn
  simp [Instr.loadAt, Instr.sureAddr, loadVar, run_isAgg hd, hg, run_sizeOf hi, hs, run_loadCells_list (P := P) w p vs hc]
theorem r_ldb [Defs] {T : TypeId} {n by_ : Nat} {z : List Value} {x : Operand} {g q i : Nat} {E : TypeId} {cs : List Value} {v : Value} (hT : tyI P T = some (false, n, by_, z)) (ho : o.op = .load T x) (hx : ev F x = some (.pointer (some ⟨g, q, none⟩)))
    (hi : L[i]? = some (.blk g E cs)) (hv : cs[q]? = some v) : Rn P o N K W F L v := fun a w h => by
  have hc : w.cell? ⟨g, q, none⟩ = some v := by rw [(h.sh.blk i hi).cell q]; simpa using hv
  unfold execOp; simp only [ho, h.fr.ev hx, Sem.run_bind, run_load1 hT hc, Result.andThen_ok, Sem.run_pure]
theorem r_ldbw [Defs] {T : TypeId} {n by_ : Nat} {z : List Value} {x : Operand} {g q i : Nat} {E : TypeId} {cs vs : List Value} (hT : tyI P T = some (true, n, by_, z)) (ho : o.op = .load T x) (hx : ev F x = some (.pointer (some ⟨g, q, none⟩)))
    (hi : L[i]? = some (.blk g E cs)) (hv : (cs.drop q).take n = vs) (hn : vs.length = n) : Rn P o N K W F L (.agg vs.toArray) := fun a w h => by
  have hc : ∀ (j : Nat) (v : Value), vs[j]? = some v → w.cell? ((⟨g, q, none⟩ : Addr).add j) = some v := by
    intro j v hj
    rw [Addr.add_lit, (h.sh.blk i hi).cell (q + j)]
    rw [← hv, List.getElem?_take] at hj
    split at hj
    · rw [List.getElem?_drop] at hj; simpa using hj
    · cases hj
  unfold execOp; simp only [ho, h.fr.ev hx, Sem.run_bind, run_loadN hT hn hc, Result.andThen_ok, Sem.run_pure]
theorem r_lde [Defs] {T : TypeId} {n by_ : Nat} {z : List Value} {x : Operand} {i j sz : Nat} {s : Ls α} {v : Value} (hT : tyI P T = some (false, n, by_, z)) (ho : o.op = .load T x) (hx : ev F x = some (.pointer (some (padr s.v sz i j))))
    (hsz : Enc.sz α = sz) (hat : ∀ w, Sh K W w L → s.At w) (hi : i < s.l.length) (hj : j < sz) (hv : Enc.cell (nth s.l i) j = v) : Rn P o N K W F L v := fun a w h => by
  subst hsz
  have hc := (hat w h.sh).cell i j hi hj
  rw [hv] at hc
  unfold execOp; simp only [ho, h.fr.ev hx, Sem.run_bind, run_load1 hT hc, Result.andThen_ok, Sem.run_pure]
theorem r_ldew [Defs] {T : TypeId} {n by_ : Nat} {z : List Value} {x : Operand} {i j sz : Nat} {s : Ls α} {vs : List Value} (hT : tyI P T = some (true, n, by_, z)) (ho : o.op = .load T x) (hx : ev F x = some (.pointer (some (padr s.v sz i j))))
    (hsz : Enc.sz α = sz) (hat : ∀ w, Sh K W w L → s.At w) (hi : i < s.l.length) (hj : j + n ≤ sz) (hv : (List.range n).map (fun q => Enc.cell (nth s.l i) (j + q)) = vs) : Rn P o N K W F L (.agg vs.toArray) := fun a w h => by
  subst hsz
  subst hv
  have hc : ∀ (q : Nat) (v : Value), ((List.range n).map (fun q => Enc.cell (nth s.l i) (j + q)))[q]? = some v → w.cell? ((padr s.v (Enc.sz α) i j).add q) = some v := by
    intro q v hq
    have hqn : q < n := by
      have := (List.getElem?_eq_some_iff.1 hq).1
      simpa using this
    rw [padr_add, (hat w h.sh).cell i (j + q) hi (by omega)]
    simpa [hqn] using hq
  unfold execOp; simp only [ho, h.fr.ev hx, Sem.run_bind, run_loadN hT (by simp) hc, Result.andThen_ok, Sem.run_pure]
end

/-! ### New blocks -/
theorem St.push_blk [Defs] {d g : Nat} {v : Value} {T : TypeId} {cs : List Value} (h : St N K W a w F L) (hd : Nat.blt d N = true) :
    St N K W (a.put (some d) (.pointer (some ⟨w.heap.size, 0, none⟩))) (w.alloc (.cells cs.toArray T)) ((d, .pointer (some ⟨w.heap.size, 0, none⟩)) :: F) (.blk w.heap.size T cs :: L) :=
  ⟨h.fr.put d (by simpa [Nat.blt_eq] using hd) _, h.sh.push (Chg.alloc _ w _) (Blk.new w T cs.toArray) (fun b hb => by rw [show b = w.heap.size from hb]; exact Nat.le_refl _) (fun b hb => hb.elim) (fun b _ hb => hb)⟩
theorem x_alloc [Defs] {d : Nat} {T : TypeId} {g : Bool} {n by_ : Nat} {z : List Value} (h : St N K W a w F L) (hT : tyI P T = some (g, n, by_, z)) (ho : o.op = .alloc T) (hd : o.dst = some d) (hdN : Nat.blt d N = true) :
    Ex P o a w (fun a' w' => ∃ b : Nat, St N K W a' w' ((d, .pointer (some ⟨b, 0, none⟩)) :: F) (.blk b T z :: L)) := by
  obtain ⟨i, e, zv, hi, he, _, _, _, hz, hzc⟩ := tyI_parts hT
  refine Ex.of_run (v := .pointer (some ⟨w.heap.size, 0, none⟩)) (w' := w.alloc (.cells z.toArray T)) ?_ ⟨w.heap.size, ?_⟩
  · unfold execOp
    simp only [ho, Sem.run_bind, Instr.alloc, run_zero hi hz, Result.andThen_ok, newVar, newRow, run_newObj, Sem.run_pure]
    rw [← hzc]; rfl
  · rw [hd]; exact h.push_blk (g := 0) (v := undef) hdN
theorem x_box [Defs] {d : Nat} {T : TypeId} {x : Operand} {v : Value} {cs : List Value} (h : St N K W a w F L) (ho : o.op = .box T x) (hx : ev F x = some v) (hv : v.cells = cs.toArray) (hd : o.dst = some d) (hdN : Nat.blt d N = true) :
    Ex P o a w (fun a' w' => ∃ b : Nat, St N K W a' w' ((d, .pointer (some ⟨b, 0, none⟩)) :: F) (.blk b T cs :: L)) := by
  refine Ex.of_run (v := .pointer (some ⟨w.heap.size, 0, none⟩)) (w' := w.alloc (.cells cs.toArray T)) ?_ ⟨w.heap.size, ?_⟩
  · unfold execOp
    simp only [ho, h.fr.ev hx, Instr.box, newVar, newRow, hv, Sem.run_bind, run_newObj, Result.andThen_ok, Sem.run_pure]
    rfl
  · rw [hd]; exact h.push_blk (g := 0) (v := undef) hdN

/-! ### Stores into a block of cells -/
def splice (cs : List Value) (q : Nat) (vs : List Value) : List Value := cs.take q ++ vs ++ cs.drop (q + vs.length)
theorem x_stb [Defs] {T : TypeId} {gg : Bool} {n by_ : Nat} {z : List Value} {x y : Operand} {g q i : Nat} {E : TypeId} {cs cs' vs : List Value} {v : Value} (h : St N K W a w F L) (hT : tyI P T = some (gg, n, by_, z)) (ho : o.op = .store T x y) (hd : o.dst = none)
    (hx : ev F x = some (.pointer (some ⟨g, q, none⟩))) (hy : ev F y = some v) (hi : L[i]? = some (.blk g E cs)) (hv : v.cells.toList = vs) (hn : vs.length = n) (h1 : vs.all (·.oneCell') = true) (hq : q + n ≤ cs.length) (hcs : splice cs q vs = cs') :
    Ex P o a w (fun a' w' => St N K W a' w' F (L.set i (.blk g E cs'))) := by
  obtain ⟨ti, e, zv, hti, he, _, hs, _⟩ := tyI_parts hT
  have hB := h.sh.blk i hi
  have hvs : v.cells = vs.toArray := by rw [← hv]
  have hrun := run_storeCells_at P g q E vs 0 cs.toArray w hB (by simp; omega) (fun u hu => (List.all_eq_true.1 h1) u hu)
  refine Ex.of_skip (w' := w.setRow g cs'.toArray) ?_ ?_
  · unfold execOp
    have hsz : v.cells.size = ti.size := by rw [hvs]; simp; omega
    simp only [ho, h.fr.ev hx, h.fr.ev hy, Instr.storeAt, Instr.sureAddr, storeVar, Sem.run_bind, Sem.run_pure, Result.andThen_ok, run_sizeOf hti]
    simp only [hsz, ne_eq, not_true_eq_false, if_false, hv, Nat.add_zero] at hrun ⊢
    rw [← hcs]
    simp at hrun
    rw [hrun]
    simp [splice]
  · rw [hd]
    refine ⟨h.fr, h.sh.put hi ⟨rfl, rfl, rfl, by simp [World.setRow], fun b hb hne => setRow_other w g b _ hne⟩ ?_ (fun b hb => .inl hb) (fun b hb => hb.elim) (fun b _ hb => hb)⟩
    exact setRow_heap w g _ _ E (0, 0) hB
end
end Go.Proofs.YthdkmhaneellcaaGreatDoor
