/-
  Maps from strings to numbers, as resources. It imports nothing of the dump.
-/
import Derived.Test.YthdkmhaneellcaaGreatDoorS61
import Derived.Test.YthdkmhaneellcaaGreatDoorMaps
import Derived.Carry
namespace Go.Proofs.YthdkmhaneellcaaGreatDoor
open Go.RowKit
set_option linter.unusedSimpArgs false
set_option linter.unusedVariables false

def keysSI (l : List (ByteArray × Int)) : List (Value × Value) := l.map fun s => (.string s.1, .int .i64 s.2)
/-- Block g is a map that says these. -/
def MapSI (w : World) (g : Nat) (l : List (ByteArray × Int)) : Prop := ∃ es clock, w.heap[g]? = some (.map es clock) ∧ pairsOf es = keysSI l
theorem MapSI.of_block {w w' : World} {g : Nat} {l : List (ByteArray × Int)} (h : MapSI w g l) (hb : w'.heap[g]? = w.heap[g]?) : MapSI w' g l := by
  obtain ⟨es, c, h1, h2⟩ := h
  exact ⟨es, c, hb.trans h1, h2⟩
theorem MapSI.lt {w : World} {g : Nat} {l : List (ByteArray × Int)} (h : MapSI w g l) : g < w.heap.size := by
  obtain ⟨es, c, h1, _⟩ := h
  exact (Array.getElem?_eq_some_iff.1 h1).1
/-- A map from strings to numbers. -/
def Asn.siO (g : Nat) (l : List (ByteArray × Int)) : Asn where
  fp b := g = b
  rd _ := False
  ok w := MapSI w g l
  keep w w' h hb := h.of_block (hb g (.inl rfl))
  lt w h b hb := by
    rcases hb with rfl | hb
    · exact h.lt
    · exact hb.elim
theorem beq_strB (a b : ByteArray) : (a == b) = decide (a = b) := by
  obtain ⟨x⟩ := a
  obtain ⟨y⟩ := b
  show (x == y) = _
  by_cases h : x = y
  · subst h; simp
  · have h2 : (⟨x⟩ : ByteArray) ≠ ⟨y⟩ := fun e => h (congrArg ByteArray.data e)
    rw [decide_eq_false h2]
    simpa using h
/-- What a map says of a string. -/
def getSI (k : ByteArray) : List (ByteArray × Int) → Option Int
  | [] => none
  | j :: r => if k = j.1 then some j.2 else getSI k r
def atI (k : ByteArray) : List (ByteArray × Int) → Nat → Option (Nat × Value)
  | [], _ => none
  | j :: r, i => if k = j.1 then some (i, .int .i64 j.2) else atI k r (i + 1)
theorem atI_spec (k : ByteArray) : ∀ (l : List (ByteArray × Int)) (i : Nat), (∃ j v, atI k l i = some (i + j, .int .i64 v) ∧ getSI k l = some v) ∨ (atI k l i = none ∧ getSI k l = none)
  | [], i => .inr ⟨rfl, rfl⟩
  | x :: r, i => by
    unfold atI getSI
    by_cases h : k = x.1
    · rw [if_pos h, if_pos h]; exact .inl ⟨0, x.2, rfl, rfl⟩
    · rw [if_neg h, if_neg h]
      rcases atI_spec k r (i + 1) with ⟨j, v, h1, h2⟩ | ⟨h1, h2⟩
      · exact .inl ⟨j + 1, v, by rw [h1, show i + 1 + j = i + (j + 1) by omega], h2⟩
      · exact .inr ⟨h1, h2⟩
theorem findNow_si (k : ByteArray) : ∀ (es : List MapEntry) (l : List (ByteArray × Int)) (i : Nat), (es.map fun e => (e.key, e.val)) = keysSI l → Instr.findNow .string (.string k) es i = some (atI k l i)
  | [], [], _, _ => rfl
  | [], _ :: _, _, h => by simp [keysSI] at h
  | _ :: _, [], _, h => by simp [keysSI] at h
  | e :: es, j :: l, i, h => by
    simp only [keysSI, List.map_cons, List.cons.injEq, Prod.mk.injEq] at h
    obtain ⟨⟨hk, hv⟩, hr⟩ := h
    have ih := findNow_si k es l (i + 1) hr
    simp only [Instr.findNow, hk, Instr.sameNow]
    unfold atI
    rw [beq_strB]
    by_cases hkj : k = j.1
    · simp [hkj, hv]
    · simp [hkj, ih]
structure MapTSI (P : Program) (T kT eT : TypeId) : Prop where
  map : P.underlying T = some (.map kT eT)
  str : P.underlying kT = some .string
  zero : ∀ w, (zeroValue eT).run P w = .ok (.int .i64 0) w
section
variable {P : Program} {o : Oper} {N : Nat} {K : Nat → Prop} {W w : World} {a : Act} {F : List (Nat × Value)} {L : List Asn} {T kT eT : TypeId} {l : List (ByteArray × Int)} {k : ByteArray} {z0 : Int} {g : Nat}
theorem run_findKey_si (hK : P.underlying kT = some .string) {es : Array MapEntry} (h : pairsOf es = keysSI l) : (Instr.findKey kT (.string k) es.toList).run P w = .ok (atI k l 0) w := by
  simp [Instr.findKey, run_underlying hK, findNow_si k es.toList l 0 h]
theorem run_checkKey_si (b : Bool) (n : Nat) (hK : P.underlying kT = some .string) : (Instr.checkKey b (n + 1) kT (.string k)).run P w = .ok () w := by
  simp [Instr.checkKey, run_underlying hK]
theorem run_lookSI (hT : MapTSI P T kT eT) (h : MapSI w g l) : (Instr.lookup T (.map (some g)) (.string k) false).run P w = .ok (.int .i64 ((getSI k l).getD 0)) w := by
  obtain ⟨es, c, h1, h2⟩ := h
  have e0 : (getObj g).run P w = .ok (.map es c) w := by simp [getObj, Sem.run, h1]
  have e1 := run_findKey_si (P := P) (w := w) (k := k) hT.str h2
  have e2 := run_checkKey_si (P := P) (w := w) (k := k) es.isEmpty 9999 hT.str
  rcases atI_spec k l 0 with ⟨j, v, h3, h4⟩ | ⟨h3, h4⟩
  · rw [h4]
    rw [h3] at e1
    simp [Instr.lookup, run_underlying hT.map, e0, e1, e2]
  · rw [h4]
    rw [h3] at e1
    simp [Instr.lookup, run_underlying hT.map, e0, e1, e2, hT.zero]
/-- 'm[k]'. -/
theorem r_lookSI [Defs] {x y : Operand} (hT : MapTSI P T kT eT) (ho : o.op = .lookup T x y false) (hx : ev F x = some (.map (some g))) (hy : ev F y = some (.string k)) (hi : ∀ w, Sh K W w L → MapSI w g l) : Rn P o N K W F L (.int .i64 ((getSI k l).getD 0)) := fun a w h => by
  have key := run_lookSI (P := P) (k := k) hT (hi w h.sh)
  unfold execOp
  simp only [ho, h.fr.ev hx, h.fr.ev hy, Sem.run_bind, key, Result.andThen_ok, Sem.run_pure]
theorem x_makeSI [Defs] {d : Nat} (h : St N K W a w F L) (ho : o.op = .makeMap T none) (hd : o.dst = some d) (hdN : Nat.blt d N = true) : Ex P o a w (fun a' w' => ∃ g : Nat, St N K W a' w' ((d, .map (some g)) :: F) (.siO g [] :: L)) := by
  have hrun : (Instr.makeMap T none).run P w = .ok (.map (some w.heap.size)) (w.alloc (.map #[] 0)) := run_makeMap T w
  refine Ex.of_run (v := .map (some w.heap.size)) (w' := w.alloc (.map #[] 0)) ?_ ⟨w.heap.size, ?_⟩
  · unfold execOp
    simp only [ho, Option.map_none, Sem.run_bind, hrun, Result.andThen_ok, Sem.run_pure]
  · rw [hd]
    have h1 : Sh K W (w.alloc (.map #[] 0)) (.siO w.heap.size [] :: L) :=
      h.sh.push (Chg.alloc _ w _) ⟨#[], 0, Go.heap_alloc_new w _, rfl⟩ (fun b hb => by rw [← (show w.heap.size = b from hb)]; exact Nat.le_refl _) (fun b hb => hb.elim) (fun b _ hb => hb)
    exact ⟨h.fr.put d (by simpa [Nat.blt_eq] using hdN) _, h1⟩
/-- 'm[k] = z', k not there. -/
theorem x_updSI [Defs] {x y z : Operand} {i : Nat} (h : St N K W a w F L) (hT : MapTSI P T kT eT) (ho : o.op = .mapUpdate T x y z ∨ o.op = .insert T x y z) (hd : o.dst = none) (hx : ev F x = some (.map (some g))) (hy : ev F y = some (.string k)) (hz : ev F z = some (.int .i64 z0)) (hi : L[i]? = some (.siO g l)) (hk : getSI k l = none) :
    Ex P o a w (fun a' w' => St N K W a' w' F (L.set i (.siO g (l ++ [(k, z0)])))) := by
  obtain ⟨es, c, h1, h2⟩ : MapSI w g l := h.sh.ok _ (List.mem_of_getElem? hi)
  have hlt : g < w.heap.size := (Array.getElem?_eq_some_iff.1 h1).1
  have e0 : (getObj g).run P w = .ok (.map es c) w := by simp [getObj, Sem.run, h1]
  have e1 := run_findKey_si (P := P) (w := w) (k := k) hT.str h2
  have e2 := run_checkKey_si (P := P) (w := w) (k := k) false 9999 hT.str
  have e3 : atI k l 0 = none := by
    rcases atI_spec k l 0 with ⟨j, v, _, h4⟩ | ⟨h3, _⟩
    · rw [hk] at h4; cases h4
    · exact h3
  rw [e3] at e1
  have hrun : (Instr.mapUpdate T (.map (some g)) (.string k) (.int .i64 z0)).run P w = .ok () (World.setMap w g (es.push { key := .string k, val := .int .i64 z0, born := c }) (c + 1)) := by
    simp [Instr.mapUpdate, run_underlying hT.map, e0, e1, e2, setObj, Sem.run, h1, World.setMap]
  refine Ex.of_skip (w' := World.setMap w g (es.push { key := .string k, val := .int .i64 z0, born := c }) (c + 1)) ?_ ?_
  · unfold execOp
    rcases ho with ho | ho <;> simp only [ho, h.fr.ev hx, h.fr.ev hy, h.fr.ev hz, Sem.run_bind, hrun, Result.andThen_ok, Sem.run_pure]
  · rw [hd]
    have hg : w.grownBy (World.setMap w g (es.push { key := .string k, val := .int .i64 z0, born := c }) (c + 1)) (some g) := ⟨rfl, rfl, rfl, by simp [World.setMap], fun j hj hne => by
      have : g ≠ j := fun e => hne (by rw [e])
      simp [World.setMap, Array.getElem?_setIfInBounds, this]⟩
    refine ⟨h.fr, h.sh.put hi (Chg.grown hg (fun b hb => Option.some.inj hb)) ⟨es.push { key := .string k, val := .int .i64 z0, born := c }, c + 1, by simp [World.setMap, hlt], ?_⟩ (fun b hb => .inl hb) (fun b hb => hb.elim) (fun b _ hb => hb)⟩
    simp [pairsOf, keysSI] at h2 ⊢
    exact h2
end
end Go.Proofs.YthdkmhaneellcaaGreatDoor
