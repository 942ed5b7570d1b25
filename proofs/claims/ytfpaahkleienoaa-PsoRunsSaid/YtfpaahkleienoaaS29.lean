/-
  Sets of numbers, as maps from numbers to booleans, as resources. It imports nothing of the dump.
-/
import Derived.Test.YtfpaahkleienoaaS15
import Derived.Maps.RangeRun
section
namespace Go.Proofs.Ytfpaahkleienoaa
open Go.RowKit
set_option linter.unusedSimpArgs false
set_option linter.unusedVariables false

structure KE where
  k : Int
  v : Int
  b : Nat
def KE.e (x : KE) : MapEntry := ⟨.int .i64 x.k, .int .i64 x.v, x.b⟩
def KE.kv (x : KE) : Int × Int := (x.k, x.v)
/-- Block g is a map that holds these, each key once. -/
structure MapC (w : World) (g : Nat) (c : List KE) (t : Nat) : Prop where
  blk : w.heap[g]? = some (.map (c.map KE.e).toArray t)
  born : (c.map (·.b)).Nodup
  below : ∀ x ∈ c, x.b < t
  keys : (c.map (·.k)).Nodup
def MapZ (w : World) (g : Nat) (l : List (Int × Int)) : Prop := ∃ c t, MapC w g c t ∧ c.map KE.kv = l
theorem MapC.of_block {w w' : World} {g : Nat} {c : List KE} {t : Nat} (h : MapC w g c t) (hb : w'.heap[g]? = w.heap[g]?) : MapC w' g c t := ⟨hb.trans h.blk, h.born, h.below, h.keys⟩
theorem MapC.lt {w : World} {g : Nat} {c : List KE} {t : Nat} (h : MapC w g c t) : g < w.heap.size := (Array.getElem?_eq_some_iff.1 h.blk).1
def vz (l : List (Int × Int)) : List (Int × Value) := l.map fun x => (x.1, .int .i64 x.2)
theorem MapZ.int {w : World} {g : Nat} {l : List (Int × Int)} (h : MapZ w g l) : MapI w g (vz l) := by
  obtain ⟨c, t, h1, rfl⟩ := h
  exact ⟨_, t, h1.blk, by simp [pairsOf, keysI, vz, KE.e, KE.kv, Function.comp_def]⟩
theorem MapZ.keys {w : World} {g : Nat} {l : List (Int × Int)} (h : MapZ w g l) : (l.map (·.1)).Nodup := by
  obtain ⟨c, t, h1, rfl⟩ := h
  have := h1.keys
  rw [List.map_map]
  exact this
/-- What a map of this kind is. -/
structure MapTZ (P : Program) (T kT eT : TypeId) : Prop where
  map : P.underlying T = some (.map kT eT)
  int : P.underlying kT = some (.int .i64)
  zero : ∀ w, (zeroValue eT).run P w = .ok (.int .i64 0) w
section
variable {P : Program} {o : Oper} {N : Nat} {K : Nat → Prop} {W w : World} {a : Act} {F : List (Nat × Value)} {L : List Asn} {T kT eT : TypeId} {p : Option Nat} {l : List (Int × Int)} {k v : Int} {g : Nat}
theorem setMap_get {w : World} {g : Nat} (hlt : g < w.heap.size) (es : Array MapEntry) (t : Nat) : (World.setMap w g es t).heap[g]? = some (.map es t) := by
  show (w.heap.setIfInBounds g _)[g]? = _
  rw [Array.getElem?_setIfInBounds_self_of_lt hlt]
end
end Go.Proofs.Ytfpaahkleienoaa
end
namespace Go.Proofs.Ytfpaahkleienoaa
open Go.RowKit
set_option linter.unusedSimpArgs false
set_option linter.unusedVariables false

def vs (l : List Int) : List (Int × Value) := l.map fun k => (k, .bool true)
/-- A set of numbers. -/
def Asn.setO (g : Nat) (l : List Int) : Asn where
  fp b := g = b
  rd _ := False
  ok w := MapI w g (vs l)
  keep w w' h hb := h.of_block (hb g (.inl rfl))
  lt w h b hb := by
    rcases hb with rfl | hb
    · exact h.lt
    · exact hb.elim
theorem atKey_vs (k : Int) : ∀ (l : List Int) (i : Nat), (∃ j, atKey k (vs l) i = some (i + j, .bool true) ∧ l[j]? = some k) ∨ (atKey k (vs l) i = none ∧ k ∉ l)
  | [], i => .inr ⟨rfl, by simp⟩
  | x :: r, i => by
    show (∃ j, (if k = x then some (i, Value.bool true) else atKey k (vs r) (i + 1)) = some (i + j, .bool true) ∧ (x :: r)[j]? = some k) ∨ ((if k = x then some (i, Value.bool true) else atKey k (vs r) (i + 1)) = none ∧ k ∉ x :: r)
    by_cases h : k = x
    · subst h; exact .inl ⟨0, by rw [if_pos rfl]; rfl, rfl⟩
    · rw [if_neg h]
      rcases atKey_vs k r (i + 1) with ⟨j, h1, h2⟩ | ⟨h1, h2⟩
      · exact .inl ⟨j + 1, by rw [h1, show i + 1 + j = i + (j + 1) by omega], by simpa using h2⟩
      · exact .inr ⟨h1, by simp [h, h2]⟩
structure MapTS (P : Program) (T kT eT : TypeId) : Prop where
  map : P.underlying T = some (.map kT eT)
  int : P.underlying kT = some (.int .i64)
  zero : ∀ w, (zeroValue eT).run P w = .ok (.bool false) w
section
variable {P : Program} {o : Oper} {N : Nat} {K : Nat → Prop} {W w : World} {a : Act} {F : List (Nat × Value)} {L : List Asn} {T kT eT : TypeId} {l : List Int} {k : Int} {g : Nat}
theorem run_lookS (hT : MapTS P T kT eT) (h : (Asn.setO g l).ok w) : (Instr.lookup T (.map (some g)) (.int .i64 k) true).run P w = .ok (.tuple #[.bool (decide (k ∈ l)), .bool (decide (k ∈ l))]) w := by
  rw [run_lookup_ok w T kT eT g k (vs l) (.bool false) hT.map hT.int (hT.zero w) h]
  rcases atKey_vs k l 0 with ⟨j, h1, h2⟩ | ⟨h1, h2⟩
  · rw [h1, decide_eq_true (List.mem_of_getElem? h2)]; rfl
  · rw [h1, decide_eq_false h2]; rfl
theorem r_lookS {x y : Operand} {i : Nat} (hT : MapTS P T kT eT) (ho : o.op = .lookup T x y true) (hx : ev F x = some (.map (some g))) (hy : ev F y = some (.int .i64 k)) (hi : L[i]? = some (.setO g l)) : Rn P o N K W F L (.tuple #[.bool (decide (k ∈ l)), .bool (decide (k ∈ l))]) := fun a w h => by
  have key := run_lookS (k := k) hT (h.sh.ok _ (List.mem_of_getElem? hi))
  unfold execOp
  simp only [ho, h.fr.ev hx, h.fr.ev hy, Sem.run_bind, key, Result.andThen_ok, Sem.run_pure]
theorem x_makeS {d : Nat} (h : St N K W a w F L) (ho : o.op = .makeMap T none) (hd : o.dst = some d) (hdN : Nat.blt d N = true) : Ex P o a w (fun a' w' => ∃ g : Nat, St N K W a' w' ((d, .map (some g)) :: F) (.setO g [] :: L)) := by
  have hrun : (Instr.makeMap T none).run P w = .ok (.map (some w.heap.size)) (w.alloc (.map #[] 0)) := run_makeMap T w
  refine Ex.of_run (v := .map (some w.heap.size)) (w' := w.alloc (.map #[] 0)) ?_ ⟨w.heap.size, ?_⟩
  · unfold execOp
    simp only [ho, Option.map_none, Sem.run_bind, hrun, Result.andThen_ok, Sem.run_pure]
  · rw [hd]
    have h1 : Sh K W (w.alloc (.map #[] 0)) (.setO w.heap.size [] :: L) :=
      h.sh.push (Chg.alloc _ w _) (MapI.made w) (fun b hb => by rw [← (show w.heap.size = b from hb)]; exact Nat.le_refl _) (fun b hb => hb.elim) (fun b _ hb => hb)
    exact ⟨h.fr.put d (by simpa [Nat.blt_eq] using hdN) _, h1⟩
theorem run_updS (hT : MapTS P T kT eT) (h : MapI w g (vs l)) : ∃ w', (Instr.mapUpdate T (.map (some g)) (.int .i64 k) (.bool true)).run P w = .ok () w' ∧ MapI w' g (vs (if k ∈ l then l else l ++ [k])) ∧ w.grownBy w' (some g) := by
  rcases atKey_vs k l 0 with ⟨j, h1, h2⟩ | ⟨h1, h2⟩
  · rw [if_pos (List.mem_of_getElem? h2)]
    obtain ⟨es, c, h3, h4⟩ := h
    have hlt : g < w.heap.size := (Array.getElem?_eq_some_iff.1 h3).1
    have e0 : (getObj g).run P w = .ok (.map es c) w := by simp [getObj, Sem.run, h3]
    have e1 := run_findKey_int (P := P) w kT k es (vs l) hT.int h4
    have e2 := run_checkKey_int (P := P) w false 9999 kT k hT.int
    rw [h1, Nat.zero_add] at e1
    have hj : (pairsOf es)[j]? = some (.int .i64 k, .bool true) := by rw [h4]; simp [keysI, vs, h2]
    obtain ⟨e, he, hek⟩ : ∃ e, es[j]? = some e ∧ (e.key, e.val) = (Value.int .i64 k, Value.bool true) := by
      rw [pairsOf, List.getElem?_map, Array.getElem?_toList] at hj
      cases hh : es[j]? with
      | none => rw [hh] at hj; cases hj
      | some e => rw [hh] at hj; exact ⟨e, rfl, Option.some.inj hj⟩
    have hk1 : e.key = .int .i64 k := (Prod.mk.inj hek).1
    have hk2 : e.val = .bool true := (Prod.mk.inj hek).2
    refine ⟨World.setMap w g (es.modify j fun e => { e with key := .int .i64 k, val := .bool true }) c, ?_, ⟨_, c, setMap_get hlt _ _, ?_⟩, ⟨rfl, rfl, rfl, by simp [World.setMap], fun q hq hne => ?_⟩⟩
    · simp [Instr.mapUpdate, run_underlying hT.map, e0, e1, e2, setObj, Sem.run, h3, World.setMap, he, hk1, Instr.keyThatStays, Instr.sameBits]
    · rw [← h4]
      unfold pairsOf
      apply List.ext_getElem?
      intro q
      simp only [List.getElem?_map, Array.getElem?_toList, Array.getElem?_modify]
      split
      · rename_i hq; subst hq; rw [he]; simp [hk1, hk2]
      · rfl
    · have : g ≠ q := fun e => hne (by rw [e])
      simp [World.setMap, Array.getElem?_setIfInBounds, this]
  · rw [if_neg h2]
    obtain ⟨w', hr, hm, hg⟩ := run_mapUpdate_new w T kT eT g k (vs l) (.bool true) hT.map hT.int h h1
    exact ⟨w', hr, by simpa [vs] using hm, hg⟩
/-- 'm[k] = true'. -/
theorem x_updS {x y z : Operand} {i : Nat} (h : St N K W a w F L) (hT : MapTS P T kT eT) (ho : o.op = .mapUpdate T x y z) (hd : o.dst = none) (hx : ev F x = some (.map (some g))) (hy : ev F y = some (.int .i64 k)) (hz : ev F z = some (.bool true)) (hi : L[i]? = some (.setO g l)) :
    Ex P o a w (fun a' w' => St N K W a' w' F (L.set i (.setO g (if k ∈ l then l else l ++ [k])))) := by
  obtain ⟨w', hrun, hm, hg⟩ := run_updS (k := k) hT (show MapI w g (vs l) from h.sh.ok _ (List.mem_of_getElem? hi))
  refine Ex.of_skip (w' := w') ?_ ?_
  · unfold execOp
    simp only [ho, h.fr.ev hx, h.fr.ev hy, h.fr.ev hz, Sem.run_bind, hrun, Result.andThen_ok, Sem.run_pure]
  · rw [hd]
    exact ⟨h.fr, h.sh.put hi (Chg.grown hg (fun b hb => Option.some.inj hb)) hm (fun b hb => .inl hb) (fun b hb => hb.elim) (fun b _ hb => hb)⟩
end
end Go.Proofs.Ytfpaahkleienoaa
