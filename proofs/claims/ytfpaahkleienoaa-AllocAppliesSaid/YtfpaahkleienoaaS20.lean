/-
  Maps from numbers to numbers as resources: made, looked up, entered, cloned, their length. It imports nothing of the dump.
-/
import Derived.Test.YtfpaahkleienoaaS14
import Derived.Test.YtfpaahkleienoaaMaps
import Derived.Maps.RangeRun
section
namespace Go.Proofs.Ytfpaahkleienoaa
open Go.RowKit
set_option linter.unusedSimpArgs false
set_option linter.unusedVariables false

section
variable {P : Program} {o : Oper} {N : Nat} {K : Nat → Prop} {W w : World} {a : Act} {F : List (Nat × Value)} {L : List Asn}
theorem Sh.front {i : Nat} {A : Asn} (h : Sh K W w L) (hi : L[i]? = some A) : Sh K W w (A :: L.eraseIdx i) := by
  obtain ⟨hl, he⟩ := List.getElem?_eq_some_iff.1 hi
  have := perm_erase L i hl
  rw [he] at this
  exact h.perm this
theorem Sh.unfront {i : Nat} {A A' : Asn} (h : Sh K W w (A' :: L.eraseIdx i)) (hi : L[i]? = some A) : Sh K W w (L.set i A') :=
  h.perm (perm_set A' L i (List.getElem?_eq_some_iff.1 hi).1).symm
section
variable {α : Type} [Enc α] {E IE : TypeId} {v : Value} {M : List (Ls α)}
end
end
end Go.Proofs.Ytfpaahkleienoaa
end
namespace Go.Proofs.Ytfpaahkleienoaa
open Go.RowKit
set_option linter.unusedSimpArgs false
set_option linter.unusedVariables false

structure KE where
  k : Int
  v : Int
  b : Nat
def KE.e (x : KE) : MapEntry := ⟨.int .i64 x.k, .int .i64 x.v, x.b⟩
def KE.kv (x : KE) : Int × Int := (x.k, x.v)
/-- Block g is a map that holds these, each key once. -/
structure MapC (w : World) (g : Nat) (c : List KE) (t : Nat) : Prop where
  blk : w.heap[g]? = some (.map (c.map KE.e).toArray t)
  born : (c.map (·.b)).Nodup
  below : ∀ x ∈ c, x.b < t
  keys : (c.map (·.k)).Nodup
def MapZ (w : World) (g : Nat) (l : List (Int × Int)) : Prop := ∃ c t, MapC w g c t ∧ c.map KE.kv = l
theorem MapC.of_block {w w' : World} {g : Nat} {c : List KE} {t : Nat} (h : MapC w g c t) (hb : w'.heap[g]? = w.heap[g]?) : MapC w' g c t := ⟨hb.trans h.blk, h.born, h.below, h.keys⟩
theorem MapC.lt {w : World} {g : Nat} {c : List KE} {t : Nat} (h : MapC w g c t) : g < w.heap.size := (Array.getElem?_eq_some_iff.1 h.blk).1
/-- A map, or none. -/
def Asn.mapO (p : Option Nat) (l : List (Int × Int)) : Asn where
  fp b := p = some b
  rd _ := False
  ok w := match p with
    | none => l = []
    | some g => MapZ w g l
  keep w w' h hb := by
    cases p with
    | none => exact h
    | some g =>
      obtain ⟨c, t, h1, h2⟩ := h
      exact ⟨c, t, h1.of_block (hb g (.inl rfl)), h2⟩
  lt w h b hb := by
    rcases hb with rfl | hb
    · obtain ⟨c, t, h1, _⟩ := h
      exact h1.lt
    · exact hb.elim
def getZ (k : Int) : List (Int × Int) → Option Int
  | [] => none
  | x :: r => if k = x.1 then some x.2 else getZ k r
def vz (l : List (Int × Int)) : List (Int × Value) := l.map fun x => (x.1, .int .i64 x.2)
theorem atKey_vz (k : Int) : ∀ (l : List (Int × Int)) (i : Nat), (atKey k (vz l) i).map (·.2) = (getZ k l).map (Value.int .i64)
  | [], _ => rfl
  | x :: r, i => by
    show (if k = x.1 then some (i, Value.int .i64 x.2) else atKey k (vz r) (i + 1)).map (·.2) = _
    rw [getZ]
    by_cases h : k = x.1
    · rw [if_pos h, if_pos h]; rfl
    · rw [if_neg h, if_neg h]; exact atKey_vz k r (i + 1)
theorem getZ_none {k : Int} : ∀ {l : List (Int × Int)}, getZ k l = none ↔ k ∉ l.map (·.1)
  | [] => by simp [getZ]
  | x :: r => by
    rw [getZ]
    by_cases h : k = x.1
    · simp [h]
    · rw [if_neg h, getZ_none]; simp [h]
theorem getZ_some {k v : Int} : ∀ {l : List (Int × Int)}, (l.map (·.1)).Nodup → (getZ k l = some v ↔ (k, v) ∈ l)
  | [], _ => by simp [getZ]
  | (j, u) :: r, hn => by
    rw [List.map_cons, List.nodup_cons] at hn
    rw [getZ, List.mem_cons]
    by_cases h : k = j
    · subst h
      rw [if_pos rfl]
      constructor
      · intro e; exact .inl (by rw [← Option.some.inj e])
      · rintro (e | e)
        · rw [(Prod.mk.inj e).2]
        · exact absurd (List.mem_map.2 ⟨_, e, rfl⟩) hn.1
    · rw [if_neg h, getZ_some hn.2]
      constructor
      · exact .inr
      · rintro (e | e)
        · exact absurd (Prod.mk.inj e).1 h
        · exact e
theorem MapZ.int {w : World} {g : Nat} {l : List (Int × Int)} (h : MapZ w g l) : MapI w g (vz l) := by
  obtain ⟨c, t, h1, rfl⟩ := h
  exact ⟨_, t, h1.blk, by simp [pairsOf, keysI, vz, KE.e, KE.kv, Function.comp_def]⟩
theorem MapZ.keys {w : World} {g : Nat} {l : List (Int × Int)} (h : MapZ w g l) : (l.map (·.1)).Nodup := by
  obtain ⟨c, t, h1, rfl⟩ := h
  have := h1.keys
  rw [List.map_map]
  exact this
/-- What a map of this kind is. -/
structure MapTZ (P : Program) (T kT eT : TypeId) : Prop where
  map : P.underlying T = some (.map kT eT)
  int : P.underlying kT = some (.int .i64)
  zero : ∀ w, (zeroValue eT).run P w = .ok (.int .i64 0) w
section
variable {P : Program} {o : Oper} {N : Nat} {K : Nat → Prop} {W w : World} {a : Act} {F : List (Nat × Value)} {L : List Asn} {T kT eT : TypeId} {p : Option Nat} {l : List (Int × Int)} {k v : Int} {g : Nat}
/-- 'map[int]int{}'. -/
theorem x_makeZ {d : Nat} (h : St N K W a w F L) (ho : o.op = .makeMap T none) (hd : o.dst = some d) (hdN : Nat.blt d N = true) : Ex P o a w (fun a' w' => ∃ g : Nat, St N K W a' w' ((d, .map (some g)) :: F) (.mapO (some g) [] :: L)) := by
  have hrun : (Instr.makeMap T none).run P w = .ok (.map (some w.heap.size)) (w.alloc (.map #[] 0)) := run_makeMap T w
  refine Ex.of_run (v := .map (some w.heap.size)) (w' := w.alloc (.map #[] 0)) ?_ ⟨w.heap.size, ?_⟩
  · unfold execOp
    simp only [ho, Option.map_none, Sem.run_bind, hrun, Result.andThen_ok, Sem.run_pure]
  · rw [hd]
    have h1 : Sh K W (w.alloc (.map #[] 0)) (.mapO (some w.heap.size) [] :: L) :=
      h.sh.push (Chg.alloc _ w _) ⟨[], 0, ⟨Go.heap_alloc_new w _, List.nodup_nil, fun x hx => (List.not_mem_nil hx).elim, List.nodup_nil⟩, rfl⟩ (fun b hb => by rw [← Option.some.inj hb]; exact Nat.le_refl _) (fun b hb => hb.elim) (fun b _ hb => hb)
    exact ⟨h.fr.put d (by simpa [Nat.blt_eq] using hdN) _, h1⟩
theorem setMap_chg (w : World) (g : Nat) (es : Array MapEntry) (t : Nat) : Chg (fun b => some g = some b) w (World.setMap w g es t) := ⟨rfl, rfl, rfl, by simp [World.setMap], fun b hb hne => by
  show (w.heap.setIfInBounds g _)[b]? = _
  rw [Array.getElem?_setIfInBounds_ne (fun e => hne (by rw [e]))]⟩
theorem setMap_get {w : World} {g : Nat} (hlt : g < w.heap.size) (es : Array MapEntry) (t : Nat) : (World.setMap w g es t).heap[g]? = some (.map es t) := by
  show (w.heap.setIfInBounds g _)[g]? = _
  rw [Array.getElem?_setIfInBounds_self_of_lt hlt]
/-- 'm[k] = v', k not there yet. -/
theorem x_updZ {x y z : Operand} {i : Nat} (h : St N K W a w F L) (hT : MapTZ P T kT eT) (ho : o.op = .mapUpdate T x y z) (hd : o.dst = none) (hx : ev F x = some (.map (some g))) (hy : ev F y = some (.int .i64 k)) (hz : ev F z = some (.int .i64 v)) (hi : L[i]? = some (.mapO (some g) l)) (hk : getZ k l = none) :
    Ex P o a w (fun a' w' => St N K W a' w' F (L.set i (.mapO (some g) (l ++ [(k, v)])))) := by
  have hok : MapZ w g l := h.sh.ok _ (List.mem_of_getElem? hi)
  have hI := hok.int
  obtain ⟨c, t, h1, rfl⟩ := hok
  have hlt := h1.lt
  have e0 : (getObj g).run P w = .ok (.map (c.map KE.e).toArray t) w := by simp [getObj, Sem.run, h1.blk]
  have e1 : (Instr.findKey kT (.int .i64 k) (c.map KE.e)).run P w = .ok none w := by
    have := run_findKey_int (P := P) w kT k (c.map KE.e).toArray (vz (c.map KE.kv)) hT.int (by simp [pairsOf, keysI, vz, KE.e, KE.kv, Function.comp_def])
    have e2 := atKey_vz k (c.map KE.kv) 0
    rw [hk] at e2
    have e3 : atKey k (vz (c.map KE.kv)) 0 = none := by simpa using e2
    rw [e3] at this
    exact this
  have e2 := run_checkKey_int (P := P) w false 9999 kT k hT.int
  have e3 : ∀ es c, (setObj g (.map es c)).run P w = .ok () (World.setMap w g es c) := fun es c => by simp [setObj, Sem.run, h1.blk, World.setMap]
  have hrun : (Instr.mapUpdate T (.map (some g)) (.int .i64 k) (.int .i64 v)).run P w = .ok () (World.setMap w g ((c ++ [(⟨k, v, t⟩ : KE)]).map KE.e).toArray (t + 1)) := by
    simp [Instr.mapUpdate, run_underlying hT.map, e0, e1, e2, e3, KE.e]
  have hknew : k ∉ (c.map KE.kv).map (·.1) := getZ_none.1 hk
  refine Ex.of_skip (w' := World.setMap w g ((c ++ [(⟨k, v, t⟩ : KE)]).map KE.e).toArray (t + 1)) ?_ ?_
  · unfold execOp
    simp only [ho, h.fr.ev hx, h.fr.ev hy, h.fr.ev hz, Sem.run_bind, hrun, Result.andThen_ok, Sem.run_pure]
  · rw [hd]
    refine ⟨h.fr, h.sh.put hi (setMap_chg w g _ _) ⟨c ++ [⟨k, v, t⟩], t + 1, ⟨setMap_get hlt _ _, ?_, ?_, ?_⟩, by simp [KE.kv]⟩ (fun b hb => .inl hb) (fun b hb => hb.elim) (fun b _ hb => hb)⟩
    · rw [List.map_append, List.map_singleton, List.nodup_append]
      refine ⟨h1.born, by simp, fun x hx y hy => ?_⟩
      obtain ⟨z, hz, rfl⟩ := List.mem_map.1 hx
      have := h1.below z hz
      have hy' : y = t := by simpa using hy
      omega
    · intro x hx
      rcases List.mem_append.1 hx with hx | hx
      · have := h1.below x hx; omega
      · obtain rfl : x = _ := by simpa using hx
        exact Nat.lt_succ_self t
    · rw [List.map_append, List.map_singleton, List.nodup_append]
      refine ⟨h1.keys, by simp, fun x hx y hy e => hknew ?_⟩
      have hy' : y = k := by simpa using hy
      rw [List.map_map]
      rw [← hy', ← e]
      exact hx
end
end Go.Proofs.Ytfpaahkleienoaa
