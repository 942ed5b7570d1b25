/-
  Rows of maps as resources; the maps' clone. It imports nothing of the dump.
-/
import Derived.Test.YtmgikmjmdppfmaaS14
import Derived.Test.YtmgikmjmdppfmaaMaps
import Derived.Maps.RangeRun
import Derived.Laws.Externs
section
section
namespace Go.Proofs.Ytmgikmjmdppfmaa
open Go.RowKit
set_option linter.unusedSimpArgs false
set_option linter.unusedVariables false

section
variable {P : Program} {o : Oper} {N : Nat} {K : Nat → Prop} {W w : World} {a : Act} {F : List (Nat × Value)} {L : List Asn}
theorem Sh.front {i : Nat} {A : Asn} (h : Sh K W w L) (hi : L[i]? = some A) : Sh K W w (A :: L.eraseIdx i) := by
  obtain ⟨hl, he⟩ := List.getElem?_eq_some_iff.1 hi
  have := perm_erase L i hl
  rw [he] at this
  exact h.perm this
section
variable {α : Type} [Enc α] {E IE : TypeId} {v : Value} {M : List (Ls α)}
end
end
end Go.Proofs.Ytmgikmjmdppfmaa
end
namespace Go.Proofs.Ytmgikmjmdppfmaa
open Go.RowKit
set_option linter.unusedSimpArgs false
set_option linter.unusedVariables false

structure KE where
  k : Int
  v : Int
  b : Nat
def KE.e (x : KE) : MapEntry := ⟨.int .i64 x.k, .int .i64 x.v, x.b⟩
def KE.kv (x : KE) : Int × Int := (x.k, x.v)
/-- Block g is a map that holds these, each key once. -/
structure MapC (w : World) (g : Nat) (c : List KE) (t : Nat) : Prop where
  blk : w.heap[g]? = some (.map (c.map KE.e).toArray t)
  born : (c.map (·.b)).Nodup
  below : ∀ x ∈ c, x.b < t
  keys : (c.map (·.k)).Nodup
def MapZ (w : World) (g : Nat) (l : List (Int × Int)) : Prop := ∃ c t, MapC w g c t ∧ c.map KE.kv = l
theorem MapC.of_block {w w' : World} {g : Nat} {c : List KE} {t : Nat} (h : MapC w g c t) (hb : w'.heap[g]? = w.heap[g]?) : MapC w' g c t := ⟨hb.trans h.blk, h.born, h.below, h.keys⟩
theorem MapC.lt {w : World} {g : Nat} {c : List KE} {t : Nat} (h : MapC w g c t) : g < w.heap.size := (Array.getElem?_eq_some_iff.1 h.blk).1
/-- A map, or none. -/
def Asn.mapO (p : Option Nat) (l : List (Int × Int)) : Asn where
  fp b := p = some b
  rd _ := False
  ok w := match p with
    | none => l = []
    | some g => MapZ w g l
  keep w w' h hb := by
    cases p with
    | none => exact h
    | some g =>
      obtain ⟨c, t, h1, h2⟩ := h
      exact ⟨c, t, h1.of_block (hb g (.inl rfl)), h2⟩
  lt w h b hb := by
    rcases hb with rfl | hb
    · obtain ⟨c, t, h1, _⟩ := h
      exact h1.lt
    · exact hb.elim
def vz (l : List (Int × Int)) : List (Int × Value) := l.map fun x => (x.1, .int .i64 x.2)
theorem MapZ.int {w : World} {g : Nat} {l : List (Int × Int)} (h : MapZ w g l) : MapI w g (vz l) := by
  obtain ⟨c, t, h1, rfl⟩ := h
  exact ⟨_, t, h1.blk, by simp [pairsOf, keysI, vz, KE.e, KE.kv, Function.comp_def]⟩
theorem MapZ.keys {w : World} {g : Nat} {l : List (Int × Int)} (h : MapZ w g l) : (l.map (·.1)).Nodup := by
  obtain ⟨c, t, h1, rfl⟩ := h
  have := h1.keys
  rw [List.map_map]
  exact this
/-- What a map of this kind is. -/
structure MapTZ (P : Program) (T kT eT : TypeId) : Prop where
  map : P.underlying T = some (.map kT eT)
  int : P.underlying kT = some (.int .i64)
  zero : ∀ w, (zeroValue eT).run P w = .ok (.int .i64 0) w
section
variable {P : Program} {o : Oper} {N : Nat} {K : Nat → Prop} {W w : World} {a : Act} {F : List (Nat × Value)} {L : List Asn} {T kT eT : TypeId} {p : Option Nat} {l : List (Int × Int)} {k v : Int} {g : Nat}
theorem run_eqInNilM (d : Nat) (hT : P.underlying T = some (.map kT eT)) : (Op.equalIn (d + 1) T (.map p) (.map none)).run P w = .ok p.isNone w := by
  cases p <;> simp [Op.equalIn, run_underlying hT]
theorem run_eqlNilM (hT : P.underlying T = some (.map kT eT)) : (binOp .eql T (.map p) (.map none)).run P w = .ok (.bool p.isNone) w := by
  have hq := run_eqInNilM (P := P) (w := w) (p := p) 9999 hT
  simp only [binOp]
  rw [show Op.equal T (.map p) (.map none) = Op.equalIn (9999 + 1) T (.map p) (.map none) from rfl]
  simp only [Sem.run_bind, hq, Result.andThen_ok, Sem.run_pure]
theorem setMap_chg (w : World) (g : Nat) (es : Array MapEntry) (t : Nat) : Chg (fun b => some g = some b) w (World.setMap w g es t) := ⟨rfl, rfl, rfl, by simp [World.setMap], fun b hb hne => by
  show (w.heap.setIfInBounds g _)[b]? = _
  rw [Array.getElem?_setIfInBounds_ne (fun e => hne (by rw [e]))]⟩
theorem setMap_get {w : World} {g : Nat} (hlt : g < w.heap.size) (es : Array MapEntry) (t : Nat) : (World.setMap w g es t).heap[g]? = some (.map es t) := by
  show (w.heap.setIfInBounds g _)[g]? = _
  rw [Array.getElem?_setIfInBounds_self_of_lt hlt]
end
end Go.Proofs.Ytmgikmjmdppfmaa
end
namespace Go.Proofs.Ytmgikmjmdppfmaa
open Go.RowKit
set_option linter.unusedSimpArgs false
set_option linter.unusedVariables false

structure MP where
  p : Option Nat
  l : List (Int × Int)
instance : Inhabited MP := ⟨⟨none, []⟩⟩
def MP.asn (x : MP) : Asn := .mapO x.p x.l
section
variable {P : Program} {o : Oper} {N : Nat} {K : Nat → Prop} {W w : World} {a : Act} {F : List (Nat × Value)} {L : List Asn} {T kT eT E : TypeId} {v : Value} {M : List MP} {l : List (Int × Int)} {p : Option Nat} {g : Nat}
end
end Go.Proofs.Ytmgikmjmdppfmaa
