/-
  Laws for maps with integer keys that are known whole: a block of entries.
-/
import Derived.Test.YthdkmhaneellcaaGreatDoorBase
namespace Go.Proofs.YthdkmhaneellcaaGreatDoor
open Go.RowKit
set_option linter.unusedSimpArgs false
set_option linter.unusedVariables false

/-- What a map holds, key by key, in the order of its entries. -/
def pairsOf (es : Array MapEntry) : List (Value × Value) := es.toList.map fun e => (e.key, e.val)
def keysI (l : List (Int × Value)) : List (Value × Value) := l.map fun x => (.int .i64 x.1, x.2)

/-- Block g is a map that holds l, each key once. -/
def MapI (w : World) (g : Nat) (l : List (Int × Value)) : Prop := ∃ es clock, w.heap[g]? = some (.map es clock) ∧ pairsOf es = keysI l

theorem MapI.of_block {w w' : World} {g : Nat} {l : List (Int × Value)} (h : MapI w g l) (hb : w'.heap[g]? = w.heap[g]?) : MapI w' g l := by
  obtain ⟨es, c, h1, h2⟩ := h
  exact ⟨es, c, hb.trans h1, h2⟩
theorem MapI.lt {w : World} {g : Nat} {l : List (Int × Value)} (h : MapI w g l) : g < w.heap.size := by
  obtain ⟨es, c, h1, _⟩ := h
  exact (Array.getElem?_eq_some_iff.1 h1).1
@[go_sem] theorem MapI.alloc {w : World} {g : Nat} {l : List (Int × Value)} (h : MapI w g l) (o : Obj) : MapI (w.alloc o) g l := h.of_block (Below.heap_alloc w o g h.lt)
@[go_sem] theorem MapI.drew {w : World} {g : Nat} {l : List (Int × Value)} (h : MapI w g l) : MapI w.drew g l := h.of_block rfl
theorem MapI.below {w w' : World} {B g : Nat} {l : List (Int × Value)} (h : MapI w g l) (hb : Below B w w') (hg : g < B) : MapI w' g l := h.of_block (hb.block g hg)
theorem MapI.setCell {w : World} {g : Nat} {l : List (Int × Value)} (h : MapI w g l) {p : Addr} (hp : g ≠ p.block) (v : Value) : MapI (w.setCell p v) g l := h.of_block (Below.heap_setCell w p v g hp)
theorem MapI.made (w : World) : MapI (w.alloc (.map #[] 0)) w.heap.size [] := ⟨#[], 0, Go.heap_alloc_new w _, rfl⟩

section
variable {P : Program} (w : World)

theorem run_checkKey_int (b : Bool) (n : Nat) (K : TypeId) (k : Int) (hK : P.underlying K = some (.int .i64)) : (Instr.checkKey b (n + 1) K (.int .i64 k)).run P w = .ok () w := by
  simp [Instr.checkKey, run_underlying hK]

/-- A map's world with entries put anew. -/
def World.setMap (w : World) (g : Nat) (es : Array MapEntry) (c : Nat) : World := { w with heap := w.heap.setIfInBounds g (.map es c) }

@[go_sem] def mapK (P : Program) (T : TypeId) : TypeId := match P.underlying T with | some (.map k _) => k | _ => 0
@[go_sem] def mapE (P : Program) (T : TypeId) : TypeId := match P.underlying T with | some (.map _ e) => e | _ => 0

@[go_sem] def freshI (k : Int) : List MapEntry → Bool
  | [] => true
  | e :: es => (match e.key with | .int .i64 j => !(k == j) | _ => false) && freshI k es
theorem findNow_fresh (k : Int) : ∀ (es : List MapEntry) (i : Nat), freshI k es = true → Instr.findNow (.int .i64) (.int .i64 k) es i = some none
  | [], _, _ => rfl
  | e :: es, i, h => by
    simp only [freshI, Bool.and_eq_true] at h
    obtain ⟨h1, h2⟩ := h
    have ih := findNow_fresh k es (i + 1) h2
    split at h1
    · rename_i j hj
      have : (k == j) = false := by simpa using h1
      simp [Instr.findNow, hj, Instr.sameNow, this, ih]
    · cases h1

def laterRun (P : Program) (w : World) (T : TypeId) (g : Nat) (k : Int) (v : Value) : Result Unit := (Instr.mapUpdate T (.map (some g)) (.int .i64 k) v).run P w

/-- A map's literal: one entry more in the block that was laid last. -/
@[go_sem] theorem run_mapUpdate_lit (T : TypeId) (g : Nat) (k : Int) (v : Value) (es : List MapEntry) (c : Nat) (hT : P.underlying T = some (.map (mapK P T) (mapE P T))) (hK : P.underlying (mapK P T) = some (.int .i64))
    (hg : g = w.heap.size) :
    (Instr.mapUpdate T (.map (some g)) (.int .i64 k) v).run P (w.alloc (.map es.toArray c)) =
      if freshI k es = true then .ok () (w.alloc (.map (es ++ [(⟨.int .i64 k, v, c⟩ : MapEntry)]).toArray (c + 1))) else laterRun P (w.alloc (.map es.toArray c)) T g k v := by
  by_cases hnew : freshI k es = true
  case neg => rw [if_neg hnew]; rfl
  rw [if_pos hnew]
  subst hg
  have h1 : (w.alloc (.map es.toArray c)).heap[w.heap.size]? = some (.map es.toArray c) := Go.heap_alloc_new w _
  have e0 : (getObj w.heap.size).run P (w.alloc (.map es.toArray c)) = .ok (.map es.toArray c) (w.alloc (.map es.toArray c)) := by simp only [getObj, Sem.run, h1]
  have e1 : (Instr.findKey (mapK P T) (.int .i64 k) es).run P (w.alloc (.map es.toArray c)) = .ok none (w.alloc (.map es.toArray c)) := by
    simp [Instr.findKey, run_underlying hK, findNow_fresh k es 0 hnew]
  have e2 := run_checkKey_int (P := P) (w.alloc (.map es.toArray c)) false 9999 (mapK P T) k hK
  have e3 : ∀ o : Obj, (setObj w.heap.size o).run P (w.alloc (.map es.toArray c)) = .ok () (w.alloc o) := by
    intro o
    simp only [setObj, Sem.run, h1]
    have : (w.alloc (.map es.toArray c)).heap.setIfInBounds w.heap.size o = w.heap.push o := by
      show (w.heap.push _).setIfInBounds w.heap.size o = _
      apply Array.ext_getElem?
      intro i
      simp only [Array.getElem?_setIfInBounds, Array.getElem?_push, Array.size_push]
      by_cases hi : w.heap.size = i
      · simp [hi]
      · have : ¬ i = w.heap.size := fun e => hi e.symm
        simp [hi, this]
    simp only [this]
    rfl
  simp [Instr.mapUpdate, run_underlying hT, e0, e1, e2, e3]
end
end Go.Proofs.YthdkmhaneellcaaGreatDoor
