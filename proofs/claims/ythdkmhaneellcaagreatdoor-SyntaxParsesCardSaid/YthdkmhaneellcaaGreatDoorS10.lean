/-
  Data of the space of states: states that are done with, outcomes. It imports nothing of the dump.
-/
import Derived.Test.YthdkmhaneellcaaGreatDoorS8
import Derived.Laws.Bits64
namespace Go.Proofs.YthdkmhaneellcaaGreatDoor
open Go.RowKit
set_option linter.unusedSimpArgs false
set_option linter.unusedVariables false

/-- An outcome that is read. -/
structure OutL where
  st : Int
  words : Ls Int
  prints : Ls Int
instance : Inhabited OutL := ⟨⟨0, default, default⟩⟩
def OutL.cell (x : OutL) : Nat → Value
  | 0 => .int .i64 x.st
  | 1 => x.words.v
  | _ => x.prints.v
instance : Enc OutL where
  sz := 3
  cell := OutL.cell
  whole x := .agg #[.int .i64 x.st, x.words.v, x.prints.v]
  agg := true
  inner x w := x.words.At w ∧ x.prints.At w
  on x b := x.words.on b ∨ x.prints.on b
  one h := by cases h
  many _ _ := rfl
  keep _ _ _ h hb := ⟨h.1.keep fun b hb' => hb b (.inl hb'), h.2.keep fun b hb' => hb b (.inr hb')⟩
  lt _ _ h _ hb := hb.elim (fun hb => h.1.lt hb) (fun hb => h.2.lt hb)
instance : One OutL := ⟨fun x w h q hq => by
  rcases q with _ | _ | q
  · rfl
  · exact Ls.At.one (s := x.words) h.1
  · exact Ls.At.one (s := x.prints) h.2⟩
/-- What a run comes to. -/
structure Outc where
  st : Int
  words : List Int
  prints : List Int
  deriving DecidableEq
instance : Inhabited Outc := ⟨⟨0, [], []⟩⟩
def OutL.out (x : OutL) : Outc := ⟨x.st, x.words.l, x.prints.l⟩

/-- A state that turns no more, by its place. -/
structure SD where
  g : Nat
  E : TypeId
  hd : List Value
  thr : Ls ThL
  words : Ls Int
  owner : Ls Int
  prints : Ls Int
  fell : Bool
instance : Inhabited SD := ⟨⟨0, 0, [], default, default, default, default, false⟩⟩
def SD.cells (x : SD) : List Value := x.hd ++ [x.thr.v, x.words.v, x.owner.v, x.prints.v, .bool x.fell]
def SD.ptr (x : SD) : Value := .pointer (some ⟨x.g, 0, none⟩)
instance : Enc SD where
  sz := 1
  cell x _ := x.ptr
  whole x := x.ptr
  agg := false
  inner x w := Blk w x.g x.E x.cells.toArray ∧ x.thr.At w ∧ x.words.At w ∧ x.owner.At w ∧ x.prints.At w
  on x b := b = x.g ∨ x.thr.on b ∨ x.words.on b ∨ x.owner.on b ∨ x.prints.on b
  one _ := ⟨rfl, fun _ => rfl⟩
  many h := by cases h
  keep _ _ _ h hb := ⟨(hb _ (.inl rfl)).trans h.1, h.2.1.keep fun b hb' => hb b (.inr (.inl hb')), h.2.2.1.keep fun b hb' => hb b (.inr (.inr (.inl hb'))), h.2.2.2.1.keep fun b hb' => hb b (.inr (.inr (.inr (.inl hb')))), h.2.2.2.2.keep fun b hb' => hb b (.inr (.inr (.inr (.inr hb'))))⟩
  lt _ _ h _ hb := by
    rcases hb with rfl | hb | hb | hb | hb
    · exact h.1.lt
    · exact h.2.1.lt hb
    · exact h.2.2.1.lt hb
    · exact h.2.2.2.1.lt hb
    · exact h.2.2.2.2.lt hb
instance : One SD := ⟨fun _ _ _ _ _ => rfl⟩
def SD.st (x : SD) : MSt := ⟨x.thr.l.map ThL.th, x.words.l, x.owner.l, x.prints.l⟩

section
variable {P : Program} {N : Nat} {K : Nat → Prop} {W w : World} {a : Act} {F F' : List (Nat × Value)} {L L' : List Asn}
end

/-! ### Numbers of 64 bits without sign -/
section
variable {P : Program} {o : Oper} {N : Nat} {K : Nat → Prop} {W w : World} {F : List (Nat × Value)} {L : List Asn} {T U D : TypeId} {x y : Operand}
end
end Go.Proofs.YthdkmhaneellcaaGreatDoor
