/-
  Arrays of truth values, as data. It imports nothing of the dump.
-/
import Derived.Test.YthdkmhaneellcaaGreatDoorS10
namespace Go.Proofs.YthdkmhaneellcaaGreatDoor
open Go.RowKit
set_option linter.unusedSimpArgs false
set_option linter.unusedVariables false

section
variable {P : Program} {o : Oper} {N : Nat} {K : Nat → Prop} {W w : World} {a : Act} {F : List (Nat × Value)} {L : List Asn}
/-- An array of 200 truth values. -/
structure BArr where
  l : List Bool
instance : Inhabited BArr := ⟨⟨List.replicate 200 false⟩⟩
instance : Enc BArr where
  sz := 200
  cell x j := .bool (nth x.l j)
  whole x := .agg ((List.range 200).map fun j => .bool (nth x.l j)).toArray
  agg := true
  inner x _ := x.l.length = 200
  on _ _ := False
  one h := by cases h
  many _ _ := rfl
  keep _ _ _ h _ := h
  lt _ _ _ _ hb := hb.elim
end
end Go.Proofs.YthdkmhaneellcaaGreatDoor
