/-
  Matrices as resources: a row of rows, whose rows are the call's own; rows of arrays. It imports nothing of the dump.
-/
import Derived.Test.YtmjkobhkkjgplaaGreatDoorS12
import Derived.Laws.RangeString
namespace Go.Proofs.YtmjkobhkkjgplaaGreatDoor
open Go.RowKit
set_option linter.unusedSimpArgs false
set_option linter.unusedVariables false

/-- A row's value, as it stands. -/
structure RV where
  v : Value
instance : Inhabited RV := ⟨⟨.slice none 0 0⟩⟩
instance : Enc RV where
  sz := 1
  cell x _ := x.v
  whole x := x.v
  agg := false
  inner _ _ := True
  on _ _ := False
  one _ := ⟨rfl, fun _ => rfl⟩
  many h := by cases h
  keep _ _ _ h _ := h
  lt _ _ _ _ h := h.elim
instance : Flat RV := ⟨fun _ _ h => h, fun _ _ => trivial⟩
/-- A row that none else reads, of which no more is known than that. -/
def Asn.hold {α : Type} [Enc α] (s : Ls α) : Asn where
  fp := s.on
  rd _ := False
  ok w := s.At w
  keep w w' h hb := h.keep fun b hb' => hb b (.inl hb')
  lt w h b hb := hb.elim (fun hb => h.lt hb) fun hb => hb.elim
section
variable {α : Type}
end
section
variable {α : Type} [Enc α]
end
section
variable {K : Nat → Prop} {W w : World} {L : List Asn} {α : Type} {R : Ls α → Asn} {E : TypeId} {v : Value} {M : List (Ls α)}
end
section
variable {P : Program} {o : Oper} {N : Nat} {K : Nat → Prop} {W w : World} {a : Act} {F : List (Nat × Value)} {L : List Asn} {α : Type} [Enc α] {R : Ls α → Asn} {E IE : TypeId} {v : Value} {M : List (Ls α)}
end
-- ---------------------------------------------------------------- rows of arrays
section
variable {P : Program} {o : Oper} {N : Nat} {K : Nat → Prop} {W w : World} {a : Act} {F : List (Nat × Value)} {L : List Asn}
end
-- ---------------------------------------------------------------- rows whose room is cut to their length
section
variable {P : Program} {o : Oper} {N : Nat} {K : Nat → Prop} {W w : World} {a : Act} {F : List (Nat × Value)} {L : List Asn} {α : Type} [Enc α]
end
end Go.Proofs.YtmjkobhkkjgplaaGreatDoor
