/-
  A string's length, its bytes. It imports nothing of the dump.
-/
import Derived.Test.YthdkmhaneellcaaGreatDoorS8
import Derived.Laws.IdiomStrings
namespace Go.Proofs.YthdkmhaneellcaaGreatDoor
open Go.RowKit
set_option linter.unusedSimpArgs false
set_option linter.unusedVariables false

section
variable {P : Program} {o : Oper} {N : Nat} {K : Nat → Prop} {W w : World} {a : Act} {F : List (Nat × Value)} {L : List Asn}
theorem r_lenStr [Defs] {T : TypeId} {y : Operand} {s : ByteArray} (hT : P.underlying T = some .string) (ho : o.op = .call ⟨.builtin .len, #[y], #[T]⟩) (hx : ev F y = some (.string s)) : Rn P o N K W F L (.int .i64 ((s.size : Nat) : Int)) := fun a w h => by
  unfold execOp
  simp [ho, resolve, invoke, builtin, h.fr.ev hx, run_len_string _ _ _ _ hT, goInt]
theorem r_ixStr [Defs] {T : TypeId} {y z : Operand} {s : ByteArray} {q : Nat} (hT : P.underlying T = some .string) (ho : o.op = .index T y z) (hx : ev F y = some (.string s)) (hz : ev F z = some (.int .i64 (q : Int))) (hq : q < s.size) : Rn P o N K W F L (.int .u8 ((s[q]'hq).toNat : Int)) := fun a w h => by
  have key : (Instr.index T (.string s) (.int .i64 (q : Int))).run P w = .ok (.int .u8 ((s[q]'hq).toNat : Int)) w := by
    rw [run_index_string _ _ _ _ _ hT]
    simp [hq]
  unfold execOp
  simp only [ho, h.fr.ev hx, h.fr.ev hz, Sem.run_bind, key, Result.andThen_ok, Sem.run_pure]
end
end Go.Proofs.YthdkmhaneellcaaGreatDoor
