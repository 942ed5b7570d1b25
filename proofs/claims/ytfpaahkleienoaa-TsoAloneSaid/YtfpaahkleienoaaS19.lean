/-
  A state that is held: its threads' rows are read; remainders. It imports nothing of the dump.
-/
import Derived.Test.YtfpaahkleienoaaS10
namespace Go.Proofs.Ytfpaahkleienoaa
open Go.RowKit
set_option linter.unusedSimpArgs false
set_option linter.unusedVariables false

section
variable {P : Program} {o : Oper} {N : Nat} {K : Nat → Prop} {W w : World} {a : Act} {F : List (Nat × Value)} {L : List Asn} {TH INT WT : TypeId} {vt : Value} {rows : List ThL}
theorem r_remI {T U : TypeId} {x y : Operand} {p : Int} {q : Nat} (ho : o.op = .binOp .rem T x y U) (hx : ev F x = some (.int .i64 p)) (hy : ev F y = some (.int .i64 (q : Int))) (hb : 0 < q ∧ q < 9223372036854775808) : Rn P o N K W F L (.int .i64 (Int.tmod p (q : Int))) := r_bin ho hx hy fun w => by
  have h1 : ¬ (q : Int) = 0 := by omega
  have h0 : ¬ q = 0 := by omega
  simp [go_sem, h0, h1]
theorem tmod_in (p : Int) {q : Nat} (h : 0 < q) : -(q : Int) < Int.tmod p (q : Int) ∧ Int.tmod p (q : Int) < (q : Int) := ⟨Int.lt_tmod_of_pos p (by omega), Int.tmod_lt_of_pos p (by omega)⟩
end
end Go.Proofs.Ytfpaahkleienoaa
