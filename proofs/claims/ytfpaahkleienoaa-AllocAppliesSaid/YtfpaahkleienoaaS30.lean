/-
  A map's value without 'ok'; maps that are only read. It imports nothing of the dump.
-/
import Derived.Test.YtfpaahkleienoaaS20
namespace Go.Proofs.Ytfpaahkleienoaa
open Go.RowKit
set_option linter.unusedSimpArgs false
set_option linter.unusedVariables false
section
variable {P : Program} {o : Oper} {N : Nat} {K : Nat → Prop} {W w : World} {a : Act} {F : List (Nat × Value)} {L : List Asn} {T kT eT : TypeId} {p : Option Nat} {l : List (Int × Int)} {k v : Int} {g : Nat}
theorem run_lookZ0 (hT : MapTZ P T kT eT) (h : (Asn.mapO p l).ok w) : (Instr.lookup T (.map p) (.int .i64 k) false).run P w = .ok (.int .i64 ((getZ k l).getD 0)) w := by
  cases p with
  | some g =>
    rw [run_lookup_int w T kT eT g k (vz l) (.int .i64 0) hT.map hT.int (hT.zero w) (MapZ.int h), atKey_vz]
    cases getZ k l <;> rfl
  | none =>
    obtain rfl : l = [] := h
    have e2 := run_checkKey_int (P := P) w true 9999 kT k hT.int
    simp [Instr.lookup, run_underlying hT.map, e2, Instr.findKey, run_underlying hT.int, Instr.findNow, hT.zero, getZ]
/-- 'm[k]'. -/
theorem r_lookZ0 {x y : Operand} {i : Nat} (hT : MapTZ P T kT eT) (ho : o.op = .lookup T x y false) (hx : ev F x = some (.map p)) (hy : ev F y = some (.int .i64 k)) (hi : L[i]? = some (.mapO p l)) : Rn P o N K W F L (.int .i64 ((getZ k l).getD 0)) := fun a w h => by
  have key := run_lookZ0 (k := k) hT (h.sh.ok _ (List.mem_of_getElem? hi))
  unfold execOp
  simp only [ho, h.fr.ev hx, h.fr.ev hy, Sem.run_bind, key, Result.andThen_ok, Sem.run_pure]
theorem r_lookZ0R {x y : Operand} {i : Nat} (hT : MapTZ P T kT eT) (ho : o.op = .lookup T x y false) (hx : ev F x = some (.map p)) (hy : ev F y = some (.int .i64 k)) (hi : L[i]? = some (.ro [.mapO p l])) : Rn P o N K W F L (.int .i64 ((getZ k l).getD 0)) := fun a w h => by
  have key := run_lookZ0 (k := k) hT ((h.sh.ok _ (List.mem_of_getElem? hi)) _ (List.mem_cons_self ..))
  unfold execOp
  simp only [ho, h.fr.ev hx, h.fr.ev hy, Sem.run_bind, key, Result.andThen_ok, Sem.run_pure]
end
end Go.Proofs.Ytfpaahkleienoaa
