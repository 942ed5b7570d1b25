/-
  Rows that are cut; an order in a block, told by the place of its number. It imports nothing of the dump.
-/
import Derived.Test.YtfpaahkleienoaaS22
namespace Go.Proofs.Ytfpaahkleienoaa
open Go.RowKit
set_option linter.unusedSimpArgs false
set_option linter.unusedVariables false

section
variable {N : Nat} {K : Nat → Prop} {W w : World} {a : Act} {F : List (Nat × Value)} {L : List Asn} {α : Type} [Enc α] [Flat α]
end
/-- One of an order's numbers is put anew. -/
def putK (x : Ins) (k : Nat) (v : Int) : Ins := if k = 0 then { x with a := v } else if k = 1 then { x with b := v } else { x with c := v }
section
variable {P : Program} {o : Oper} {N : Nat} {K : Nat → Prop} {W w : World} {a : Act} {F : List (Nat × Value)} {L : List Asn}
theorem r_lenStr {T : TypeId} {y : Operand} {s : ByteArray} (hT : P.underlying T = some .string) (ho : o.op = .call ⟨.builtin .len, #[y], #[T]⟩) (hx : ev F y = some (.string s)) : Rn P o N K W F L (.int .i64 ((s.size : Nat) : Int)) := fun a w h => by
  unfold execOp
  simp [ho, resolve, invoke, builtin, h.fr.ev hx, run_len_string _ _ _ _ hT, goInt]
theorem r_ixStr {T : TypeId} {y z : Operand} {s : ByteArray} {q : Nat} (hT : P.underlying T = some .string) (ho : o.op = .index T y z) (hx : ev F y = some (.string s)) (hz : ev F z = some (.int .i64 (q : Int))) (hq : q < s.size) : Rn P o N K W F L (.int .u8 ((s[q]'hq).toNat : Int)) := fun a w h => by
  have key : (Instr.index T (.string s) (.int .i64 (q : Int))).run P w = .ok (.int .u8 ((s[q]'hq).toNat : Int)) w := by
    rw [run_index_string _ _ _ _ _ hT]
    simp [hq]
  unfold execOp
  simp only [ho, h.fr.ev hx, h.fr.ev hz, Sem.run_bind, key, Result.andThen_ok, Sem.run_pure]
theorem ix_Bk (x : Ins) (g k : Nat) (h : k < 3) : nth ([⟨.pointer (some ⟨g, 1, none⟩)⟩, ⟨.pointer (some ⟨g, 2, none⟩)⟩, ⟨.pointer (some ⟨g, 3, none⟩)⟩] : List RV) k = ⟨.pointer (some ⟨g, k + 1, none⟩)⟩ := by
  rcases k with _ | _ | _ | k
  · rfl
  · rfl
  · rfl
  · omega
theorem r_ldBk {T : TypeId} {n by_ : Nat} {z : List Value} {y : Operand} {i g k : Nat} {E : TypeId} {x : Ins} (hT : tyI P T = some (false, n, by_, z)) (ho : o.op = .load T y) (hx : ev F y = some (.pointer (some ⟨g, k + 1, none⟩))) (hi : L[i]? = some (.blk g E [.int .i64 x.op, .int .i64 x.a, .int .i64 x.b, .int .i64 x.c])) (hk : k < 3) :
    Rn P o N K W F L (.int .i64 (nth [x.a, x.b, x.c] k)) := by
  rcases k with _ | _ | _ | k
  · exact r_ldb hT ho hx hi rfl
  · exact r_ldb hT ho hx hi rfl
  · exact r_ldb hT ho hx hi rfl
  · omega
theorem x_stBk {T : TypeId} {by_ : Nat} {z : List Value} {y u : Operand} {i g k : Nat} {E : TypeId} {x : Ins} {v : Int} (h : St N K W a w F L) (hT : tyI P T = some (false, 1, by_, z)) (ho : o.op = .store T y u) (hd : o.dst = none) (hx : ev F y = some (.pointer (some ⟨g, k + 1, none⟩))) (hu : ev F u = some (.int .i64 v))
    (hi : L[i]? = some (.blk g E [.int .i64 x.op, .int .i64 x.a, .int .i64 x.b, .int .i64 x.c])) (hk : k < 3) :
    Ex P o a w (fun a' w' => St N K W a' w' F (L.set i (.blk g E [.int .i64 (putK x k v).op, .int .i64 (putK x k v).a, .int .i64 (putK x k v).b, .int .i64 (putK x k v).c]))) := by
  rcases k with _ | _ | _ | k
  · exact x_stb (vs := [.int .i64 v]) h hT ho hd hx hu hi rfl rfl (allOne_cons rfl allOne_nil) (Nat.le_of_ble_eq_true rfl) rfl
  · exact x_stb (vs := [.int .i64 v]) h hT ho hd hx hu hi rfl rfl (allOne_cons rfl allOne_nil) (Nat.le_of_ble_eq_true rfl) rfl
  · exact x_stb (vs := [.int .i64 v]) h hT ho hd hx hu hi rfl rfl (allOne_cons rfl allOne_nil) (Nat.le_of_ble_eq_true rfl) rfl
  · omega
end
end Go.Proofs.Ytfpaahkleienoaa
