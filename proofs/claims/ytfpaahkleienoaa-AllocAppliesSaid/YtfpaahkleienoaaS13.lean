/-
  Walks over strings: an iterator is a block of the call's own. It imports nothing of the dump.
-/
import Derived.Test.YtfpaahkleienoaaS12
import Derived.Laws.RangeString
namespace Go.Proofs.Ytfpaahkleienoaa
open Go.RowKit
set_option linter.unusedSimpArgs false
set_option linter.unusedVariables false

def Asn.iter (g : Nat) (s : ByteArray) (pos : Nat) : Asn where
  fp b := b = g
  rd _ := False
  ok w := w.heap[g]? = some (.stringIter s pos)
  keep w w' h hb := (hb g (.inl rfl)).trans h
  lt w h b hb := by
    rcases hb with rfl | hb
    · exact (Array.getElem?_eq_some_iff.1 h).1
    · exact hb.elim
section
variable {P : Program} {o : Oper} {N : Nat} {K : Nat → Prop} {W w : World} {a : Act} {F : List (Nat × Value)} {L : List Asn}
theorem x_range {d : Nat} {T : TypeId} {x : Operand} {s : ByteArray} (h : St N K W a w F L) (hu : P.underlying T = some .string) (ho : o.op = .range T x) (hx : ev F x = some (.string s)) (hd : o.dst = some d) (hdN : Nat.blt d N = true) :
    Ex P o a w (fun a' w' => ∃ g : Nat, St N K W a' w' ((d, .pointer (some ⟨g, 0, none⟩)) :: F) (.iter g s 0 :: L)) := by
  refine Ex.of_run (v := .pointer (some ⟨w.heap.size, 0, none⟩)) (w' := w.iter s 0) ?_ ⟨w.heap.size, ?_⟩
  · unfold execOp
    simp only [ho, h.fr.ev hx, Sem.run_bind, run_range_string w T s hu, Result.andThen_ok, Sem.run_pure]
  · rw [hd]
    exact ⟨h.fr.put d (by simpa [Nat.blt_eq] using hdN) _, h.sh.push (Chg.alloc _ w _) (World.iter_heap w s 0) (fun b hb => by rw [show b = w.heap.size from hb]; exact Nat.le_refl _) (fun b hb => hb.elim) (fun b _ hb => hb)⟩
theorem x_next {d : Nat} {x : Operand} {s : ByteArray} {g pos i : Nat} (h : St N K W a w F L) (ho : o.op = .next x true) (hx : ev F x = some (.pointer (some ⟨g, 0, none⟩))) (hi : L[i]? = some (.iter g s pos)) (hp : pos < s.size) (ha : (s[pos]'hp).toNat < 128) (hd : o.dst = some d) (hdN : Nat.blt d N = true) :
    Ex P o a w (fun a' w' => St N K W a' w' ((d, .tuple #[.bool true, .int .i64 (pos : Int), .int .i32 ((s[pos]'hp).toNat : Int)]) :: F) (L.set i (.iter g s (pos + 1)))) := by
  have hg : w.heap[g]? = some (.stringIter s pos) := h.sh.ok _ (List.mem_of_getElem? hi)
  have hlt : g < w.heap.size := (Array.getElem?_eq_some_iff.1 hg).1
  refine Ex.of_run (v := .tuple #[.bool true, .int .i64 (pos : Int), .int .i32 ((s[pos]'hp).toNat : Int)]) (w' := { w with heap := w.heap.setIfInBounds g (.stringIter s (pos + 1)) }) ?_ ?_
  · unfold execOp
    simp [ho, h.fr.ev hx, Instr.next, getObj, setObj, Sem.run, hg, hp, decode_ascii s pos hp ha, goInt, Result.andThen]
  · rw [hd]
    refine ⟨h.fr.put d (by simpa [Nat.blt_eq] using hdN) _, h.sh.put hi ⟨rfl, rfl, rfl, by simp, fun b hb hne => ?_⟩ ?_ (fun b hb => .inl hb) (fun b hb => hb.elim) (fun b _ hb => hb)⟩
    · show (w.heap.setIfInBounds g _)[b]? = _
      rw [Array.getElem?_setIfInBounds_ne (fun e => hne e.symm)]
    · show (w.heap.setIfInBounds g _)[g]? = _
      rw [Array.getElem?_setIfInBounds_self_of_lt hlt]
theorem r_nextEnd {x : Operand} {s : ByteArray} {g pos i : Nat} (ho : o.op = .next x true) (hx : ev F x = some (.pointer (some ⟨g, 0, none⟩))) (hi : L[i]? = some (.iter g s pos)) (hp : ¬ pos < s.size) : Rn P o N K W F L (.tuple #[.bool false]) := fun a w h => by
  have hg : w.heap[g]? = some (.stringIter s pos) := h.sh.ok _ (List.mem_of_getElem? hi)
  unfold execOp
  simp [ho, h.fr.ev hx, Instr.next, getObj, Sem.run, hg, hp, Result.andThen]
end
end Go.Proofs.Ytfpaahkleienoaa
