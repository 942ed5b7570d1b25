/-
  A whole event is stored into a row; truth values are compared. It imports nothing of the dump.
-/
import Derived.Test.YtfpaahkleienoaaS14
namespace Go.Proofs.Ytfpaahkleienoaa
open Go.RowKit
set_option linter.unusedSimpArgs false
set_option linter.unusedVariables false

section
variable {P : Program} {o : Oper} {N : Nat} {K : Nat → Prop} {W w : World} {a : Act} {F : List (Nat × Value)} {L : List Asn}
theorem cells4 (x : Ins) : cellsOf x = [.int .i64 x.op, .int .i64 x.a, .int .i64 x.b, .int .i64 x.c] := rfl
theorem encL_setI (x : Ins) : ∀ (m : List Ins) (i : Nat), i < m.length → encL (m.set i x) = splice (encL m) (i * 4) (cellsOf x)
  | [], _, h => by simp at h
  | y :: m, 0, _ => by
    have hy : ∀ (z : Ins) (m : List Ins), encL (z :: m) = cellsOf z ++ encL m := fun z m => by simp [encL]
    rw [List.set_cons_zero, hy, hy]
    simp [splice, cells4]
  | y :: m, i + 1, h => by
    have hy : ∀ (z : Ins) (m : List Ins), encL (z :: m) = cellsOf z ++ encL m := fun z m => by simp [encL]
    rw [List.set_cons_succ, hy, hy, encL_setI x m i (by simpa using h)]
    have e3 : (i + 1) * 4 = 4 + i * 4 := by omega
    have hc : ∀ z : Ins, (cellsOf z).length = 4 := fun z => rfl
    simp only [splice, e3, List.take_append, List.drop_append, hc]
    rw [List.take_of_length_le (l := cellsOf y) (by rw [hc]; omega), List.drop_of_length_le (l := cellsOf y) (by rw [hc]; omega)]
    have e4 : 4 + i * 4 - 4 = i * 4 := by omega
    have e5 : 4 + i * 4 + 4 - 4 = i * 4 + 4 := by omega
    rw [e4, e5]
    simp
theorem x_stewI {T : TypeId} {gg : Bool} {by_ : Nat} {z : List Value} {x y : Operand} {i r : Nat} {E : TypeId} {s : Ls Ins} {x' : Ins} (h : St N K W a w F L) (hT : tyI P T = some (gg, 4, by_, z)) (ho : o.op = .store T x y) (hd : o.dst = none)
    (hx : ev F x = some (.pointer (some (padr s.v 4 i 0)))) (hr : L[r]? = some (.own E s)) (hi : i < s.l.length) (hy : ev F y = some (.agg #[.int .i64 x'.op, .int .i64 x'.a, .int .i64 x'.b, .int .i64 x'.c])) :
    Ex P o a w (fun a' w' => St N K W a' w' F (L.set r (.own E ⟨s.v, s.l.set i x'⟩))) := by
  obtain ⟨ti, e, zv, hti, he, _, hs, _⟩ := tyI_parts hT
  have hok := h.sh.ok _ (List.mem_of_getElem? hr)
  obtain ⟨hown, hlen, hinn⟩ := hok
  rcases hown.2 with ⟨_, h0⟩ | ⟨g, cap, cur, hsv, hb0, hg, hn, hm, hcs, htk⟩
  · omega
  have hsz : Enc.sz Ins = 4 := rfl
  rw [hsz] at hcs htk
  have hp : padr s.v 4 i 0 = ⟨g, i * 4, none⟩ := by rw [hsv]; simp [padr, vblk, voff]
  have hB : Blk w g E cur := hg
  have h4 : i * 4 + 4 ≤ cur.size := by rw [hcs]; omega
  have hrun := run_storeCells_at P g (i * 4) E (cellsOf x') 0 cur w hB (by rw [cells4]; simp; omega) (fun u hu => by
    rw [cells4] at hu
    simp only [List.mem_cons, List.not_mem_nil, or_false] at hu
    rcases hu with rfl | rfl | rfl | rfl <;> rfl)
  have hcl : cur.toList.length = cap * 4 := by simpa using hcs
  have hcur : (splice cur.toList (i * 4) (cellsOf x')).take (s.l.length * 4) = encL (s.l.set i x') := by
    rw [encL_setI x' s.l i hi, ← htk]
    have hvl : (cellsOf x').length = 4 := rfl
    simp only [splice, hvl]
    apply List.ext_getElem?
    intro k
    simp only [List.getElem?_take, List.getElem?_append, List.getElem?_drop, List.length_take, List.length_append, hvl, List.length_drop, hcl]
    have e6 : min (i * 4) (cap * 4) = i * 4 := by omega
    have e7 : min (i * 4) (min (s.l.length * 4) (cap * 4)) = i * 4 := by omega
    simp only [e6, e7]
    repeat' split
    all_goals first | rfl | (exfalso; omega) | (congr 1; omega)
  refine Ex.of_skip (w' := w.setRow g (splice cur.toList (i * 4) (cellsOf x')).toArray) ?_ ?_
  · unfold execOp
    have hsz2 : (Value.agg #[.int .i64 x'.op, .int .i64 x'.a, .int .i64 x'.b, .int .i64 x'.c]).cells.size = ti.size := by simp [Value.cells, hs]
    have hce : (Value.agg #[.int .i64 x'.op, .int .i64 x'.a, .int .i64 x'.b, .int .i64 x'.c]).cells.toList = cellsOf x' := by simp [Value.cells, cells4]
    simp only [ho, h.fr.ev hx, h.fr.ev hy, Instr.storeAt, Instr.sureAddr, storeVar, Sem.run_bind, Sem.run_pure, Result.andThen_ok, run_sizeOf hti]
    simp only [hsz2, ne_eq, not_true_eq_false, if_false, hce, Nat.add_zero, hp] at hrun ⊢
    rw [hrun]
    simp [splice]
  · rw [hd]
    have hfp : (Asn.own E s).fp g := by show s.v.ownBlock = some g; rw [hsv]; rfl
    refine ⟨h.fr, h.sh.put hr ⟨rfl, rfl, rfl, by simp [World.setRow], fun b hb hne => setRow_other w g b _ (fun e => hne (by rw [e]; exact hfp))⟩ ⟨⟨?_, .inr ⟨g, cap, _, ?_, hb0, setRow_heap w g _ _ E (0, 0) hB, by simpa using hn, hm, ?_, ?_⟩⟩, by simpa using hlen, fun q hq => trivial⟩ (fun b hb => .inl hb) (fun b hb => ?_) (fun b hb hb' => ?_)⟩
    · rw [length_encL]
    · show s.v = _
      rw [hsv, List.length_set]
    · rw [hsz]
      have hvl : (cellsOf x').length = 4 := rfl
      simp only [splice, List.size_toArray, List.length_append, List.length_take, List.length_drop, hvl, hcl]
      omega
    · show List.take ((s.l.set i x').length * Enc.sz Ins) _ = _
      rw [List.length_set, hsz]; exact hcur
    · obtain ⟨q, _, hb⟩ := hb; exact hb.elim
    · obtain ⟨q, _, hb'⟩ := hb'; exact hb'.elim
end
end Go.Proofs.Ytfpaahkleienoaa
