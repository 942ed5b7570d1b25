/-
  Matrices as resources: a row of rows, whose rows are the call's own; rows of arrays. It imports nothing of the dump.
-/
import Derived.Test.YtmgikmjmdppfmaaS12
import Derived.Laws.RangeString
section
namespace Go.Proofs.Ytmgikmjmdppfmaa
open Go.RowKit
set_option linter.unusedSimpArgs false
set_option linter.unusedVariables false

def Asn.iter (g : Nat) (s : ByteArray) (pos : Nat) : Asn where
  fp b := b = g
  rd _ := False
  ok w := w.heap[g]? = some (.stringIter s pos)
  keep w w' h hb := (hb g (.inl rfl)).trans h
  lt w h b hb := by
    rcases hb with rfl | hb
    · exact (Array.getElem?_eq_some_iff.1 h).1
    · exact hb.elim
section
variable {P : Program} {o : Oper} {N : Nat} {K : Nat → Prop} {W w : World} {a : Act} {F : List (Nat × Value)} {L : List Asn}
theorem x_range {d : Nat} {T : TypeId} {x : Operand} {s : ByteArray} (h : St N K W a w F L) (hu : P.underlying T = some .string) (ho : o.op = .range T x) (hx : ev F x = some (.string s)) (hd : o.dst = some d) (hdN : Nat.blt d N = true) :
    Ex P o a w (fun a' w' => ∃ g : Nat, St N K W a' w' ((d, .pointer (some ⟨g, 0, none⟩)) :: F) (.iter g s 0 :: L)) := by
  refine Ex.of_run (v := .pointer (some ⟨w.heap.size, 0, none⟩)) (w' := w.iter s 0) ?_ ⟨w.heap.size, ?_⟩
  · unfold execOp
    simp only [ho, h.fr.ev hx, Sem.run_bind, run_range_string w T s hu, Result.andThen_ok, Sem.run_pure]
  · rw [hd]
    exact ⟨h.fr.put d (by simpa [Nat.blt_eq] using hdN) _, h.sh.push (Chg.alloc _ w _) (World.iter_heap w s 0) (fun b hb => by rw [show b = w.heap.size from hb]; exact Nat.le_refl _) (fun b hb => hb.elim) (fun b _ hb => hb)⟩
theorem x_next {d : Nat} {x : Operand} {s : ByteArray} {g pos i : Nat} (h : St N K W a w F L) (ho : o.op = .next x true) (hx : ev F x = some (.pointer (some ⟨g, 0, none⟩))) (hi : L[i]? = some (.iter g s pos)) (hp : pos < s.size) (ha : (s[pos]'hp).toNat < 128) (hd : o.dst = some d) (hdN : Nat.blt d N = true) :
    Ex P o a w (fun a' w' => St N K W a' w' ((d, .tuple #[.bool true, .int .i64 (pos : Int), .int .i32 ((s[pos]'hp).toNat : Int)]) :: F) (L.set i (.iter g s (pos + 1)))) := by
  have hg : w.heap[g]? = some (.stringIter s pos) := h.sh.ok _ (List.mem_of_getElem? hi)
  have hlt : g < w.heap.size := (Array.getElem?_eq_some_iff.1 hg).1
  refine Ex.of_run (v := .tuple #[.bool true, .int .i64 (pos : Int), .int .i32 ((s[pos]'hp).toNat : Int)]) (w' := { w with heap := w.heap.setIfInBounds g (.stringIter s (pos + 1)) }) ?_ ?_
  · unfold execOp
    simp [ho, h.fr.ev hx, Instr.next, getObj, setObj, Sem.run, hg, hp, decode_ascii s pos hp ha, goInt, Result.andThen]
  · rw [hd]
    refine ⟨h.fr.put d (by simpa [Nat.blt_eq] using hdN) _, h.sh.put hi ⟨rfl, rfl, rfl, by simp, fun b hb hne => ?_⟩ ?_ (fun b hb => .inl hb) (fun b hb => hb.elim) (fun b _ hb => hb)⟩
    · show (w.heap.setIfInBounds g _)[b]? = _
      rw [Array.getElem?_setIfInBounds_ne (fun e => hne e.symm)]
    · show (w.heap.setIfInBounds g _)[g]? = _
      rw [Array.getElem?_setIfInBounds_self_of_lt hlt]
theorem r_nextEnd {x : Operand} {s : ByteArray} {g pos i : Nat} (ho : o.op = .next x true) (hx : ev F x = some (.pointer (some ⟨g, 0, none⟩))) (hi : L[i]? = some (.iter g s pos)) (hp : ¬ pos < s.size) : Rn P o N K W F L (.tuple #[.bool false]) := fun a w h => by
  have hg : w.heap[g]? = some (.stringIter s pos) := h.sh.ok _ (List.mem_of_getElem? hi)
  unfold execOp
  simp [ho, h.fr.ev hx, Instr.next, getObj, Sem.run, hg, hp, Result.andThen]
end
end Go.Proofs.Ytmgikmjmdppfmaa
end
namespace Go.Proofs.Ytmgikmjmdppfmaa
open Go.RowKit
set_option linter.unusedSimpArgs false
set_option linter.unusedVariables false

/-- A row's value, as it stands. -/
structure RV where
  v : Value
instance : Inhabited RV := ⟨⟨.slice none 0 0⟩⟩
instance : Enc RV where
  sz := 1
  cell x _ := x.v
  whole x := x.v
  agg := false
  inner _ _ := True
  on _ _ := False
  one _ := ⟨rfl, fun _ => rfl⟩
  many h := by cases h
  keep _ _ _ h _ := h
  lt _ _ _ _ h := h.elim
instance : Flat RV := ⟨fun _ _ h => h, fun _ _ => trivial⟩
/-- A row that none else reads, of which no more is known than that. -/
def Asn.hold {α : Type} [Enc α] (s : Ls α) : Asn where
  fp := s.on
  rd _ := False
  ok w := s.At w
  keep w w' h hb := h.keep fun b hb' => hb b (.inl hb')
  lt w h b hb := hb.elim (fun hb => h.lt hb) fun hb => hb.elim
section
variable {α : Type}
end
section
variable {α : Type} [Enc α]
end
section
variable {K : Nat → Prop} {W w : World} {L : List Asn} {α : Type} {R : Ls α → Asn} {E : TypeId} {v : Value} {M : List (Ls α)}
end
section
variable {P : Program} {o : Oper} {N : Nat} {K : Nat → Prop} {W w : World} {a : Act} {F : List (Nat × Value)} {L : List Asn} {α : Type} [Enc α] {R : Ls α → Asn} {E IE : TypeId} {v : Value} {M : List (Ls α)}
theorem Sh.tail {A : Asn} (h : Sh K W w (A :: L)) : Sh K W w L :=
  ⟨h.chg, fun B hB => h.ok B (List.mem_cons_of_mem _ hB), fun B hB => h.mine B (List.mem_cons_of_mem _ hB), fun B hB => h.self B (List.mem_cons_of_mem _ hB), (List.pairwise_cons.1 h.apart).2⟩
end
-- ---------------------------------------------------------------- rows of arrays
section
variable {P : Program} {o : Oper} {N : Nat} {K : Nat → Prop} {W w : World} {a : Act} {F : List (Nat × Value)} {L : List Asn}
theorem r_ixArE {T e : TypeId} {gg : Bool} {m by_ : Nat} {z : List Value} {x y : Operand} {n i q : Nat} {v : Value} (hT : arI P T = some (n, e)) (he : tyI P e = some (gg, m, by_, z)) (hm : m = 1) (ho : o.op = .indexAddr T x y) (hx : ev F x = some (.pointer (some (padr v n i 0)))) (hy : ev F y = some (.int .i64 (q : Int))) (hq : q < n) : Rn P o N K W F L (.pointer (some (padr v n i q))) := fun a w h => by
  obtain ⟨ti, d, zv, hi, hd, _, rfl, _⟩ := tyI_parts he
  have hu := arI_parts hT
  have hel : P.elem T = e := by simp [Program.elem, hu]
  have hal : P.arrayLen T = n := by simp [Program.arrayLen, hu]
  have hu' : P.underlying T = some (.array (P.arrayLen T) (P.elem T)) := by rw [hel, hal]; exact hu
  have e1 := run_indexAt_array (P := P) (w := w) T (padr v n i 0) .i64 (q : Int) hu'
  rw [if_pos ⟨by omega, by rw [hal]; omega⟩, hel, run_sizeOf hi, Result.andThen_ok, hm] at e1
  unfold execOp
  simp only [ho, h.fr.ev hx, h.fr.ev hy, Sem.run_bind, e1, Result.andThen_ok, Sem.run_pure]
  simp [padr_add]
theorem r_ixArI {T e : TypeId} {gg : Bool} {m by_ : Nat} {z : List Value} {x y : Operand} {n g : Nat} {q : Int} (hT : arI P T = some (n, e)) (he : tyI P e = some (gg, m, by_, z)) (hm : m = 1) (ho : o.op = .indexAddr T x y) (hx : ev F x = some (.pointer (some ⟨g, 0, none⟩))) (hy : ev F y = some (.int .i64 q)) (hq : 0 ≤ q ∧ q < n) : Rn P o N K W F L (.pointer (some ⟨g, q.toNat, none⟩)) :=
  r_ixAr (q := q.toNat) hT he hm ho hx (by rw [Int.toNat_of_nonneg hq.1]; exact hy) (by omega)
theorem r_ixArEI {T e : TypeId} {gg : Bool} {m by_ : Nat} {z : List Value} {x y : Operand} {n i : Nat} {q : Int} {v : Value} (hT : arI P T = some (n, e)) (he : tyI P e = some (gg, m, by_, z)) (hm : m = 1) (ho : o.op = .indexAddr T x y) (hx : ev F x = some (.pointer (some (padr v n i 0)))) (hy : ev F y = some (.int .i64 q)) (hq : 0 ≤ q ∧ q < n) : Rn P o N K W F L (.pointer (some (padr v n i q.toNat))) :=
  r_ixArE (q := q.toNat) hT he hm ho hx (by rw [Int.toNat_of_nonneg hq.1]; exact hy) (by omega)
/-- A whole array of a row. -/
theorem x_stewAr {T : TypeId} {gg : Bool} {by_ : Nat} {z : List Value} {x y : Operand} {i r : Nat} {E : TypeId} {s : Ls BArr} {l : List Bool} (h : St N K W a w F L) (hT : tyI P T = some (gg, 200, by_, z)) (ho : o.op = .store T x y) (hd : o.dst = none)
    (hx : ev F x = some (.pointer (some (padr s.v 200 i 0)))) (hr : L[r]? = some (.own E s)) (hi : i < s.l.length) (hl : l.length = 200) (hy : ev F y = some (.agg (l.map Value.bool).toArray)) :
    Ex P o a w (fun a' w' => St N K W a' w' F (L.set r (.own E ⟨s.v, s.l.set i ⟨l⟩⟩))) := by
  obtain ⟨ti, e, zv, hti, he, _, hs, _⟩ := tyI_parts hT
  have hok := h.sh.ok _ (List.mem_of_getElem? hr)
  obtain ⟨hown, hlen, hinn⟩ := hok
  rcases hown.2 with ⟨_, h0⟩ | ⟨g, cap, cur, hsv, hb0, hg, hn, hm, hcs, htk⟩
  · omega
  have hsz : Enc.sz BArr = 200 := rfl
  rw [hsz] at hcs htk
  have hp : padr s.v 200 i 0 = ⟨g, i * 200, none⟩ := by rw [hsv]; simp [padr, vblk, voff]
  have hvl : (l.map Value.bool).length = 200 := by rw [List.length_map]; exact hl
  have hB : Blk w g E cur := hg
  have h200 : i * 200 + 200 ≤ cur.size := by rw [hcs]; have := Nat.mul_le_mul_right 200 (show i + 1 ≤ cap by omega); omega
  have hrun := run_storeCells_at P g (i * 200) E (l.map Value.bool) 0 cur w hB (by simp; omega) (fun u hu => by
    obtain ⟨b, _, rfl⟩ := List.mem_map.1 hu; rfl)
  have hcur : (splice cur.toList (i * 200) (l.map Value.bool)).take (s.l.length * 200) = encL (s.l.set i ⟨l⟩) := by
    have e1 : encL (s.l.set i ⟨l⟩) = splice (encL s.l) (i * 200) (l.map Value.bool) := by
      have h2 : ∀ (m : List BArr) (i : Nat), i < m.length → encL (m.set i ⟨l⟩) = splice (encL m) (i * 200) (l.map Value.bool) := by
        intro m
        induction m with
        | nil => intro i hi; simp at hi
        | cons y m ih =>
          intro i hi
          have hy : ∀ (z : BArr) (m : List BArr), encL (z :: m) = cellsOf z ++ encL m := fun z m => by simp [encL]
          have hc : ∀ z : BArr, (cellsOf z).length = 200 := fun z => length_cellsOf z
          cases i with
          | zero =>
            rw [List.set_cons_zero, hy, hy]
            have : cellsOf (⟨l⟩ : BArr) = l.map Value.bool := barr_whole hl
            rw [this]
            simp [splice, hvl, List.drop_append, hc]
          | succ i =>
            rw [List.set_cons_succ, hy, hy, ih i (by simpa using hi)]
            have e3 : (i + 1) * 200 = 200 + i * 200 := by omega
            simp only [splice, e3, List.take_append, List.drop_append, hc, hvl]
            rw [List.take_of_length_le (l := cellsOf y) (by rw [hc]; omega), List.drop_of_length_le (l := cellsOf y) (by rw [hc]; omega)]
            have e4 : 200 + i * 200 - 200 = i * 200 := by omega
            have e5 : 200 + i * 200 + 200 - 200 = i * 200 + 200 := by omega
            rw [e4, e5]
            simp
      exact h2 s.l i hi
    rw [e1, ← htk]
    have hlt : i * 200 + 200 ≤ s.l.length * 200 := by have := Nat.mul_le_mul_right 200 (show i + 1 ≤ s.l.length by omega); omega
    have hcl : cur.toList.length = cap * 200 := by simpa using hcs
    have hle : s.l.length * 200 ≤ cap * 200 := Nat.mul_le_mul_right 200 hn
    simp only [splice, hvl]
    apply List.ext_getElem?
    intro k
    simp only [List.getElem?_take, List.getElem?_append, List.getElem?_drop, List.length_take, List.length_append, List.length_map, hl, List.length_drop, hcl]
    have e6 : min (i * 200) (cap * 200) = i * 200 := by omega
    have e7 : min (i * 200) (min (s.l.length * 200) (cap * 200)) = i * 200 := by omega
    simp only [e6, e7]
    repeat' split
    all_goals first | rfl | (exfalso; omega) | (congr 1; omega)
  refine Ex.of_skip (w' := w.setRow g (splice cur.toList (i * 200) (l.map Value.bool)).toArray) ?_ ?_
  · unfold execOp
    have hsz2 : (Value.agg (l.map Value.bool).toArray).cells.size = ti.size := by simp [Value.cells, hl, hs]
    have hce : (Value.agg (l.map Value.bool).toArray).cells.toList = l.map Value.bool := by simp [Value.cells]
    simp only [ho, h.fr.ev hx, h.fr.ev hy, Instr.storeAt, Instr.sureAddr, storeVar, Sem.run_bind, Sem.run_pure, Result.andThen_ok, run_sizeOf hti]
    simp only [hsz2, ne_eq, not_true_eq_false, if_false, hce, Nat.add_zero, hp] at hrun ⊢
    rw [hrun]
    simp [splice]
  · rw [hd]
    have hfp : (Asn.own E s).fp g := by show s.v.ownBlock = some g; rw [hsv]; rfl
    refine ⟨h.fr, h.sh.put hr ⟨rfl, rfl, rfl, by simp [World.setRow], fun b hb hne => setRow_other w g b _ (fun e => hne (by rw [e]; exact hfp))⟩ ⟨⟨?_, .inr ⟨g, cap, _, ?_, hb0, setRow_heap w g _ _ E (0, 0) hB, by simpa using hn, hm, ?_, ?_⟩⟩, by simpa using hlen, fun q hq => ?_⟩ (fun b hb => .inl hb) (fun b hb => ?_) (fun b hb hb' => ?_)⟩
    · rw [length_encL]
    · show s.v = _
      rw [hsv, List.length_set]
    · rw [hsz]
      have hcl : cur.toList.length = cap * 200 := by simpa using hcs
      simp only [splice, List.size_toArray, List.length_append, List.length_take, List.length_drop, hvl, hcl]
      omega
    · show List.take ((s.l.set i ⟨l⟩).length * Enc.sz BArr) _ = _
      rw [List.length_set, hsz]; exact hcur
    · show Enc.inner (nth (s.l.set i ⟨l⟩) q) _
      rw [nth_set]
      split
      · exact hl
      · exact hinn q (by simpa using hq)
    · obtain ⟨q, _, hb⟩ := hb; exact hb.elim
    · obtain ⟨q, _, hb'⟩ := hb'; exact hb'.elim
theorem x_makeAr {d : Nat} {T e : TypeId} {gg : Bool} {by_ n : Nat} {z : List Value} {x y : Operand} (h : St N K W a w F L) (hT : slI P T = some e) (he : tyI P e = some (gg, 200, by_, z)) (hz : z = (List.replicate 200 false).map Value.bool) (ho : o.op = .makeSlice T x y) (hx : ev F x = some (.int .i64 (n : Int))) (hy : ev F y = some (.int .i64 (n : Int)))
    (hn : by_ * n ≤ 140737488355328 ∧ n ≤ 140737488355328) (hd : o.dst = some d) (hdN : Nat.blt d N = true) :
    Ex P o a w (fun a' w' => ∃ v : Value, St N K W a' w' ((d, v) :: F) (.own e (⟨v, List.replicate n ⟨List.replicate 200 false⟩⟩ : Ls BArr) :: L)) :=
  x_make (⟨List.replicate 200 false⟩ : BArr) h hT he ho hx hy (by rw [hz]; exact (barr_whole List.length_replicate).symm) rfl hn (fun _ => List.length_replicate) (fun _ h => h) hd hdN
/-- A value takes the place of one that is the same. -/
theorem St.cg {F' : List (Nat × Value)} (h : St N K W a w F L) (e : F = F') : St N K W a w F' L := e ▸ h
end
-- ---------------------------------------------------------------- rows whose room is cut to their length
section
variable {P : Program} {o : Oper} {N : Nat} {K : Nat → Prop} {W w : World} {a : Act} {F : List (Nat × Value)} {L : List Asn} {α : Type} [Enc α]
end
end Go.Proofs.Ytmgikmjmdppfmaa
