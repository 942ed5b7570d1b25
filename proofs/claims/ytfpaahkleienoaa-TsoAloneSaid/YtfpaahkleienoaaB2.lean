/-
  What a thread finds in a word, in the memory with buffers: a range over what waits, from the last one on.
-/
import Derived.RangeFuncNested
import Derived.Test.YtfpaahkleienoaaB1
import Derived.Test.YtfpaahkleienoaaX61
import Derived.Test.YtfpaahkleienoaaX16
namespace Go.Proofs.Ytfpaahkleienoaa
open Go.RowKit Go.Shelf
set_option linter.unusedSimpArgs false
set_option linter.unusedVariables false
attribute [local go_sem] Oper.semAt_some sz_wt agg_wt cell_wt0 cell_wt1 cell_wt2 whole_wt
@[local go_sem] theorem cell_lsw (x : Ls Wt) (j : Nat) : Enc.cell x j = x.v := rfl
@[local go_sem] theorem sz_lsw : Enc.sz (Ls Wt) = 1 := rfl

def NoM (wd : Int) (pre : List (Nat × Wt)) : Prop := ∀ x ∈ pre, ¬ (x.2.lock = false ∧ x.2.wh = wd)
def HitM (wd : Int) (pre : List (Nat × Wt)) (what : Int) : Prop := ∃ pre' x, pre = pre' ++ [x] ∧ NoM wd pre' ∧ x.2.lock = false ∧ x.2.wh = wd ∧ x.2.what = what
theorem noM_snoc {wd : Int} {pre : List (Nat × Wt)} {x : Nat × Wt} (h : NoM wd pre) (hx : ¬ (x.2.lock = false ∧ x.2.wh = wd)) : NoM wd (pre ++ [x]) := fun y hy => by
  rcases List.mem_append.1 hy with hy | hy
  · exact h y hy
  · obtain rfl : y = x := by simpa using hy
    exact hx
theorem blk_own {β : Type} (B : Nat) (t : TypeId) (f : β → Array Value) : Own (fun s W => Blk W B t (f s)) := fun s X Y row hs hg hrow => by
  refine (hg.block B hs.lt ?_).trans hs
  intro e'
  obtain ⟨o, ho, hc⟩ := hrow B e'.symm
  rw [show X.heap[B]? = _ from hs] at ho
  cases ho
  cases hc

theorem x_tailG {P : Program} {Q : Exit → Act → World → Prop} {C : World → Prop} {a : Act} {w : World} {id : Nat} {l : List Oper} (m : Nat) (ps : List Nat) (hm : P.follows .mixedOrders = true) (hB : tailB l m ps = true) (hC : C w.drew) (hl : opsAt l.toArray ps ++ opsAt l.toArray (quietIs m ps) = l.take m)
    (k : ∀ Z : Act → Prop, (∀ a', (∀ w', C w' → wpList P l.toArray (fun e a w => match e with | .normal => Q .normal a w | _ => False) (l.drop m) a' w') → Z a') → wpQuiet P l.toArray C Z (l.take m) a) : (Code.region id l.toArray true).wp P Q a w := by
  rw [← hl] at k
  simp only [tailB, Bool.and_eq_true, Nat.ble_eq] at hB
  obtain ⟨h1, h2, h3, h4, h5, h6, h7⟩ := hB
  have hpm : ∀ p ∈ ps, p < m := fun p hp => by simpa using (List.all_eq_true.1 h5) p hp
  refine Code.wp_mono (Q := fun e a w => match e with | .normal => Q .normal a w | _ => False) (fun e a w he => by cases e <;> first | exact he | exact he.elim) ?_
  refine wp_region_any hm ?_
  split at h7
  · rename_i lp hlp
    have hq := k _ (fun _ h => h)
    have hcl0 : ClosedB l (fun j => (Array.replicate l.length false).getD j false) := by
      intro i o _ hS; simp only [Array.getD_eq_getD_getElem?, Array.getElem?_replicate] at hS; split at hS <;> cases hS
    obtain ⟨c1, c2, c3, c4, c5⟩ := pureIs_spec ps _ lp hlp hcl0
    have hsz : lp.size = l.length := by simpa using c2
    have hlen : l.toArray.size = ((quietIs m ps).length + (l.length - m)) + ps.length := by
      have := Nat.eq_of_beq_eq_true h6
      simp; omega
    rw [hlen]
    rw [show Array.replicate ((quietIs m ps).length + (l.length - m) + ps.length) false = Array.replicate l.length false by rw [← hlen]; simp]
    refine any_pure (C := C) h4 (fun c a w h => h) ps _ _ lp a w.drew hC hlp hq fun a' hq' => ?_
    have h8 := anyQ_is (P := P) h4 (quietIs m ps) _ a' h7 hq'
    have hot : ∀ j, j < l.length → (orTail lp m).getD j false = (lp.getD j false || Nat.ble m j) := by
      intro j hj
      simp [orTail, Array.getD_eq_getD_getElem?, hsz, hj]
    refine any_tail (C := C) hpm h1 h2 h3 _ lp (orTail lp m) a' w.drew hC (c4 (by simp)) c1 hsz (by simp [orTail, hsz]) (fun j hj => ?_) (fun j hj hj2 => ?_) h8
    · rw [hot j (by omega)]
      cases hb : Nat.ble m j
      · simp
      · rw [Nat.ble_eq] at hb; omega
    · refine ⟨?_, by rw [hot j hj2, show Nat.ble m j = true by rw [Nat.ble_eq]; exact hj]; simp⟩
      rw [c5 j (fun hp => by have := hpm j hp; omega)]
      simp [Array.getD_eq_getD_getElem?, Array.getElem?_replicate, hj2]
  · cases h7

theorem buf_leave {W : World} {D b : Nat} {v : Int} {R : Ending → World → Prop} {tmps : Array Value} {o : Obj} (hb : Boxed W b 3 (.int .i64 v)) (hne : b ≠ D) (ht : tmps.getD 6 undef = .pointer (some ⟨b, 0, none⟩)) (hR : R (.returned (.int .i64 v)) (W.putObj D o)) :
    LeavesInM Fence.wide 6 Try.prog Try.f191 tmps R [] .returning (W.putObj D o) := by
  have hb' : Boxed (W.putObj D o) b 3 (.int .i64 v) := (World.putObj_heap_other hne).trans hb
  have hc := hb'.cell
  refine ⟨.int .i64 v, ?_, hR⟩
  unfold results
  rw [Array.getD_eq_getD_getElem?] at ht
  simp [Try.f191, ht, asAddr]
  unfold Boxed at hb'
  simp [loadVar, World.cell?, hb']

set_option maxRecDepth 100000 in
set_option maxHeartbeats 4000000 in
theorem bufLoad_in (g1 g0 t : Nat) (wait : Sl (Ls Wt)) (row : Sl Wt) (words owner : Ls Int) (wd : Int) (w : World) (hB1 : Blk w g1 214 #[.pointer (some ⟨g0, 0, none⟩), .slice wait.A wait.l.length wait.cap]) (hB0 : Blk w g0 205 #[words.v, owner.v])
    (hwo : words.At w) (hoo : owner.At w) (hwa : wait.At w) (ht : t < wait.l.length) (hrv : (nth wait.l t).v = .slice row.A row.l.length row.cap) (hr : row.At w) (hr3 : row.l.length ≤ 3) (hwd : 0 ≤ wd ∧ wd < words.l.length) :
    CallsIn Fence.wide 6 Try.prog 191 #[.pointer (some ⟨g1, 0, none⟩), .int .i64 ((t : Nat) : Int), .int .i64 wd] w fun e W' => e = .returned (.int .i64 (findsL row.l words.l wd)) ∧ Below w.heap.size w W' := by
  refine callsIn_of_wp_marks Try.func191 rfl trivial ?_ rfl
  simp only [Try.ntmps191, List.size_toArray, List.length_cons, List.length_nil, Nat.reduceAdd, Nat.reduceSub, Array.replicate_succ, Array.replicate_zero, List.push_toArray, List.append_toArray, List.nil_append, List.cons_append]
  have hlt1 := hB1.lt
  have hB1' := hB1
  have bW := (Boxed.new w 3 (.int .i64 wd)).alloc (.cells #[.int .i64 0] 3)
  have bR := Boxed.new (w.alloc (.cells #[.int .i64 wd] 3)) 3 (.int .i64 0)
  simp only [World.size_alloc] at bR
  have hA1 : Below w.heap.size w ((w.alloc (.cells #[.int .i64 wd] 3)).alloc (.cells #[.int .i64 0] 3)) := ((Below.refl _ w).alloc (Nat.le_refl _) _).alloc (by simp) _
  have hB1a := (hB1.alloc (.cells #[.int .i64 wd] 3)).alloc (.cells #[.int .i64 0] 3)
  obtain ⟨c0, c1⟩ := hB1a.cells2
  have hwaa : wait.At ((w.alloc (.cells #[.int .i64 wd] 3)).alloc (.cells #[.int .i64 0] 3)) := hwa.keep fun b hb => hA1.block b (hwa.lt hb)
  have ht' : (t : Int) < wait.l.length := by omega
  gi_wp2_with (refine ⟨trivial, ?_⟩; gi_at_call 197; refine (back_in Fence.wide _ trivial rfl _ _ _ _).mono ?_; rintro e w' ⟨rfl, rfl⟩)
  have bW2 := bW.alloc (.cells #[.slice row.A row.l.length row.cap] 268)
  have bR2 := bR.alloc (.cells #[.slice row.A row.l.length row.cap] 268)
  have bS := Boxed.new ((w.alloc (.cells #[.int .i64 wd] 3)).alloc (.cells #[.int .i64 0] 3)) 268 (.slice row.A row.l.length row.cap)
  simp only [World.size_alloc] at bS
  have hA2 : Below w.heap.size w (((w.alloc (.cells #[.int .i64 wd] 3)).alloc (.cells #[.int .i64 0] 3)).alloc (.cells #[.slice row.A row.l.length row.cap] 268)) := hA1.alloc (by simp; omega) _
  have hsz : (((w.alloc (.cells #[.int .i64 wd] 3)).alloc (.cells #[.int .i64 0] 3)).alloc (.cells #[.slice row.A row.l.length row.cap] 268)).heap.size = w.heap.size + 3 := by simp
  obtain ⟨W0, hW0⟩ : ∃ W0, ((w.alloc (.cells #[.int .i64 wd] 3)).alloc (.cells #[.int .i64 0] 3)).alloc (.cells #[.slice row.A row.l.length row.cap] 268) = W0 := ⟨_, rfl⟩
  rw [hW0] at bW2 bR2 bS hA2 hsz ⊢
  clear hW0 c0 c1 hB1a hwaa hA1 bR bW
  have hsz1 : w.heap.size + 3 ≤ W0.heap.size := by omega
  clear hsz
  have hrow0 : row.At W0 := hr.keep fun b hb => hA2.block b (hr.lt hb)
  refine wpIn_rangeFunc_ownH rfl (by omega) (gf := 198) (lb := #[.pointer (some ⟨w.heap.size + 1 + 1, 0, none⟩)]) rfl trivial (enters_of Try.func198 (by kernel_rfl) rfl)
    (back_stops Fence.wide (6 - 1) trivial rfl (by omega) (w.heap.size + 1 + 1) W0.heap.size row hr3 W0 (by omega) (Nat.le_refl _) (fun b hb => by have := hr.lt hb; omega) bS.cell hrow0) belowK_t (belowK_b (Nat.le_refl _)) (Below.refl _ _) (fun _ => rfl)
    (fun pre W => ((Boxed W w.heap.size 3 (.int .i64 wd) ∧ Boxed W (w.heap.size + 1) 3 (.int .i64 0)) ∧ Below W0.heap.size W0 W) ∧ NoM wd pre)
    (fun c pre W => (∃ what : Int, (c = .ret ∧ HitM wd pre what) ∧ Boxed W (w.heap.size + 1) 3 (.int .i64 what)) ∧ Below w.heap.size w W)
    (OwnFrom.and (OwnFrom.and (OwnFrom.and (Own.from (boxed_own _ _ _) _) (Own.from (boxed_own _ _ _) _)) (ownFrom_below (Nat.le_refl _) (Nat.le_refl _))) (fun _ _ _ _ hs _ _ => hs))
    (fun c => OwnFrom.and (fun s X Y rw_ hs hg hrr => by
      obtain ⟨what, h1, h2⟩ := hs
      exact ⟨what, h1, boxed_own (w.heap.size + 1) 3 (fun (_ : Unit) => Value.int .i64 what) () X Y rw_ h2 hg (fun r e => (hrr r e).2)⟩) (ownFrom_below (Nat.le_refl _) (by omega)))
    ⟨⟨⟨bW2, bR2⟩, Below.refl _ _⟩, fun x hx => by cases hx⟩
    (fun x a' W => ∃ Bx, w.heap.size + 1 < Bx ∧ Blk W Bx 267 #[.bool x.2.lock, .int .i64 x.2.wh, .int .i64 x.2.what] ∧ a' = { tmps := #[.pointer (some ⟨g1, 0, none⟩), .int .i64 ((t : Nat) : Int), .int .i64 wd, undef, undef, .pointer (some ⟨w.heap.size, 0, none⟩), .pointer (some ⟨w.heap.size + 1, 0, none⟩), undef, .pointer (some ⟨Bx, 0, none⟩), .pointer (some ⟨g1, 0, none⟩), .pointer (some ⟨g1, 0, none⟩), .pointer (some ⟨g1, 1, none⟩), .slice wait.A wait.l.length wait.cap, .int .i64 ((t : Nat) : Int), .pointer (some (wait.adr 1 t 0)), .slice row.A row.l.length row.cap, .func (.func 198) #[] #[.pointer (some ⟨w.heap.size + 1 + 1, 0, none⟩)], .int .i64 ((x.1 : Nat) : Int), .agg #[.bool x.2.lock, .int .i64 x.2.wh, .int .i64 x.2.what], undef, undef, undef, undef, undef, undef, undef, undef, undef, undef, undef, undef, undef, undef, undef, undef, undef, undef], defers := [] })
    (fun x a' _ X Y rw_ hs hg hrr => by obtain ⟨Bx, h1, h2, h3⟩ := hs; exact ⟨Bx, h1, blk_own Bx 267 (fun (_ : Unit) => #[Value.bool x.2.lock, .int .i64 x.2.wh, .int .i64 x.2.what]) () X Y rw_ h2 hg (fun r e => (hrr r e).2), h3⟩)
    ?assign ?body ?done ?stop
  case assign =>
    rintro l pre x W K ⟨⟨⟨bW1, bR1⟩, hB1⟩, hno⟩ hK
    gi_wp2
    exact hK _ _ ((KeepsOthers.alloc _ _).from _) ((Below.refl _ W).alloc hB1.size _) ⟨⟨⟨bW1.alloc _, bR1.alloc _⟩, hB1.alloc hB1.size _⟩, hno⟩ ⟨W.heap.size, bR1.lt, Blk.new W 267 _, rfl⟩
  case body =>
    rintro l pre ⟨j, ⟨lock, wh, what⟩⟩ a' W hl ⟨r, hr9⟩ ⟨⟨⟨bW1, bR1⟩, hB1⟩, hno⟩ ⟨Bx, hBx, bX, rfl⟩ hlt
    obtain ⟨x0, x1, x2⟩ := bX.cells3
    have cW := bW1.cell
    have cR := bR1.cell
    have fR := bR1.frozen
    dsimp only at x0 x1 x2
    cases lock
    · by_cases he : wh = wd
      · subst he
        gi_wp2
        exact ⟨(KeepsOthers.setCell _ _ _).from _, ⟨what, ⟨rfl, pre, (j, ⟨false, wh, what⟩), rfl, hno, rfl, rfl, rfl⟩, bR1.set _⟩, (hA2.trans (hB1.mono hA2.size)).setCell (p := ⟨w.heap.size + 1, 0, none⟩) (by show w.heap.size ≤ w.heap.size + 1; omega) _⟩
      · gi_wp2
        exact ⟨KeepsFrom.refl _ _, Below.refl _ _, ⟨⟨bW1, bR1⟩, hB1⟩, noM_snoc hno (fun h => he h.2)⟩
    · gi_wp2
      exact ⟨KeepsFrom.refl _ _, Below.refl _ _, ⟨⟨bW1, bR1⟩, hB1⟩, noM_snoc hno (fun h => by cases h.1)⟩
  case done =>
    rename_i Q9 K9 hK9
    rintro D ys W hD rfl ⟨⟨⟨bW1, bR1⟩, hB1⟩, hno⟩ hK
    have hbW : Below w.heap.size w W := hA2.trans (hB1.mono hA2.size)
    obtain ⟨c0, c1⟩ := (hB1'.below' hbW).cells2
    have cW := bW1.cell
    have cR := bR1.cell
    have hlD : D < W.heap.size := (Array.getElem?_eq_some_iff.1 hK).1
    have hfin : findsL row.l words.l wd = nth words.l wd.toNat := findsL_none fun i hi h9 => by
      refine hno (i, nth row.l i) ?_ h9
      exact List.mem_map.2 ⟨row.l.length - 1 - i, List.mem_range.2 (by omega), by rw [show row.l.length - 1 - (row.l.length - 1 - i) = i by omega]⟩
    have X0 : ∀ x : XW W, x.w.cell? ⟨g1, 0, none⟩ = some (.pointer (some ⟨g0, 0, none⟩)) := fun x => ((hB1'.below' hbW).below' x.h).cells2.1
    have X1 : ∀ x : XW W, x.w.cell? ⟨w.heap.size, 0, none⟩ = some (.int .i64 wd) := fun x => by rw [x.h.cell (show w.heap.size < W.heap.size from bW1.lt)]; exact cW
    refine hK9 _ _ (wpIn_seq (wpIn_wide.2 ?_))
    refine x_tailG 6 [] (by kernel_rfl) (by kernel_rfl) (C := fun w' => ∃ x : XW W, w' = x.w) ⟨⟨_, (Below.refl _ _).drew⟩, rfl⟩ (by kernel_rfl) fun Z hZ => ?_
    simp only [List.take_succ_cons, List.take_zero]
    repeat (go_big_quiet_step (fail))
    refine wpQuiet_nil (hZ _ ?_)
    rintro _ ⟨x, rfl⟩
    simp only [List.drop_succ_cons, List.drop_zero]
    have hbx : Below w.heap.size w x.w := hbW.trans (x.h.mono hbW.size)
    have bRx : Boxed x.w (w.heap.size + 1) 3 (.int .i64 0) := (x.h.block _ bR1.lt).trans bR1
    have hKx : x.w.heap[D]? = some (.deferred (some [])) := (x.h.block _ hlD).trans hK
    go_wp2_with (go_at_call 183; refine Calls.mono (plLoad_c g0 words owner ((t : Nat) : Int) wd 0 x.w (hB0.below' hbx) (hwo.keep fun b hb => hbx.block b (hwo.lt hb)) (hoo.keep fun b hb => hbx.block b (hoo.lt hb)) hwd) ?_; rintro e w' ⟨v, rfl, rfl, hs⟩; have hb9 : Below w.heap.size w w' := hbx.trans (hs.chg.to_below.mono hbx.size); have bR9 : Boxed w' (w.heap.size + 1) 3 (.int .i64 0) := (hs.chg.to_below.block _ bRx.lt).trans bRx; have hK9 : w'.heap[D]? = some (.deferred (some [])) := (hs.chg.to_below.block _ (Array.getElem?_eq_some_iff.1 hKx).1).trans hKx; have cR9 := bR9.cell; have fR9 := bR9.frozen)
    gi_wp2
    exact ⟨by simp, .inl ⟨_, _, rfl, run_takeDeferred ((Below.heap_setCell _ _ _ D (by show D ≠ w.heap.size + 1; omega)).trans hK9), buf_leave (bR9.set _) (by omega) rfl ⟨by rw [hfin], (hb9.setCell (p := ⟨w.heap.size + 1, 0, none⟩) (by show w.heap.size ≤ w.heap.size + 1; omega) _).trans (belowK_b (w := W0) (by omega) _ D _ (.deferred none) (by omega) ((Below.heap_setCell _ _ _ D (by show D ≠ w.heap.size + 1; omega)).trans hK9) rfl rfl)⟩⟩⟩
  case stop =>
    rintro D c pre W hD ⟨k, hk, rfl⟩ ⟨⟨what, ⟨rfl, hhit⟩, bR1⟩, hB1⟩ hK
    gi_wp2
    have hval : findsL row.l words.l wd = what := by
      obtain ⟨pre', x, h1, h2, h3, h4, h5⟩ := hhit
      cases k with
      | zero => have := congrArg List.length h1; simp [backN] at this
      | succ k =>
        rw [backN_succ] at h1
        obtain ⟨e1, e2⟩ := List.append_inj' h1 rfl
        have e3 : (row.l.length - 1 - k, nth row.l (row.l.length - 1 - k)) = x := by simpa using e2
        subst e3 e1
        refine (findsL_some (i := row.l.length - 1 - k) (by omega) h3 h4 fun j hj hjl h9 => h2 (j, nth row.l j) ?_ h9).trans h5
        exact List.mem_map.2 ⟨row.l.length - 1 - j, List.mem_range.2 (by omega), by rw [show row.l.length - 1 - (row.l.length - 1 - j) = j by omega]⟩
    refine ⟨by simp, .inl ⟨_, _, rfl, run_takeDeferred hK, buf_leave bR1 (by omega) rfl ⟨by rw [hval], hB1.trans (belowK_b (w := W0) (by omega) W D _ (.deferred none) (by omega) hK rfl rfl)⟩⟩⟩
end Go.Proofs.Ytfpaahkleienoaa
