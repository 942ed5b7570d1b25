/-
  Loops in the place of locks: in plain Lean, what threads of the two programs see.
-/
import Derived.Test.YtmgikmjmdppfmaaX6
import Derived.Test.YtmgikmjmdppfmaaF1
section
namespace Go.Proofs.Ytmgikmjmdppfmaa
open Go.RowKit
set_option linter.unusedSimpArgs false
set_option linter.unusedVariables false


def linkR (nw : Nat) (_ : Nat) (x : Ins) : List Ins :=
  if x.op = 17 then [⟨1, 6, 0, 0⟩, ⟨1, 7, 1, 0⟩, ⟨13, nw + x.a, 6, 7⟩, ⟨15, 6, 0, 0⟩] else if x.op = 18 then [⟨1, 6, 0, 0⟩, ⟨9, nw + x.a, 6, 0⟩] else [x]
end Go.Proofs.Ytmgikmjmdppfmaa
end
namespace Go.Proofs.Ytmgikmjmdppfmaa
open Go.RowKit
set_option linter.unusedSimpArgs false
set_option linter.unusedVariables false

/-! ### Orders -/
section
variable (nw : Nat) (c : List Ins)
def pK (i : Nat) : Nat := placeL (becL (linkR nw) c) i
end
section
variable {nw : Nat} {c : List Ins}
end

/-! ### What a thread sees -/
def lkB (x : Int) : Int := if x = -1 then 0 else 1
def lkW (o : List Int) : List Int := o.map lkB
def lkWt (n : Nat) (w : Wt) : Wt := if w.lock = true then ⟨false, n + w.wh, 0⟩ else w
theorem lkWt_t {n : Nat} {w : Wt} (h : w.lock = true) : lkWt n w = ⟨false, n + w.wh, 0⟩ := by unfold lkWt; rw [if_pos h]
theorem lkWt_f {n : Nat} {w : Wt} (h : w.lock = false) : lkWt n w = w := by unfold lkWt; rw [if_neg (by rw [h]; decide)]
/-- x: of the program with locks; y: of the one with words for them. -/
structure RVk (n R : Nat) (x y : TS) : Prop where
  w : y.words = x.words ++ lkW x.owner
  p : y.prints = x.prints
  wt : y.wait = x.wait.map (lkWt n)
  r : ∀ k, k < R → nth y.regs k = nth x.regs k
  rl : y.regs.length = 8
/-- What a state that may be has. -/
structure XK (n R L : Nat) (x : TS) : Prop where
  r : x.regs.length = R
  w : x.words.length = n
  o : x.owner.length = L
  wt : ∀ v ∈ x.wait, if v.lock = true then 0 ≤ v.wh ∧ v.wh < L else 0 ≤ v.wh ∧ v.wh < n
section
variable {n R L : Nat} {x y : TS} {m : Int} {t : Nat}
theorem RVk.pc (h : RVk n R x y) (u v : Int) : RVk n R { x with pc := u } { y with pc := v } := ⟨h.w, h.p, h.wt, h.r, h.rl⟩
theorem RVk.reg (h : RVk n R x y) {k : Int} (hk : 0 ≤ k ∧ k < R) : y.reg k = x.reg k := h.r _ (by omega)
theorem RVk.put (h : RVk n R x y) (hx : XK n R L x) (hR : R ≤ 6) {k : Int} (hk : 0 ≤ k ∧ k < R) (v : Int) : RVk n R (x.put k v) (y.put k v) := by
  refine ⟨h.w, h.p, h.wt, fun j hj => ?_, by simpa [TS.put] using h.rl⟩
  show nth (y.regs.set k.toNat v) j = nth (x.regs.set k.toNat v) j
  rw [nth_set0, nth_set0, h.rl, hx.r, h.r j hj]
  by_cases e : k.toNat = j
  · rw [if_pos ⟨e, by omega⟩, if_pos ⟨e, by omega⟩]
  · rw [if_neg (fun hh => e hh.1), if_neg (fun hh => e hh.1)]
theorem RVk.len (h : RVk n R x y) (hx : XK n R L x) : y.words.length = n + L := by rw [h.w, List.length_append, hx.w, lkW, List.length_map, hx.o]
theorem RVk.word (h : RVk n R x y) (hx : XK n R L x) {a : Int} (ha : 0 ≤ a ∧ a < n) : nth y.words a.toNat = nth x.words a.toNat := by
  rw [h.w, nth_app0, if_pos (by rw [hx.w]; omega)]
theorem RVk.lock (h : RVk n R x y) (hx : XK n R L x) {a : Int} (ha : 0 ≤ a ∧ a < L) : nth y.words ((n : Int) + a).toNat = lkB (nth x.owner a.toNat) := by
  have e : ((n : Int) + a).toNat = n + a.toNat := by omega
  rw [h.w, nth_app0, if_neg (by rw [hx.w]; omega), hx.w, e, Nat.add_sub_cancel_left]
  exact nth_map' _ _ _ (by rw [hx.o]; omega)
theorem finds_eq {w : Int} (hw : w < n) (ws : List Int) : ∀ l : List Wt, (∀ v ∈ l, v.lock = true → 0 ≤ v.wh) → (match (l.map (lkWt n)).find? (fun x => !x.lock && decide (x.wh = w)) with | some x => x.what | none => nth ws w.toNat) = (match l.find? (fun x => !x.lock && decide (x.wh = w)) with | some x => x.what | none => nth ws w.toNat)
  | [], _ => rfl
  | v :: l, hv => by
    have ih := finds_eq hw ws l fun u hu => hv u (List.mem_cons_of_mem _ hu)
    rw [List.map_cons, List.find?_cons, List.find?_cons]
    cases hl : v.lock with
    | true =>
      have h0 := hv v (List.mem_cons_self ..) hl
      have e1 : (!(lkWt n v).lock && decide ((lkWt n v).wh = w)) = false := by rw [lkWt_t hl]; simp; omega
      have e2 : (!true && decide (v.wh = w)) = false := rfl
      rw [e1, e2]; exact ih
    | false =>
      have e1 : (!(lkWt n v).lock && decide ((lkWt n v).wh = w)) = (!false && decide (v.wh = w)) := by rw [lkWt_f hl, hl]
      rw [e1]
      cases (!false && decide (v.wh = w)) with
      | true => show (lkWt n v).what = v.what; rw [lkWt_f hl]
      | false => exact ih
theorem RVk.finds (h : RVk n R x y) (hx : XK n R L x) {w : Int} (hw : 0 ≤ w ∧ w < n) : y.finds w = x.finds w := by
  unfold TS.finds findsL
  rw [h.wt, ← List.map_reverse, h.word hx hw]
  exact finds_eq hw.2 _ _ fun v hv hl => by
    have := hx.wt v (List.mem_reverse.1 hv)
    rw [if_pos hl] at this; exact this.1
theorem lkW_set {o : List Int} {k : Nat} {v : Int} : lkW (o.set k v) = (lkW o).set k (lkB v) := by unfold lkW; rw [List.map_set]
theorem app_set_l {a b : List Int} {k : Nat} {v : Int} (h : k < a.length) : (a ++ b).set k v = a.set k v ++ b := List.set_append_left k v h
theorem app_set_r {a b : List Int} {k : Nat} {v : Int} : (a ++ b).set (a.length + k) v = a ++ b.set k v := by
  rw [List.set_append_right _ _ (by omega), Nat.add_sub_cancel_left]
theorem RVk.done (h : RVk n R x y) (hx : XK n R L x) {v : Wt} (hv : if v.lock = true then 0 ≤ v.wh ∧ v.wh < L else 0 ≤ v.wh ∧ v.wh < n) : RVk n R (x.done v) (y.done (lkWt n v)) := by
  cases hl : v.lock with
  | true =>
    rw [if_pos hl] at hv
    refine ⟨?_, h.p, h.wt, h.r, h.rl⟩
    rw [lkWt_t hl]
    unfold TS.done
    simp only [hl, if_true, Bool.false_eq_true, if_false]
    rw [lkW_set, h.w, show ((n : Int) + v.wh).toNat = x.words.length + v.wh.toNat by rw [hx.w]; omega, app_set_r]
    rfl
  | false =>
    rw [if_neg (by rw [hl]; decide)] at hv
    refine ⟨?_, h.p, h.wt, h.r, h.rl⟩
    rw [lkWt_f hl]
    unfold TS.done
    simp only [hl, Bool.false_eq_true, if_false]
    rw [h.w, app_set_l (by rw [hx.w]; omega)]
theorem RVk.store (h : RVk n R x y) (hx : XK n R L x) {v : Wt} (hv : if v.lock = true then 0 ≤ v.wh ∧ v.wh < L else 0 ≤ v.wh ∧ v.wh < n) : RVk n R (x.store m v) (y.store m (lkWt n v)) := by
  unfold TS.store
  split
  · refine ⟨h.w, h.p, ?_, h.r, h.rl⟩
    show y.wait ++ [lkWt n v] = (x.wait ++ [v]).map (lkWt n)
    rw [h.wt, List.map_append]; rfl
  · exact h.done hx hv
theorem XK.of {C : Nat} (h : WfS R n L C x) : XK n R L x := ⟨h.regs, h.words, h.owner, h.wt⟩
theorem RVk.able (h : RVk n R x y) {i : Ins} (h7 : i.op ≠ 17) : ableL y.owner y.wait.length i = ableL x.owner x.wait.length i := by
  unfold ableL
  rw [h.wt, List.length_map]
  by_cases h1 : i.op = 9 ∨ i.op = 11 ∨ i.op = 18
  · rw [if_pos h1, if_pos h1]
  · rw [if_neg h1, if_neg h1]
    by_cases h2 : i.op = 12 ∨ i.op = 13
    · rw [if_pos h2, if_pos h2]
    · rw [if_neg h2, if_neg h2, if_neg h7, if_neg h7]
/-- An order that is of no lock and no jump. -/
theorem RVk.exec (h : RVk n R x y) (hx : XK n R L x) (hR : R ≤ 6) {i : Ins} (hi : InsR R n L i) (h14 : i.op ≠ 14) (h15 : i.op ≠ 15) (h17 : i.op ≠ 17) (h18 : i.op ≠ 18) (hf : (execT m t i x).fell = false) (hy : y.fell = false) : RVk n R (execT m t i x) (execT m t i y) ∧ (execT m t i y).fell = false := by
  by_cases e1 : i.op = 1
  · rw [execT_1 e1, execT_1 e1]; exact ⟨h.put hx hR (hi.o1 e1) _, hy⟩
  by_cases e2 : i.op = 2
  · rw [execT_2 e2, execT_2 e2, h.reg (hi.o2 e2).2]; exact ⟨h.put hx hR (hi.o2 e2).1 _, hy⟩
  by_cases e3 : i.op = 3
  · have q := hi.o3 (by omega); rw [execT_3 e3, execT_3 e3, h.reg q.2.1, h.reg q.2.2]; exact ⟨h.put hx hR q.1 _, hy⟩
  by_cases e4 : i.op = 4
  · have q := hi.o3 (by omega); rw [execT_4 e4, execT_4 e4, h.reg q.2.1, h.reg q.2.2]; exact ⟨h.put hx hR q.1 _, hy⟩
  by_cases e5 : i.op = 5
  · have q := hi.o3 (by omega); rw [execT_5 e5, execT_5 e5, h.reg q.2.1, h.reg q.2.2]; exact ⟨h.put hx hR q.1 _, hy⟩
  by_cases e6 : i.op = 6
  · have q := hi.o3 (by omega); rw [execT_6 e6, execT_6 e6, h.reg q.2.1, h.reg q.2.2]; exact ⟨h.put hx hR q.1 _, hy⟩
  by_cases e7 : i.op = 7
  · have q := hi.o3 (by omega); rw [execT_7 e7, execT_7 e7, h.reg q.2.1, h.reg q.2.2]; exact ⟨h.put hx hR q.1 _, hy⟩
  by_cases e8 : i.op = 8
  · have q := hi.o8 e8; rw [execT_8 e8, execT_8 e8, h.finds hx q.2]; exact ⟨h.put hx hR q.1 _, hy⟩
  by_cases e9 : i.op = 9
  · have q := hi.o9 e9
    rw [execT_9 e9, execT_9 e9, h.reg q.2]
    have := h.store (m := m) hx (v := ⟨false, i.a, x.reg i.b⟩) (by rw [if_neg Bool.false_ne_true]; exact q.1)
    rw [lkWt_f rfl] at this
    exact ⟨this, by unfold TS.store; split <;> exact hy⟩
  by_cases e10 : i.op = 10
  · have q := hi.o10 (.inl e10)
    by_cases hw : 0 ≤ x.reg i.b ∧ x.reg i.b < (x.words.length : Int)
    · have hw2 : 0 ≤ y.reg i.b ∧ y.reg i.b < (y.words.length : Int) := by rw [h.reg q.2, h.len hx]; rw [hx.w] at hw; omega
      rw [execT_10t e10 hw, execT_10t e10 hw2, h.reg q.2, h.finds hx (by rw [hx.w] at hw; exact hw)]
      exact ⟨h.put hx hR q.1 _, hy⟩
    · rw [execT_10f e10 hw] at hf; cases hf
  by_cases e11 : i.op = 11
  · have q := hi.o10 (.inr e11)
    by_cases hw : 0 ≤ x.reg i.a ∧ x.reg i.a < (x.words.length : Int)
    · have hw2 : 0 ≤ y.reg i.a ∧ y.reg i.a < (y.words.length : Int) := by rw [h.reg q.1, h.len hx]; rw [hx.w] at hw; omega
      rw [execT_11t e11 hw, execT_11t e11 hw2, h.reg q.1, h.reg q.2]
      have := h.store (m := m) hx (v := ⟨false, x.reg i.a, x.reg i.b⟩) (by rw [if_neg Bool.false_ne_true]; rw [hx.w] at hw; exact hw)
      rw [lkWt_f rfl] at this
      exact ⟨this, by unfold TS.store; split <;> exact hy⟩
    · rw [execT_11f e11 hw] at hf; cases hf
  by_cases e13 : i.op = 13
  · have q := hi.o13 e13
    by_cases hw : nth x.words i.a.toNat = x.reg i.b
    · have hw2 : nth y.words i.a.toNat = y.reg i.b := by rw [h.word hx q.1, h.reg q.2.1]; exact hw
      rw [execT_13t e13 hw, execT_13t e13 hw2, h.reg q.2.2]
      have := h.put hx hR q.2.1 1
      refine ⟨⟨?_, h.p, h.wt, this.r, this.rl⟩, hy⟩
      show y.words.set _ _ = _
      rw [h.w, app_set_l (by rw [hx.w]; omega)]
    · have hw2 : ¬ nth y.words i.a.toNat = y.reg i.b := by rw [h.word hx q.1, h.reg q.2.1]; exact hw
      rw [execT_13f e13 hw, execT_13f e13 hw2]; exact ⟨h.put hx hR q.2.1 _, hy⟩
  by_cases e16 : i.op = 16
  · rw [execT_16 e16, execT_16 e16, h.reg (hi.o15 (.inr e16))]
    exact ⟨⟨h.w, by show y.prints ++ _ = _; rw [h.p], h.wt, h.r, h.rl⟩, hy⟩
  rw [execT_no ⟨e1, e2, e3, e4, e5, e6, e7, e8, e9, e10, e11, e13, h14, h15, e16, h17, h18⟩, execT_no ⟨e1, e2, e3, e4, e5, e6, e7, e8, e9, e10, e11, e13, h14, h15, e16, h17, h18⟩]
  exact ⟨h, hy⟩
/-- What waits first is done. -/
theorem RVk.move (h : RVk n R x y) (hx : XK n R L x) (hw : x.wait ≠ []) (c c' : List Ins) : RVk n R (doT m t c 1 x) (doT m t c' 1 y) := by
  unfold doT
  rw [if_pos (by decide), if_pos (by decide)]
  obtain ⟨v, l, e⟩ : ∃ v l, x.wait = v :: l := by cases hh : x.wait with | nil => exact absurd hh hw | cons a b => exact ⟨a, b, rfl⟩
  have hy : y.wait = lkWt n v :: l.map (lkWt n) := by rw [h.wt, e]; rfl
  have hv := hx.wt v (by rw [e]; exact List.mem_cons_self ..)
  have hd := h.done hx hv
  rw [e, hy]
  exact ⟨hd.w, hd.p, rfl, hd.r, hd.rl⟩
end
end Go.Proofs.Ytmgikmjmdppfmaa
