/-
  What data of a state say. No program is in sight.
-/
import Derived.Test.YtfpaahkleienoaaL0
namespace Go.Proofs.Ytfpaahkleienoaa
open Go.RowKit
set_option linter.unusedSimpArgs false
set_option linter.unusedVariables false

/-! ### Data of states -/
theorem flatMap_congr' {α β : Type} {f g : α → List β} : ∀ {l : List α}, (∀ x ∈ l, f x = g x) → l.flatMap f = l.flatMap g
  | [], _ => rfl
  | x :: l, h => by simp only [List.flatMap_cons]; rw [h x (by simp), flatMap_congr' fun y hy => h y (by simp [hy])]
theorem all_congr' {α : Type} {f g : α → Bool} : ∀ {l : List α}, (∀ x ∈ l, f x = g x) → l.all f = l.all g
  | [], _ => rfl
  | x :: l, h => by simp only [List.all_cons]; rw [h x (by simp), all_congr' fun y hy => h y (by simp [hy])]
section
variable {code : Ls (Ls Ins)} {words : Ls Int} {Lk R : Nat} {mode : Int} {x : SD}
abbrev pgN (code : Ls (Ls Ins)) (words : Ls Int) (Lk R : Nat) : Pg := pgOf code words (Lk : Int) (R : Int)
theorem pgN_len : (pgN code words Lk R).code.length = code.l.length := by simp [pgN, pgOf]
theorem pgN_code {t : Nat} (ht : t < code.l.length) : nth (pgN code words Lk R).code t = (nth code.l t).l := nth_map' _ _ _ ht
theorem st_th {t : Nat} (ht : t < x.thr.l.length) : nth x.st.ths t = (nth x.thr.l t).th := nth_map' _ _ _ ht
theorem st_view {t : Nat} (ht : t < x.thr.l.length) : x.st.view t = ⟨(nth x.thr.l t).pc, (nth x.thr.l t).regs.l, (nth x.thr.l t).wait.l, x.words.l, x.owner.l, x.prints.l, false⟩ := by
  unfold MSt.view
  rw [st_th ht]; rfl
theorem ended_eq (hl : x.thr.l.length = code.l.length) : endedL code x.thr = ended (pgN code words Lk R) x.st := by
  unfold endedL ended
  rw [pgN_len]
  refine all_congr' fun t ht => ?_
  have ht' : t < code.l.length := by simpa using ht
  rw [pgN_code ht', st_th (by omega)]; rfl
theorem moves_eq (hl : x.thr.l.length = code.l.length) : movesL mode code x.thr x.owner.l code.l.length = moves (pgN code words Lk R) mode x.st := by
  unfold movesL moves
  rw [pgN_len]
  refine flatMap_congr' fun t ht => ?_
  have ht' : t < code.l.length := by simpa using ht
  rw [pgN_code ht', st_view (by omega)]; rfl
structure WfX (code : Ls (Ls Ins)) (words : Ls Int) (Lk R : Nat) (x : SD) : Prop where
  thl : x.thr.l.length = code.l.length
  pc : ∀ t, t < code.l.length → 0 ≤ (nth x.thr.l t).pc ∧ (nth x.thr.l t).pc ≤ (nth code.l t).l.length
  regs : ∀ t, t < x.thr.l.length → (nth x.thr.l t).regs.l.length = R
  wait : ∀ t, t < x.thr.l.length → (nth x.thr.l t).wait.l.length ≤ 3
  wt : ∀ t, t < x.thr.l.length → ∀ j, j < (nth x.thr.l t).wait.l.length → if (nth (nth x.thr.l t).wait.l j).lock = true then 0 ≤ (nth (nth x.thr.l t).wait.l j).wh ∧ (nth (nth x.thr.l t).wait.l j).wh < x.owner.l.length else 0 ≤ (nth (nth x.thr.l t).wait.l j).wh ∧ (nth (nth x.thr.l t).wait.l j).wh < x.words.l.length
  words : x.words.l.length = words.l.length
  owner : x.owner.l.length = Lk
theorem Wf.toX (h : Wf (pgN code words Lk R) x.st) : WfX code words Lk R x := by
  have hl : x.thr.l.length = code.l.length := by have := h.ths; rw [pgN_len] at this; simpa [SD.st] using this
  have hw : x.words.l.length = words.l.length := h.words
  have ho : x.owner.l.length = Lk := by have := h.owner; simpa [pgN, pgOf, SD.st] using this
  have hv : ∀ t, t < code.l.length → WfS R words.l.length Lk (nth code.l t).l.length ⟨(nth x.thr.l t).pc, (nth x.thr.l t).regs.l, (nth x.thr.l t).wait.l, x.words.l, x.owner.l, x.prints.l, false⟩ := by
    intro t ht
    have := h.th t (by rw [pgN_len]; exact ht)
    rw [pgN_code ht, st_view (by omega)] at this
    simpa [pgN, pgOf] using this
  refine ⟨hl, fun t ht => (hv t ht).pc, fun t ht => (hv t (by omega)).regs, fun t ht => (hv t (by omega)).wait, fun t ht j hj => ?_, hw, ho⟩
  rw [ho, hw]
  exact (hv t (by omega)).wt _ (nth_mem _ _ hj)
theorem rows_at {rows : List ThL} (e : rows.map ThL.th = x.thr.l.map ThL.th) : rows.length = x.thr.l.length ∧ ∀ t, t < x.thr.l.length → (nth rows t).pc = (nth x.thr.l t).pc ∧ (nth rows t).regs.l = (nth x.thr.l t).regs.l ∧ (nth rows t).wait.l = (nth x.thr.l t).wait.l := by
  have hl : rows.length = x.thr.l.length := by simpa using congrArg List.length e
  refine ⟨hl, fun t ht => ?_⟩
  have h1 := congrArg (fun l => nth l t) e
  simp only [nth_map' ThL.th _ _ ht, nth_map' ThL.th rows t (by omega)] at h1
  exact ⟨congrArg Th.pc h1, congrArg Th.regs h1, congrArg Th.wait h1⟩
theorem insR_N (hok : OkPg (pgN code words Lk R)) {t : Nat} (ht : t < code.l.length) {pc : Int} (h0 : 0 ≤ pc) (h1 : pc < (nth code.l t).l.length) : InsR R words.l.length Lk (nextIns (nth code.l t).l pc) := by
  have h := (hok.insR (t := t) (i := pc.toNat) (by rw [pgN_len]; exact ht) (by rw [pgN_code ht]; omega)).1
  rw [pgN_code ht] at h
  rw [nextIns_t h1]
  simpa [pgN, pgOf] using h
theorem lock_N (hok : OkPg (pgN code words Lk R)) {t i : Nat} (ht : t < code.l.length) (hi : i < (nth code.l t).l.length) (h17 : (nth (nth code.l t).l i).op = 17) : 0 ≤ (nth (nth code.l t).l i).a ∧ (nth (nth code.l t).l i).a < (Lk : Int) := by
  have h := (hok.insR (t := t) (i := i) (by rw [pgN_len]; exact ht) (by rw [pgN_code ht]; exact hi)).1
  rw [pgN_code ht] at h
  have := h.o17 (.inl h17)
  simpa [pgN, pgOf] using this
theorem moves_len (hl : x.thr.l.length = code.l.length) (hc : code.l.length ≤ 4) (hw : ∀ t, t < x.thr.l.length → (nth x.thr.l t).wait.l.length ≤ 3) : (moves (pgN code words Lk R) mode x.st).length ≤ 16 := by
  rw [← moves_eq hl]
  have key : ∀ n, n ≤ code.l.length → (movesL mode code x.thr x.owner.l n).length ≤ 4 * n := by
    intro n
    induction n with
    | zero => intro _; simp [movesL]
    | succ n ih =>
      intro hn
      rw [movesL_succ, List.length_append]
      have h1 := ih (by omega)
      have h2 := hw n (by omega)
      have h3 := mayT_len mode x.thr n (nth x.thr.l n).wait.l.length
      have h4 : (moveT mode code x.thr x.owner.l n).length ≤ 4 := by
        unfold moveT
        rw [List.length_append]
        split <;> simp <;> omega
      omega
  have := key _ (Nat.le_refl _)
  omega
end
/-- A step's state, by its data. -/
theorem st_step {code : Ls (Ls Ins)} {words : Ls Int} {Lk R : Nat} {mode : Int} {x z : SD} {t k : Nat} {rows rows' : List ThL} {y : TS} {w0 o0 p0 : Ls Int} (ht : t < code.l.length) (hl : x.thr.l.length = code.l.length) (e : rows.map ThL.th = x.thr.l.map ThL.th) (ew : w0.l = x.words.l) (eo : o0.l = x.owner.l) (ep : p0.l = x.prints.l)
    (hy : y = doT mode t (nth code.l t).l k ⟨(nth rows t).pc, (nth rows t).regs.l, (nth rows t).wait.l, w0.l, o0.l, p0.l, false⟩) : y = stepT (pgN code words Lk R) mode x.st t k ∧ (z.thr.l = rows' → rows'.map ThL.th = (rows.map ThL.th).set t ⟨y.pc, y.regs, y.wait⟩ → z.words.l = y.words → z.owner.l = y.owner → z.prints.l = y.prints → z.st = x.st.putT t y) := by
  obtain ⟨h1, h2⟩ := rows_at e
  obtain ⟨q1, q2, q3⟩ := h2 t (by omega)
  constructor
  · rw [hy, q1, q2, q3, ew, eo, ep]
    unfold stepT
    rw [pgN_code ht, st_view (by omega)]
  · intro e1 e2 e3 e4 e5
    unfold MSt.putT SD.st
    rw [e1, e2, e3, e4, e5, e]
end Go.Proofs.Ytfpaahkleienoaa
