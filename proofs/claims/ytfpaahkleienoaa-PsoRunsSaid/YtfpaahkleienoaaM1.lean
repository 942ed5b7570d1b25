/-
  A run by a script, in plain Lean. No program is in sight.
-/
import Derived.Test.YtfpaahkleienoaaL0
import Derived.Test.YtfpaahkleienoaaL1
section
namespace Go.Proofs.Ytfpaahkleienoaa
open Go.RowKit
set_option linter.unusedSimpArgs false
set_option linter.unusedVariables false

/-! ### Data of states -/
theorem flatMap_congr' {α β : Type} {f g : α → List β} : ∀ {l : List α}, (∀ x ∈ l, f x = g x) → l.flatMap f = l.flatMap g
  | [], _ => rfl
  | x :: l, h => by simp only [List.flatMap_cons]; rw [h x (by simp), flatMap_congr' fun y hy => h y (by simp [hy])]
theorem all_congr' {α : Type} {f g : α → Bool} : ∀ {l : List α}, (∀ x ∈ l, f x = g x) → l.all f = l.all g
  | [], _ => rfl
  | x :: l, h => by simp only [List.all_cons]; rw [h x (by simp), all_congr' fun y hy => h y (by simp [hy])]
section
variable {code : Ls (Ls Ins)} {words : Ls Int} {Lk R : Nat} {mode : Int} {x : SD}
abbrev pgN (code : Ls (Ls Ins)) (words : Ls Int) (Lk R : Nat) : Pg := pgOf code words (Lk : Int) (R : Int)
theorem pgN_len : (pgN code words Lk R).code.length = code.l.length := by simp [pgN, pgOf]
theorem pgN_code {t : Nat} (ht : t < code.l.length) : nth (pgN code words Lk R).code t = (nth code.l t).l := nth_map' _ _ _ ht
theorem st_th {t : Nat} (ht : t < x.thr.l.length) : nth x.st.ths t = (nth x.thr.l t).th := nth_map' _ _ _ ht
theorem st_view {t : Nat} (ht : t < x.thr.l.length) : x.st.view t = ⟨(nth x.thr.l t).pc, (nth x.thr.l t).regs.l, (nth x.thr.l t).wait.l, x.words.l, x.owner.l, x.prints.l, false⟩ := by
  unfold MSt.view
  rw [st_th ht]; rfl
theorem ended_eq (hl : x.thr.l.length = code.l.length) : endedL code x.thr = ended (pgN code words Lk R) x.st := by
  unfold endedL ended
  rw [pgN_len]
  refine all_congr' fun t ht => ?_
  have ht' : t < code.l.length := by simpa using ht
  rw [pgN_code ht', st_th (by omega)]; rfl
theorem moves_eq (hl : x.thr.l.length = code.l.length) : movesL mode code x.thr x.owner.l code.l.length = moves (pgN code words Lk R) mode x.st := by
  unfold movesL moves
  rw [pgN_len]
  refine flatMap_congr' fun t ht => ?_
  have ht' : t < code.l.length := by simpa using ht
  rw [pgN_code ht', st_view (by omega)]; rfl
structure WfX (code : Ls (Ls Ins)) (words : Ls Int) (Lk R : Nat) (x : SD) : Prop where
  thl : x.thr.l.length = code.l.length
  pc : ∀ t, t < code.l.length → 0 ≤ (nth x.thr.l t).pc ∧ (nth x.thr.l t).pc ≤ (nth code.l t).l.length
  regs : ∀ t, t < x.thr.l.length → (nth x.thr.l t).regs.l.length = R
  wait : ∀ t, t < x.thr.l.length → (nth x.thr.l t).wait.l.length ≤ 3
  wt : ∀ t, t < x.thr.l.length → ∀ j, j < (nth x.thr.l t).wait.l.length → if (nth (nth x.thr.l t).wait.l j).lock = true then 0 ≤ (nth (nth x.thr.l t).wait.l j).wh ∧ (nth (nth x.thr.l t).wait.l j).wh < x.owner.l.length else 0 ≤ (nth (nth x.thr.l t).wait.l j).wh ∧ (nth (nth x.thr.l t).wait.l j).wh < x.words.l.length
  words : x.words.l.length = words.l.length
  owner : x.owner.l.length = Lk
theorem Wf.toX (h : Wf (pgN code words Lk R) x.st) : WfX code words Lk R x := by
  have hl : x.thr.l.length = code.l.length := by have := h.ths; rw [pgN_len] at this; simpa [SD.st] using this
  have hw : x.words.l.length = words.l.length := h.words
  have ho : x.owner.l.length = Lk := by have := h.owner; simpa [pgN, pgOf, SD.st] using this
  have hv : ∀ t, t < code.l.length → WfS R words.l.length Lk (nth code.l t).l.length ⟨(nth x.thr.l t).pc, (nth x.thr.l t).regs.l, (nth x.thr.l t).wait.l, x.words.l, x.owner.l, x.prints.l, false⟩ := by
    intro t ht
    have := h.th t (by rw [pgN_len]; exact ht)
    rw [pgN_code ht, st_view (by omega)] at this
    simpa [pgN, pgOf] using this
  refine ⟨hl, fun t ht => (hv t ht).pc, fun t ht => (hv t (by omega)).regs, fun t ht => (hv t (by omega)).wait, fun t ht j hj => ?_, hw, ho⟩
  rw [ho, hw]
  exact (hv t (by omega)).wt _ (nth_mem _ _ hj)
theorem rows_at {rows : List ThL} (e : rows.map ThL.th = x.thr.l.map ThL.th) : rows.length = x.thr.l.length ∧ ∀ t, t < x.thr.l.length → (nth rows t).pc = (nth x.thr.l t).pc ∧ (nth rows t).regs.l = (nth x.thr.l t).regs.l ∧ (nth rows t).wait.l = (nth x.thr.l t).wait.l := by
  have hl : rows.length = x.thr.l.length := by simpa using congrArg List.length e
  refine ⟨hl, fun t ht => ?_⟩
  have h1 := congrArg (fun l => nth l t) e
  simp only [nth_map' ThL.th _ _ ht, nth_map' ThL.th rows t (by omega)] at h1
  exact ⟨congrArg Th.pc h1, congrArg Th.regs h1, congrArg Th.wait h1⟩
theorem insR_N (hok : OkPg (pgN code words Lk R)) {t : Nat} (ht : t < code.l.length) {pc : Int} (h0 : 0 ≤ pc) (h1 : pc < (nth code.l t).l.length) : InsR R words.l.length Lk (nextIns (nth code.l t).l pc) := by
  have h := (hok.insR (t := t) (i := pc.toNat) (by rw [pgN_len]; exact ht) (by rw [pgN_code ht]; omega)).1
  rw [pgN_code ht] at h
  rw [nextIns_t h1]
  simpa [pgN, pgOf] using h
theorem lock_N (hok : OkPg (pgN code words Lk R)) {t i : Nat} (ht : t < code.l.length) (hi : i < (nth code.l t).l.length) (h17 : (nth (nth code.l t).l i).op = 17) : 0 ≤ (nth (nth code.l t).l i).a ∧ (nth (nth code.l t).l i).a < (Lk : Int) := by
  have h := (hok.insR (t := t) (i := i) (by rw [pgN_len]; exact ht) (by rw [pgN_code ht]; exact hi)).1
  rw [pgN_code ht] at h
  have := h.o17 (.inl h17)
  simpa [pgN, pgOf] using this
theorem moves_len (hl : x.thr.l.length = code.l.length) (hc : code.l.length ≤ 4) (hw : ∀ t, t < x.thr.l.length → (nth x.thr.l t).wait.l.length ≤ 3) : (moves (pgN code words Lk R) mode x.st).length ≤ 16 := by
  rw [← moves_eq hl]
  have key : ∀ n, n ≤ code.l.length → (movesL mode code x.thr x.owner.l n).length ≤ 4 * n := by
    intro n
    induction n with
    | zero => intro _; simp [movesL]
    | succ n ih =>
      intro hn
      rw [movesL_succ, List.length_append]
      have h1 := ih (by omega)
      have h2 := hw n (by omega)
      have h3 := mayT_len mode x.thr n (nth x.thr.l n).wait.l.length
      have h4 : (moveT mode code x.thr x.owner.l n).length ≤ 4 := by
        unfold moveT
        rw [List.length_append]
        split <;> simp <;> omega
      omega
  have := key _ (Nat.le_refl _)
  omega
end
/-- A step's state, by its data. -/
theorem st_step {code : Ls (Ls Ins)} {words : Ls Int} {Lk R : Nat} {mode : Int} {x z : SD} {t k : Nat} {rows rows' : List ThL} {y : TS} {w0 o0 p0 : Ls Int} (ht : t < code.l.length) (hl : x.thr.l.length = code.l.length) (e : rows.map ThL.th = x.thr.l.map ThL.th) (ew : w0.l = x.words.l) (eo : o0.l = x.owner.l) (ep : p0.l = x.prints.l)
    (hy : y = doT mode t (nth code.l t).l k ⟨(nth rows t).pc, (nth rows t).regs.l, (nth rows t).wait.l, w0.l, o0.l, p0.l, false⟩) : y = stepT (pgN code words Lk R) mode x.st t k ∧ (z.thr.l = rows' → rows'.map ThL.th = (rows.map ThL.th).set t ⟨y.pc, y.regs, y.wait⟩ → z.words.l = y.words → z.owner.l = y.owner → z.prints.l = y.prints → z.st = x.st.putT t y) := by
  obtain ⟨h1, h2⟩ := rows_at e
  obtain ⟨q1, q2, q3⟩ := h2 t (by omega)
  constructor
  · rw [hy, q1, q2, q3, ew, eo, ep]
    unfold stepT
    rw [pgN_code ht, st_view (by omega)]
  · intro e1 e2 e3 e4 e5
    unfold MSt.putT SD.st
    rw [e1, e2, e3, e4, e5, e]
end Go.Proofs.Ytfpaahkleienoaa
end
section
namespace Go.Proofs.Ytfpaahkleienoaa
open Go.RowKit
set_option linter.unusedSimpArgs false
set_option linter.unusedVariables false

section
variable {p : Pg} {m : Int} {S : List MSt} {E : List Outc} {full : Bool} {i : Nat}
theorem Inv.addOut (h : Inv p m S E full i) {o : Outc} {E' : List Outc} (ho : Outs p m o) (hs : Sorted_ E') (hm : ∀ y, y ∈ E' ↔ y ∈ E ∨ y = o) : Inv p m S E' full i :=
  ⟨h.start, h.reach, h.pr, h.len, h.hfull, fun y hy => ((hm y).1 hy).elim (h.sound y) (fun e => e ▸ ho), hs, fun hf j hj => (h.done hf j hj).mono (fun _ h => h) fun y hy => (hm y).2 (.inl hy)⟩
theorem Inv.next (h : Inv p m S E full i) (hx : full = false → Expanded p m S E (nth S i)) : Inv p m S E full (i + 1) :=
  ⟨h.start, h.reach, h.pr, h.len, h.hfull, h.sound, h.sorted, fun hf j hj => by
    rcases Nat.lt_or_ge j i with h1 | h1
    · exact h.done hf j h1
    · obtain rfl : j = i := by omega
      exact hx hf⟩
theorem Inv.first (s : MSt) (hs : s = begin_ p) : Inv p m [s] [] (false || decide (4000 < 0 + 1)) 0 := by
  subst hs
  refine ⟨by simp, fun x hx => ?_, fun j hj => ?_, by simp, by simp, fun o ho => ?_, List.Pairwise.nil, fun _ j hj => absurd hj (by omega)⟩
  · obtain rfl : x = begin_ p := by simpa using hx
    exact .start
  · simp at hj; subst hj; exact Nat.zero_le _
  · cases ho
theorem ended_no {s : MSt} (he : ended p s = true) : ∀ t k, t < p.code.length → mvOK m (nth p.code t) (s.view t) k = false := by
  intro t k ht
  have h1 := (List.all_eq_true.1 he) t (by simpa using ht)
  simp only [Bool.and_eq_true, decide_eq_true_eq] at h1
  cases hk : mvOK m (nth p.code t) (s.view t) k with
  | false => rfl
  | true =>
    rcases mvOK_k hk with ⟨rfl, h2, _⟩ | ⟨h2, h3, _⟩
    · exact absurd h2 h1.1
    · have : (s.view t).wait.length = 0 := h1.2
      omega
theorem Inv.ended (h : Inv p m S E full i) (hi : i < S.length) (he : ended p (nth S i) = true) {E' : List Outc} (hs : Sorted_ E') (hm : ∀ y, y ∈ E' ↔ y ∈ E ∨ y = ⟨0, (nth S i).words, (nth S i).prints⟩) : Inv p m S E' full (i + 1) := by
  have h1 := h.addOut (.done (h.reach _ (nth_mem _ _ hi)) he) hs hm
  refine h1.next fun _ => ⟨fun _ => (hm _).2 (.inr rfl), fun e => ?_, fun t k ht hk => ?_⟩
  · rw [he] at e; cases e
  · rw [ended_no he t k ht] at hk; cases hk
theorem stuck_of {s : MSt} (hm : moves p m s = []) : Stuck_ p m s := by
  intro t k ht
  cases hk : mvOK m (nth p.code t) (s.view t) k with
  | false => rfl
  | true =>
    have : ((8 * t + k : Nat) : Int) ∈ moves p m s := mem_moves.2 ⟨t, k, ht, hk, rfl⟩
    rw [hm] at this; cases this
theorem Inv.stuck (h : Inv p m S E full i) (hi : i < S.length) (he : Go.Proofs.Ytfpaahkleienoaa.ended p (nth S i) = false) (hmv : moves p m (nth S i) = []) {E' : List Outc} (hs : Sorted_ E') (hm : ∀ y, y ∈ E' ↔ y ∈ E ∨ y = ⟨2, (nth S i).words, (nth S i).prints⟩) : Inv p m S E' full (i + 1) := by
  have hst := stuck_of hmv
  have h1 := h.addOut (.stuck (h.reach _ (nth_mem _ _ hi)) he hst) hs hm
  refine h1.next fun _ => ⟨fun e => ?_, fun _ _ => (hm _).2 (.inr rfl), fun t k ht hk => ?_⟩
  · rw [he] at e; cases e
  · rw [hst t k ht] at hk; cases hk
/-- A move, by its number, is seen to. -/
def HandM (p : Pg) (m : Int) (S : List MSt) (E : List Outc) (s : MSt) (v : Int) : Prop := ∀ t k, v = ((8 * t + k : Nat) : Int) → k ≤ 3 → Handled p m S E s t k
theorem HandM.mono {s : MSt} {v : Int} {S' : List MSt} {E' : List Outc} (h : HandM p m S E s v) (hS : ∀ x ∈ S, x ∈ S') (hE : ∀ x ∈ E, x ∈ E') : HandM p m S' E' s v := fun t k e hk => (h t k e hk).mono hS hE
theorem HandM.of {s : MSt} {v : Int} {t k : Nat} (hv : v = ((8 * t + k : Nat) : Int)) (hk : k ≤ 3) (h : Handled p m S E s t k) : HandM p m S E s v := by
  intro t' k' e hk'
  rw [hv] at e
  have e' : 8 * t + k = 8 * t' + k' := by omega
  obtain rfl : t = t' := by omega
  obtain rfl : k = k' := by omega
  exact h
end

end Go.Proofs.Ytfpaahkleienoaa
end
namespace Go.Proofs.Ytfpaahkleienoaa
open Go.RowKit
set_option linter.unusedSimpArgs false
set_option linter.unusedVariables false

/-- What a run comes to: how it ended, after how many steps, with which words, having printed what. -/
structure TrM where
  st : Int
  steps : Nat
  words : List Int
  prints : List Int
/-- Which one of so many moves is picked. -/
def pickM (script : List Int) (nx l : Nat) : Nat := if 1 < l ∧ nx < script.length then (nth script nx % (l : Int)).toNat else 0
def nextM (script : List Int) (nx l : Nat) : Nat := if 1 < l ∧ nx < script.length then nx + 1 else nx
def mvM (p : Pg) (m : Int) (s : MSt) (script : List Int) (nx : Nat) : Nat := (nth (moves p m s) (pickM script nx (moves p m s).length)).toNat
def goM (p : Pg) (m : Int) (script : List Int) : Nat → Nat → MSt → Nat → TrM
  | 0, _, s, k => if ended p s = true then ⟨0, k, s.words, s.prints⟩ else if (moves p m s).length = 0 then ⟨2, k, s.words, s.prints⟩ else ⟨3, k, s.words, s.prints⟩
  | n + 1, nx, s, k =>
    if ended p s = true then ⟨0, k, s.words, s.prints⟩
    else if (moves p m s).length = 0 then ⟨2, k, s.words, s.prints⟩
    else if (stepT p m s (mvM p m s script nx / 8) (mvM p m s script nx % 8)).fell = true then ⟨1, k + 1, (stepT p m s (mvM p m s script nx / 8) (mvM p m s script nx % 8)).words, (stepT p m s (mvM p m s script nx / 8) (mvM p m s script nx % 8)).prints⟩
    else goM p m script n (nextM script nx (moves p m s).length) (s.putT (mvM p m s script nx / 8) (stepT p m s (mvM p m s script nx / 8) (mvM p m s script nx % 8))) (k + 1)
def runM (p : Pg) (m : Int) (script : List Int) : TrM := goM p m script 5000 0 (begin_ p) 0
/-- Where a run stands: it goes on as it began, and the state may be. -/
structure GoI (p : Pg) (m : Int) (script : List Int) (nx : Nat) (s : MSt) (k : Nat) : Prop where
  le : k ≤ 5000
  nxk : nx ≤ k
  eq : goM p m script (5000 - k) nx s k = runM p m script
  reach : Reach p m s
  pr : s.prints.length ≤ 2 * k
section
variable {p : Pg} {m : Int} {script : List Int} {nx k : Nat} {s : MSt}
theorem goI_start : GoI p m script 0 (begin_ p) 0 := ⟨by omega, Nat.le_refl _, rfl, .start, by simp [begin_]⟩
theorem goI_ended (h : GoI p m script nx s k) (he : ended p s = true) : runM p m script = ⟨0, k, s.words, s.prints⟩ := by
  rw [← h.eq]
  cases 5000 - k with
  | zero => rw [goM, if_pos he]
  | succ n => rw [goM, if_pos he]
theorem goI_stuck (h : GoI p m script nx s k) (he : ended p s = false) (hl : (moves p m s).length = 0) : runM p m script = ⟨2, k, s.words, s.prints⟩ := by
  rw [← h.eq]
  cases 5000 - k with
  | zero => rw [goM, if_neg (by rw [he]; decide), if_pos hl]
  | succ n => rw [goM, if_neg (by rw [he]; decide), if_pos hl]
theorem goI_out (h : GoI p m script nx s k) (he : ended p s = false) (hl : (moves p m s).length ≠ 0) (hk : k = 5000) : runM p m script = ⟨3, k, s.words, s.prints⟩ := by
  rw [← h.eq, show 5000 - k = 0 by omega, goM, if_neg (by rw [he]; decide), if_neg hl]
theorem pick_lt (script : List Int) (nx : Nat) {l : Nat} (hl : l ≠ 0) : pickM script nx l < l := by
  unfold pickM
  split
  · have := Int.emod_lt_of_pos (nth script nx) (show (0 : Int) < (l : Int) by omega)
    have := Int.emod_nonneg (nth script nx) (show (l : Int) ≠ 0 by omega)
    omega
  · omega
theorem next_le {l : Nat} : nextM script nx l ≤ nx + 1 := by unfold nextM; split <;> omega
/-- Which thread's which move is picked. -/
theorem mv_at (hl : (moves p m s).length ≠ 0) : ∃ t j, t < p.code.length ∧ mvOK m (nth p.code t) (s.view t) j = true ∧ nth (moves p m s) (pickM script nx (moves p m s).length) = ((8 * t + j : Nat) : Int) ∧ mvM p m s script nx = 8 * t + j := by
  obtain ⟨t, j, h1, h2, h3⟩ := mem_moves.1 (nth_mem _ _ (pick_lt script nx hl))
  exact ⟨t, j, h1, h2, h3, by unfold mvM; rw [h3]; omega⟩
theorem goI_next (h : GoI p m script nx s k) (he : ended p s = false) (hl : (moves p m s).length ≠ 0) (hk : k ≠ 5000) {t j : Nat} (hj : j < 8) (e : mvM p m s script nx = 8 * t + j) (ht : t < p.code.length) (hm : mvOK m (nth p.code t) (s.view t) j = true) (hpl : (stepT p m s t j).prints.length ≤ s.prints.length + 2) :
    ((stepT p m s t j).fell = true → runM p m script = ⟨1, k + 1, (stepT p m s t j).words, (stepT p m s t j).prints⟩) ∧ ((stepT p m s t j).fell = false → GoI p m script (nextM script nx (moves p m s).length) (s.putT t (stepT p m s t j)) (k + 1)) := by
  have hle := h.le
  have h5 : 5000 - k = (5000 - (k + 1)) + 1 := by omega
  have e1 : (8 * t + j) / 8 = t := by omega
  have e2 : (8 * t + j) % 8 = j := by omega
  have h1 := h.eq
  rw [h5, goM, if_neg (by rw [he]; decide), if_neg hl] at h1
  simp only [e, e1, e2] at h1
  refine ⟨fun hf => ?_, fun hf => ?_⟩
  · rw [if_pos hf] at h1; exact h1.symm
  · rw [if_neg (by rw [hf]; decide)] at h1
    refine ⟨by omega, ?_, h1, .step h.reach ht hm hf, ?_⟩
    · have := next_le (script := script) (nx := nx) (l := (moves p m s).length); have := h.nxk; omega
    · show (stepT p m s t j).prints.length ≤ _
      have := h.pr
      omega
end
end Go.Proofs.Ytfpaahkleienoaa
