/-
  Tools for laws of two programs: what a run of one comes to, one of the other comes to. No program is in sight.
-/
import Derived.Test.YtmgikmjmdppfmaaL1
import Derived.Test.YtmgikmjmdppfmaaX3
namespace Go.Proofs.Ytmgikmjmdppfmaa
open Go.RowKit
set_option linter.unusedSimpArgs false
set_option linter.unusedVariables false

theorem store_pc (m : Int) (x : TS) (w : Wt) (u : Int) : TS.store m { x with pc := u } w = { x.store m w with pc := u } := by unfold TS.store; split <;> rfl
theorem store_pc' (m : Int) (x : TS) (w : Wt) : (x.store m w).pc = x.pc := by unfold TS.store; split <;> rfl
/-- An order that is no jump does the same wherever it stands. -/
theorem execT_pc (m : Int) (n : Nat) (i : Ins) (x : TS) (u : Int) (h14 : i.op ≠ 14) (h15 : i.op ≠ 15) : execT m n i { x with pc := u } = { execT m n i x with pc := u } ∧ (execT m n i x).pc = x.pc := by
  by_cases e1 : i.op = 1
  · rw [execT_1 e1, execT_1 e1]; exact ⟨rfl, rfl⟩
  by_cases e2 : i.op = 2
  · rw [execT_2 e2, execT_2 e2]; exact ⟨rfl, rfl⟩
  by_cases e3 : i.op = 3
  · rw [execT_3 e3, execT_3 e3]; exact ⟨rfl, rfl⟩
  by_cases e4 : i.op = 4
  · rw [execT_4 e4, execT_4 e4]; exact ⟨rfl, rfl⟩
  by_cases e5 : i.op = 5
  · rw [execT_5 e5, execT_5 e5]; exact ⟨rfl, rfl⟩
  by_cases e6 : i.op = 6
  · rw [execT_6 e6, execT_6 e6]; exact ⟨rfl, rfl⟩
  by_cases e7 : i.op = 7
  · rw [execT_7 e7, execT_7 e7]; exact ⟨rfl, rfl⟩
  by_cases e8 : i.op = 8
  · rw [execT_8 e8, execT_8 e8]; exact ⟨rfl, rfl⟩
  by_cases e9 : i.op = 9
  · rw [execT_9 e9, execT_9 e9]; exact ⟨store_pc _ _ _ _, store_pc' _ _ _⟩
  by_cases e10 : i.op = 10
  · by_cases hw : 0 ≤ x.reg i.b ∧ x.reg i.b < (x.words.length : Int)
    · rw [execT_10t e10 hw, execT_10t (x := { x with pc := u }) e10 hw]; exact ⟨rfl, rfl⟩
    · rw [execT_10f e10 hw, execT_10f (x := { x with pc := u }) e10 hw]; exact ⟨rfl, rfl⟩
  by_cases e11 : i.op = 11
  · by_cases hw : 0 ≤ x.reg i.a ∧ x.reg i.a < (x.words.length : Int)
    · rw [execT_11t e11 hw, execT_11t (x := { x with pc := u }) e11 hw]; exact ⟨store_pc _ _ _ _, store_pc' _ _ _⟩
    · rw [execT_11f e11 hw, execT_11f (x := { x with pc := u }) e11 hw]; exact ⟨rfl, rfl⟩
  by_cases e13 : i.op = 13
  · by_cases hw : nth x.words i.a.toNat = x.reg i.b
    · rw [execT_13t e13 hw, execT_13t (x := { x with pc := u }) e13 hw]; exact ⟨rfl, rfl⟩
    · rw [execT_13f e13 hw, execT_13f (x := { x with pc := u }) e13 hw]; exact ⟨rfl, rfl⟩
  by_cases e16 : i.op = 16
  · rw [execT_16 e16, execT_16 e16]; exact ⟨rfl, rfl⟩
  by_cases e17 : i.op = 17
  · rw [execT_17 e17, execT_17 e17]; exact ⟨rfl, rfl⟩
  by_cases e18 : i.op = 18
  · by_cases hw : nth x.owner i.a.toNat ≠ n
    · rw [execT_18a e18 hw, execT_18a (x := { x with pc := u }) e18 hw]; exact ⟨rfl, rfl⟩
    · by_cases hh : ∃ j, j < x.wait.length ∧ (nth x.wait j).lock = true ∧ (nth x.wait j).wh = i.a
      · obtain ⟨j, hj, h1, h2⟩ := hh
        rw [execT_18b e18 hw j hj h1 h2, execT_18b (x := { x with pc := u }) e18 hw j hj h1 h2]; exact ⟨rfl, rfl⟩
      · rw [execT_18c e18 hw (fun q hq hc => hh ⟨q, hq, hc⟩), execT_18c (x := { x with pc := u }) e18 hw (fun q hq hc => hh ⟨q, hq, hc⟩)]; exact ⟨store_pc _ _ _ _, store_pc' _ _ _⟩
  rw [execT_no ⟨e1, e2, e3, e4, e5, e6, e7, e8, e9, e10, e11, e13, h14, h15, e16, e17, e18⟩, execT_no ⟨e1, e2, e3, e4, e5, e6, e7, e8, e9, e10, e11, e13, h14, h15, e16, e17, e18⟩]
  exact ⟨rfl, rfl⟩
section
variable {p q : Pg} {m m' : Int}
theorem sim_outs (Rel : MSt → MSt → Prop) (h0 : ∃ s', Reach q m' s' ∧ Rel (begin_ p) s')
    (hstep : ∀ s s' t k, Reach p m s → Reach q m' s' → Rel s s' → t < p.code.length → mvOK m (nth p.code t) (s.view t) k = true → if (stepT p m s t k).fell = true then Outs q m' ⟨1, [], (stepT p m s t k).prints⟩ else ∃ s2, Reach q m' s2 ∧ Rel (s.putT t (stepT p m s t k)) s2)
    (hdone : ∀ s s', Reach p m s → Reach q m' s' → Rel s s' → ended p s = true → Outs q m' ⟨0, s.words, s.prints⟩)
    (hstuck : ∀ s s', Reach p m s → Reach q m' s' → Rel s s' → ended p s = false → Stuck_ p m s → Outs q m' ⟨2, s.words, s.prints⟩) : ∀ o, Outs p m o → Outs q m' o := by
  have key : ∀ s, Reach p m s → ∃ s', Reach q m' s' ∧ Rel s s' := by
    intro s hs
    induction hs with
    | start => exact h0
    | step hr ht hk hf ih =>
      obtain ⟨s', h1, h2⟩ := ih
      have := hstep _ s' _ _ hr h1 h2 ht hk
      rw [if_neg (by rw [hf]; decide)] at this
      exact this
  intro o ho
  cases ho with
  | done hr he =>
    obtain ⟨s', h1, h2⟩ := key _ hr
    exact hdone _ s' hr h1 h2 he
  | stuck hr he hst =>
    obtain ⟨s', h1, h2⟩ := key _ hr
    exact hstuck _ s' hr h1 h2 he hst
  | fell hr ht hk hf =>
    obtain ⟨s', h1, h2⟩ := key _ hr
    have := hstep _ s' _ _ hr h1 h2 ht hk
    rwa [if_pos hf] at this
end
/-- Two states that are the same but for where threads stand. -/
structure RelP (n : Nat) (R : Nat → Int → Int → Prop) (s s' : MSt) : Prop where
  words : s'.words = s.words
  owner : s'.owner = s.owner
  prints : s'.prints = s.prints
  regs : ∀ t, t < n → (nth s'.ths t).regs = (nth s.ths t).regs
  wait : ∀ t, t < n → (nth s'.ths t).wait = (nth s.ths t).wait
  pc : ∀ t, t < n → R t (nth s.ths t).pc (nth s'.ths t).pc
theorem RelP.view {n : Nat} {R : Nat → Int → Int → Prop} {s s' : MSt} (h : RelP n R s s') {t : Nat} (ht : t < n) : s'.view t = { s.view t with pc := (nth s'.ths t).pc } := by
  unfold MSt.view
  simp only [h.words, h.owner, h.prints, h.regs t ht, h.wait t ht]
theorem putT_th {s : MSt} {t u : Nat} {y : TS} (h : t < s.ths.length) : nth (s.putT t y).ths u = if t = u then ⟨y.pc, y.regs, y.wait⟩ else nth s.ths u := by
  unfold MSt.putT
  simp only [nth_set0]
  by_cases e : t = u <;> simp [e, h]
  intro h2; exact absurd h (by rw [e]; omega)
theorem RelP.put {n : Nat} {R : Nat → Int → Int → Prop} {s s' : MSt} (h : RelP n R s s') {t : Nat} (hl : t < s.ths.length) (hl' : t < s'.ths.length) {y : TS} {u : Int} (hR : t < n → R t y.pc u) : RelP n R (s.putT t y) (s'.putT t { y with pc := u }) := by
  refine ⟨rfl, rfl, rfl, fun v hv => ?_, fun v hv => ?_, fun v hv => ?_⟩
  · rw [putT_th hl, putT_th hl']; split
    · rfl
    · exact h.regs v hv
  · rw [putT_th hl, putT_th hl']; split
    · rfl
    · exact h.wait v hv
  · rw [putT_th hl, putT_th hl']; split
    · rename_i e; subst e; exact hR hv
    · exact h.pc v hv
/-- One of the two goes on alone. -/
theorem RelP.left {n : Nat} {R : Nat → Int → Int → Prop} {s s' : MSt} (h : RelP n R s s') {t : Nat} (hl : t < s.ths.length) {u : Int} (hR : t < n → R t u (nth s'.ths t).pc) : RelP n R (s.putT t { s.view t with pc := u }) s' := by
  refine ⟨h.words, h.owner, h.prints, fun v hv => ?_, fun v hv => ?_, fun v hv => ?_⟩
  · rw [putT_th hl]; split
    · rename_i e; subst e; exact h.regs _ hv
    · exact h.regs v hv
  · rw [putT_th hl]; split
    · rename_i e; subst e; exact h.wait _ hv
    · exact h.wait v hv
  · rw [putT_th hl]; split
    · rename_i e; subst e; exact hR hv
    · exact h.pc v hv
theorem RelP.right {n : Nat} {R : Nat → Int → Int → Prop} {s s' : MSt} (h : RelP n R s s') {t : Nat} (hl : t < s'.ths.length) {u : Int} (hR : t < n → R t (nth s.ths t).pc u) : RelP n R s (s'.putT t { s'.view t with pc := u }) := by
  refine ⟨h.words, h.owner, h.prints, fun v hv => ?_, fun v hv => ?_, fun v hv => ?_⟩
  · rw [putT_th hl]; split
    · rename_i e; subst e; exact h.regs _ hv
    · exact h.regs v hv
  · rw [putT_th hl]; split
    · rename_i e; subst e; exact h.wait _ hv
    · exact h.wait v hv
  · rw [putT_th hl]; split
    · rename_i e; subst e; exact hR hv
    · exact h.pc v hv
theorem ended_iff {p : Pg} {s : MSt} : ended p s = true ↔ ∀ t, t < p.code.length → ¬ (nth s.ths t).pc < ((nth p.code t).length : Int) ∧ (nth s.ths t).wait.length = 0 := by
  unfold ended
  rw [List.all_eq_true]
  simp only [List.mem_range, Bool.and_eq_true, decide_eq_true_eq]
theorem ended_false {p : Pg} {s : MSt} (h : ended p s = false) : ∃ t, t < p.code.length ∧ ((nth s.ths t).pc < ((nth p.code t).length : Int) ∨ (nth s.ths t).wait.length ≠ 0) := by
  apply Classical.byContradiction
  intro hn
  have : ended p s = true := ended_iff.2 fun t ht => by
    by_cases h1 : (nth s.ths t).pc < ((nth p.code t).length : Int)
    · exact absurd ⟨t, ht, .inl h1⟩ hn
    · by_cases h2 : (nth s.ths t).wait.length = 0
      · exact ⟨h1, h2⟩
      · exact absurd ⟨t, ht, .inr h2⟩ hn
  rw [h] at this; cases this
theorem Reach.len {p : Pg} {m : Int} (hok : OkPg p) {s : MSt} (h : Reach p m s) {t : Nat} (ht : t < p.code.length) : t < s.ths.length := by rw [(h.wf hok).ths]; exact ht
theorem execT_jump {m : Int} {n : Nat} {i : Ins} {a : Int} {x : TS} (h : i.op = 14) : execT m n { i with a := a } x = { x with pc := a } := execT_14 (i := { i with a := a }) h
theorem execT_zt {m : Int} {n : Nat} {i : Ins} {b : Int} {x : TS} (h : i.op = 15) (hz : x.reg i.a = 0) : execT m n { i with b := b } x = { x with pc := b } := execT_15t (i := { i with b := b }) h hz
theorem execT_zf {m : Int} {n : Nat} {i : Ins} {b : Int} {x : TS} (h : i.op = 15) (hz : ¬ x.reg i.a = 0) : execT m n { i with b := b } x = x := execT_15f (i := { i with b := b }) h hz
theorem RelP.trans {n : Nat} {R R' R'' : Nat → Int → Int → Prop} {s s' s'' : MSt} (h : RelP n R s s') (h' : RelP n R' s' s'') (hc : ∀ t a b c, t < n → R t a b → R' t b c → R'' t a c) : RelP n R'' s s'' :=
  ⟨h'.words.trans h.words, h'.owner.trans h.owner, h'.prints.trans h.prints, fun t ht => (h'.regs t ht).trans (h.regs t ht), fun t ht => (h'.wait t ht).trans (h.wait t ht), fun t ht => hc t _ _ _ ht (h.pc t ht) (h'.pc t ht)⟩
theorem RelP.refl (n : Nat) (s : MSt) : RelP n (fun _ a b => b = a) s s := ⟨rfl, rfl, rfl, fun _ _ => rfl, fun _ _ => rfl, fun _ _ => rfl⟩
/-- One thread stands elsewhere. -/
def At1 (t : Nat) (j : Int) (u : Nat) (a b : Int) : Prop := if u = t then b = j else b = a
theorem RelP.one {n : Nat} {s : MSt} {t : Nat} {u : Int} (hl : t < s.ths.length) : RelP n (At1 t u) s (s.putT t { s.view t with pc := u }) := by
  refine ⟨rfl, rfl, rfl, fun v hv => ?_, fun v hv => ?_, fun v hv => ?_⟩
  · rw [putT_th hl]; split
    · rename_i e; subst e; rfl
    · rfl
  · rw [putT_th hl]; split
    · rename_i e; subst e; rfl
    · rfl
  · rw [putT_th hl]; unfold At1; split
    · rename_i e; subst e; rw [if_pos rfl]
    · rename_i e; rw [if_neg (fun h => e h.symm)]
theorem At1.trans {t : Nat} {i j : Int} {u : Nat} {a b c : Int} (h : At1 t i u a b) (h' : At1 t j u b c) : At1 t j u a c := by
  unfold At1 at *
  split
  · rename_i e; rw [if_pos e] at h'; exact h'
  · rename_i e; rw [if_neg e] at h h'; rw [h', h]
/-- Both have gone on, in one thread. -/
theorem RelP.both {n : Nat} {R : Nat → Int → Int → Prop} {s s' s'' : MSt} (h : RelP n R s s') {t : Nat} (hl : t < s.ths.length) {u j : Int} (h' : RelP n (At1 t j) s' s'') (hR : t < n → R t u j) : RelP n R (s.putT t { s.view t with pc := u }) s'' := by
  refine ⟨h'.words.trans h.words, h'.owner.trans h.owner, h'.prints.trans h.prints, fun v hv => ?_, fun v hv => ?_, fun v hv => ?_⟩
  · rw [h'.regs v hv, h.regs v hv, putT_th hl]; split
    · rename_i e; subst e; rfl
    · rfl
  · rw [h'.wait v hv, h.wait v hv, putT_th hl]; split
    · rename_i e; subst e; rfl
    · rfl
  · rw [putT_th hl]
    have h1 := h'.pc v hv
    unfold At1 at h1
    by_cases e : t = v
    · subst e
      rw [if_pos rfl] at h1
      rw [if_pos rfl, h1]
      exact hR hv
    · rw [if_neg (fun h => e h.symm)] at h1
      rw [if_neg e, h1]
      exact h.pc v hv
/-- The order that a thread does next, in the terms of its place. -/
theorem stepT_e {p : Pg} {m : Int} {s : MSt} {t : Nat} : stepT p m s t 0 = execT m t (nextIns (nth p.code t) (s.view t).pc) { s.view t with pc := (s.view t).pc + 1 } := doT_0 rfl
/-! ### Orders made anew -/
theorem moved_upto (B : Nat → Ins → List Ins) (code : List Ins) : ∀ n, n ≤ code.length → ((List.range n).flatMap fun i => (B i (nth code i)).map (fixMv (becL B code) code i)).length = placeL (becL B code) n ∧
    ∀ i k, i < n → k < (B i (nth code i)).length → nth ((List.range n).flatMap fun i => (B i (nth code i)).map (fixMv (becL B code) code i)) (placeL (becL B code) i + k) = fixMv (becL B code) code i (nth (B i (nth code i)) k) ∧ placeL (becL B code) i + k < placeL (becL B code) n
  | 0, _ => ⟨by simp [placeL], fun i k hi => absurd hi (by omega)⟩
  | n + 1, h => by
    obtain ⟨h1, h2⟩ := moved_upto B code n (by omega)
    have hp : placeL (becL B code) (n + 1) = placeL (becL B code) n + (B n (nth code n)).length := by
      rw [placeL_succ _ _ (by rw [becL_len]; omega), becL_nth _ _ _ (by omega)]
    rw [List.range_succ, List.flatMap_append, List.flatMap_cons, List.flatMap_nil, List.append_nil]
    refine ⟨by rw [List.length_append, h1, hp, List.length_map], fun i k hi hk => ?_⟩
    rcases Nat.lt_or_ge i n with hlt | hge
    · obtain ⟨e1, e2⟩ := h2 i k hlt hk
      exact ⟨by rw [nth_app0, if_pos (by rw [h1]; exact e2)]; exact e1, by omega⟩
    · obtain rfl : i = n := by omega
      refine ⟨?_, by omega⟩
      rw [nth_app0, if_neg (by rw [h1]; omega), h1, Nat.add_sub_cancel_left, nth_map' _ _ _ hk]
theorem moved_len (B : Nat → Ins → List Ins) (code : List Ins) : (movedL B code).length = placeL (becL B code) code.length := (moved_upto B code _ (Nat.le_refl _)).1
theorem moved_at (B : Nat → Ins → List Ins) (code : List Ins) {i k : Nat} (hi : i < code.length) (hk : k < (B i (nth code i)).length) : nth (movedL B code) (placeL (becL B code) i + k) = fixMv (becL B code) code i (nth (B i (nth code i)) k) ∧ placeL (becL B code) i + k < (movedL B code).length := by
  rw [moved_len]; exact (moved_upto B code _ (Nat.le_refl _)).2 i k hi hk
theorem place_succ (B : Nat → Ins → List Ins) (code : List Ins) {i : Nat} (hi : i < code.length) : placeL (becL B code) (i + 1) = placeL (becL B code) i + (B i (nth code i)).length := by
  rw [placeL_succ _ _ (by rw [becL_len]; exact hi), becL_nth _ _ _ hi]
theorem place_mono (B : Nat → Ins → List Ins) (code : List Ins) {i j : Nat} (hij : i ≤ j) (hj : j ≤ code.length) : placeL (becL B code) i ≤ placeL (becL B code) j := by
  induction j with
  | zero => exact (show i = 0 by omega) ▸ Nat.le_refl _
  | succ j ih =>
    rcases Nat.eq_or_lt_of_le hij with e | h
    · rw [e]; exact Nat.le_refl _
    · have := ih (by omega) (by omega)
      rw [place_succ B code (by omega)]; omega
end Go.Proofs.Ytmgikmjmdppfmaa
