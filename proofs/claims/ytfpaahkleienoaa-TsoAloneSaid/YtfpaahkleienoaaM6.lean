/-
  A thread alone: its stores wait, or they do not. Plain Lean.
-/
import Derived.Test.YtfpaahkleienoaaM2
section
namespace Go.Proofs.Ytfpaahkleienoaa
open Go.RowKit
set_option linter.unusedSimpArgs false
set_option linter.unusedVariables false

section
variable {p : Pg} {m : Int} {script : List Int} {nx nx' l : Nat}
theorem pick_one (h : l ≤ 1) (script : List Int) (nx : Nat) : pickM script nx l = 0 := by unfold pickM; rw [if_neg (by omega)]
end
end Go.Proofs.Ytfpaahkleienoaa
end
namespace Go.Proofs.Ytfpaahkleienoaa
open Go.RowKit
set_option linter.unusedSimpArgs false
set_option linter.unusedVariables false

/-- Words, when all that waits has been done; locks. -/
def apW : List Wt → List Int → List Int
  | [], w => w
  | a :: r, w => apW r (if a.lock = true then w else w.set a.wh.toNat a.what)
def apO : List Wt → List Int → List Int
  | [], o => o
  | a :: r, o => apO r (if a.lock = true then o.set a.wh.toNat (-1) else o)
theorem apW_snoc (b : Wt) : ∀ (l : List Wt) (w : List Int), apW (l ++ [b]) w = if b.lock = true then apW l w else (apW l w).set b.wh.toNat b.what
  | [], w => rfl
  | a :: r, w => apW_snoc b r _
theorem apO_snoc (b : Wt) : ∀ (l : List Wt) (o : List Int), apO (l ++ [b]) o = if b.lock = true then (apO l o).set b.wh.toNat (-1) else apO l o
  | [], o => rfl
  | a :: r, o => apO_snoc b r _
theorem apW_len : ∀ (l : List Wt) (w : List Int), (apW l w).length = w.length
  | [], w => rfl
  | a :: r, w => by rw [apW, apW_len r]; split <;> simp
theorem find_ap : ∀ (l : List Wt) (words : List Int) (w : Int), (∀ a ∈ l, a.lock = false → 0 ≤ a.wh) → 0 ≤ w → w < (words.length : Int) → findsL l words w = nth (apW l words) w.toNat
  | [], words, w, _, _, _ => rfl
  | a :: r, words, w, h, h0, h1 => by
    have ih := find_ap r (if a.lock = true then words else words.set a.wh.toNat a.what) w (fun x hx => h x (List.mem_cons_of_mem _ hx)) h0 (by split <;> simpa using h1)
    rw [apW, ← ih]
    unfold findsL
    rw [List.reverse_cons, List.find?_append]
    cases hf : r.reverse.find? (fun x => !x.lock && decide (x.wh = w)) with
    | some x => rfl
    | none =>
      simp only [Option.none_or, List.find?_cons, List.find?_nil]
      cases hl : a.lock
      · have ha := h a (List.mem_cons_self ..) hl
        by_cases he : a.wh = w
        · rw [decide_eq_true he]
          simp only [Bool.not_false, Bool.and_self]
          rw [if_neg (by decide), nth_set, if_pos ⟨by rw [he], by omega⟩]
        · rw [decide_eq_false he]
          simp only [Bool.not_false, Bool.and_false]
          rw [if_neg (by decide), nth_set, if_neg (fun hh => he (by omega))]
      · simp
theorem own_ap : ∀ (l : List Wt) (o : List Int) (a : Int), (∀ x ∈ l, x.lock = true → 0 ≤ x.wh) → 0 ≤ a → a < (o.length : Int) → nth (apO l o) a.toNat = if (l.any fun w => w.lock && decide (w.wh = a)) = true then -1 else nth o a.toNat
  | [], o, a, _, _, _ => rfl
  | x :: r, o, a, h, h0, h1 => by
    rw [apO, own_ap r _ a (fun y hy => h y (List.mem_cons_of_mem _ hy)) h0 (by split <;> simpa using h1), List.any_cons]
    cases hr : r.any fun w => w.lock && decide (w.wh = a)
    · rw [if_neg (by decide), Bool.or_false]
      cases hl : x.lock
      · rw [if_neg (by decide), Bool.false_and, if_neg (by decide)]
      · have hx := h x (List.mem_cons_self ..) hl
        rw [if_pos rfl, Bool.true_and]
        by_cases he : x.wh = a
        · rw [nth_set, if_pos ⟨by rw [he], by omega⟩, if_pos (decide_eq_true he)]
        · rw [nth_set, if_neg (fun hh => he (by omega)), if_neg (by rw [decide_eq_false he]; decide)]
    · rw [if_pos rfl, Bool.or_true, if_pos rfl]
/-- A thread whose stores wait, and one whose stores do not. -/
structure AloneR (x y : TS) : Prop where
  pc : y.pc = x.pc
  regs : y.regs = x.regs
  wait : y.wait = []
  words : y.words = apW x.wait x.words
  owner : y.owner = apO x.wait x.owner
  prints : y.prints = x.prints
  fell : y.fell = x.fell
section
variable {x y : TS} {n : Nat} {i : Ins} {R W L C : Nat}
theorem AloneR.reg (h : AloneR x y) (k : Int) : y.reg k = x.reg k := by unfold TS.reg; rw [h.regs]
theorem AloneR.put (h : AloneR x y) (k v : Int) : AloneR (x.put k v) (y.put k v) := ⟨h.pc, by show y.regs.set _ _ = x.regs.set _ _; rw [h.regs], h.wait, h.words, h.owner, h.prints, h.fell⟩
theorem AloneR.fall (h : AloneR x y) : AloneR { x with fell := true } { y with fell := true } := ⟨h.pc, h.regs, h.wait, h.words, h.owner, h.prints, rfl⟩
theorem AloneR.store (h : AloneR x y) (w : Wt) : AloneR (x.store 1 w) (y.store 0 w) := by
  unfold TS.store
  rw [if_pos (by decide), if_neg (by decide)]
  refine ⟨h.pc, h.regs, h.wait, ?_, ?_, h.prints, h.fell⟩
  · show (if w.lock = true then y.words else y.words.set w.wh.toNat w.what) = apW (x.wait ++ [w]) x.words
    rw [apW_snoc, h.words]
  · show (if w.lock = true then y.owner.set w.wh.toNat (-1) else y.owner) = apO (x.wait ++ [w]) x.owner
    rw [apO_snoc, h.owner]
theorem AloneR.finds (h : AloneR x y) (hw : WfS R W L C x) {a : Int} (h0 : 0 ≤ a) (h1 : a < (W : Int)) : y.finds a = x.finds a := by
  unfold TS.finds
  rw [h.wait, find_ap x.wait x.words a (fun w hx hl => by have := hw.wt w hx; rw [if_neg (by rw [hl]; decide)] at this; exact this.1) h0 (by rw [hw.words]; exact h1), ← h.words]
  rfl
theorem AloneR.wlen (h : AloneR x y) : y.words.length = x.words.length := by rw [h.words, apW_len]
theorem AloneR.able (h : AloneR x y) {c : List Ins} (ha : ableV c x = true) : ableV c y = true := by
  unfold ableV at ha ⊢
  rw [h.pc, h.wait]
  simp only [Bool.and_eq_true, decide_eq_true_eq] at ha ⊢
  refine ⟨ha.1, ?_⟩
  have h2 := ha.2
  unfold ableL at h2 ⊢
  by_cases e1 : (nextIns c x.pc).op = 9 ∨ (nextIns c x.pc).op = 11 ∨ (nextIns c x.pc).op = 18
  · rw [if_pos e1]; rfl
  rw [if_neg e1] at h2 ⊢
  by_cases e2 : (nextIns c x.pc).op = 12 ∨ (nextIns c x.pc).op = 13
  · rw [if_pos e2]; rfl
  rw [if_neg e2] at h2 ⊢
  by_cases e3 : (nextIns c x.pc).op = 17
  · rw [if_pos e3] at h2 ⊢
    simp only [Bool.and_eq_true, decide_eq_true_eq] at h2
    have hw : x.wait = [] := List.length_eq_zero_iff.1 h2.1
    rw [h.owner, hw]
    simp [apO, h2.2]
  · rw [if_neg e3]
theorem AloneR.exec (h : AloneR x y) (hw : WfS R W L C x) (hR : InsR R W L i) (ha : ableL x.owner x.wait.length i = true) : AloneR (execT 1 n i x) (execT 0 n i y) := by
  by_cases e1 : i.op = 1
  · rw [execT_1 e1, execT_1 e1]; exact h.put _ _
  by_cases e2 : i.op = 2
  · rw [execT_2 e2, execT_2 e2, h.reg]; exact h.put _ _
  by_cases e3 : i.op = 3
  · rw [execT_3 e3, execT_3 e3, h.reg, h.reg]; exact h.put _ _
  by_cases e4 : i.op = 4
  · rw [execT_4 e4, execT_4 e4, h.reg, h.reg]; exact h.put _ _
  by_cases e5 : i.op = 5
  · rw [execT_5 e5, execT_5 e5, h.reg, h.reg]; exact h.put _ _
  by_cases e6 : i.op = 6
  · rw [execT_6 e6, execT_6 e6, h.reg, h.reg]; exact h.put _ _
  by_cases e7 : i.op = 7
  · rw [execT_7 e7, execT_7 e7, h.reg, h.reg]; exact h.put _ _
  by_cases e8 : i.op = 8
  · have q := hR.o8 e8
    rw [execT_8 e8, execT_8 e8, h.finds hw q.2.1 q.2.2]; exact h.put _ _
  by_cases e9 : i.op = 9
  · rw [execT_9 e9, execT_9 e9, h.reg]; exact h.store _
  by_cases e10 : i.op = 10
  · by_cases hb : 0 ≤ x.reg i.b ∧ x.reg i.b < (x.words.length : Int)
    · rw [execT_10t e10 hb, execT_10t e10 (by rw [h.reg, h.wlen]; exact hb), h.reg, h.finds hw hb.1 (by rw [← hw.words]; exact hb.2)]; exact h.put _ _
    · rw [execT_10f e10 hb, execT_10f e10 (by rw [h.reg, h.wlen]; exact hb)]; exact h.fall
  by_cases e11 : i.op = 11
  · by_cases hb : 0 ≤ x.reg i.a ∧ x.reg i.a < (x.words.length : Int)
    · rw [execT_11t e11 hb, execT_11t e11 (by rw [h.reg, h.wlen]; exact hb), h.reg, h.reg]; exact h.store _
    · rw [execT_11f e11 hb, execT_11f e11 (by rw [h.reg, h.wlen]; exact hb)]; exact h.fall
  by_cases e13 : i.op = 13
  · have hz : x.wait = [] := by
      unfold ableL at ha
      rw [if_neg (by omega), if_pos (.inr e13)] at ha
      exact List.length_eq_zero_iff.1 (of_decide_eq_true ha)
    have hwd : y.words = x.words := by rw [h.words, hz]; rfl
    by_cases hb : nth x.words i.a.toNat = x.reg i.b
    · rw [execT_13t e13 hb, execT_13t e13 (by rw [hwd, h.reg]; exact hb), h.reg]
      exact ⟨h.pc, by show y.regs.set _ _ = x.regs.set _ _; rw [h.regs], h.wait, by show y.words.set _ _ = apW x.wait (x.words.set _ _); rw [hz, hwd]; rfl, h.owner, h.prints, h.fell⟩
    · rw [execT_13f e13 hb, execT_13f e13 (by rw [hwd, h.reg]; exact hb)]; exact h.put _ _
  by_cases e14 : i.op = 14
  · rw [execT_14 e14, execT_14 e14]; exact ⟨rfl, h.regs, h.wait, h.words, h.owner, h.prints, h.fell⟩
  by_cases e15 : i.op = 15
  · by_cases hb : x.reg i.a = 0
    · rw [execT_15t e15 hb, execT_15t e15 (by rw [h.reg]; exact hb)]; exact ⟨rfl, h.regs, h.wait, h.words, h.owner, h.prints, h.fell⟩
    · rw [execT_15f e15 hb, execT_15f e15 (by rw [h.reg]; exact hb)]; exact h
  by_cases e16 : i.op = 16
  · rw [execT_16 e16, execT_16 e16, h.reg]; exact ⟨h.pc, h.regs, h.wait, h.words, h.owner, by show y.prints ++ _ = x.prints ++ _; rw [h.prints], h.fell⟩
  by_cases e17 : i.op = 17
  · have hz : x.wait = [] := by
      unfold ableL at ha
      rw [if_neg (by omega), if_neg (by omega), if_pos e17] at ha
      simp only [Bool.and_eq_true, decide_eq_true_eq] at ha
      exact List.length_eq_zero_iff.1 ha.1
    have hod : y.owner = x.owner := by rw [h.owner, hz]; rfl
    rw [execT_17 e17, execT_17 e17]
    exact ⟨h.pc, h.regs, h.wait, h.words, by show y.owner.set _ _ = apO x.wait (x.owner.set _ _); rw [hz, hod]; rfl, h.prints, h.fell⟩
  by_cases e18 : i.op = 18
  · have q := hR.o17 (.inr e18)
    have ho := own_ap x.wait x.owner i.a (fun w hx hl => by have := hw.wt w hx; rw [if_pos hl] at this; exact this.1) q.1 (by rw [hw.owner]; exact q.2)
    rw [← h.owner] at ho
    have hyn : ∀ q : Nat, q < y.wait.length → ¬ ((nth y.wait q).lock = true ∧ (nth y.wait q).wh = i.a) := fun q hq => by rw [h.wait] at hq; cases hq
    by_cases hh : ∃ j, j < x.wait.length ∧ (nth x.wait j).lock = true ∧ (nth x.wait j).wh = i.a
    · have hany : (x.wait.any fun w => w.lock && decide (w.wh = i.a)) = true := by
        obtain ⟨j, hj, h1, h2⟩ := hh
        exact List.any_eq_true.2 ⟨_, nth_mem _ _ hj, by rw [h1, decide_eq_true h2]; rfl⟩
      rw [if_pos hany] at ho
      rw [execT_18a (x := y) e18 (by rw [ho]; omega)]
      by_cases hb : nth x.owner i.a.toNat ≠ n
      · rw [execT_18a e18 hb]; exact h.fall
      · obtain ⟨j, hj, h1, h2⟩ := hh
        rw [execT_18b e18 hb j hj h1 h2]; exact h.fall
    · have hany : ¬ (x.wait.any fun w => w.lock && decide (w.wh = i.a)) = true := by
        intro hc
        obtain ⟨w, hx, hc⟩ := List.any_eq_true.1 hc
        obtain ⟨j, hj, rfl⟩ := List.mem_iff_getElem.1 hx
        simp only [Bool.and_eq_true, decide_eq_true_eq] at hc
        exact hh ⟨j, hj, by rw [nth_lt _ _ hj]; exact hc.1, by rw [nth_lt _ _ hj]; exact hc.2⟩
      rw [if_neg hany] at ho
      by_cases hb : nth x.owner i.a.toNat ≠ n
      · rw [execT_18a e18 hb, execT_18a (x := y) e18 (by rw [ho]; exact hb)]; exact h.fall
      · rw [execT_18c e18 hb (fun q hq hc => hh ⟨q, hq, hc⟩), execT_18c (x := y) e18 (by rw [ho]; exact hb) hyn]; exact h.store _
  have hno := And.intro e1 (And.intro e2 (And.intro e3 (And.intro e4 (And.intro e5 (And.intro e6 (And.intro e7 (And.intro e8 (And.intro e9 (And.intro e10 (And.intro e11 (And.intro e13 (And.intro e14 (And.intro e15 (And.intro e16 (And.intro e17 e18)))))))))))))))
  rw [execT_no hno, execT_no hno]
  exact h
end
section
variable {p : Pg} {s s' : MSt}
theorem moves1 (h1 : p.code.length = 1) (m : Int) (s : MSt) : moves p m s = mvs m (nth p.code 0) 0 (s.view 0) := by
  unfold moves
  rw [h1]
  show List.flatMap _ [0] = _
  rw [List.flatMap_cons, List.flatMap_nil, List.append_nil]
theorem ended1 (h1 : p.code.length = 1) (s : MSt) : ended p s = true ↔ ¬ (s.view 0).pc < ((nth p.code 0).length : Int) ∧ (s.view 0).wait = [] := by
  rw [show ended p s = (decide (¬ (nth s.ths 0).pc < ((nth p.code 0).length : Int)) && decide ((nth s.ths 0).wait.length = 0)) by unfold ended; rw [h1]; simp [List.range_succ]]
  simp only [Bool.and_eq_true, decide_eq_true_eq, List.length_eq_zero_iff]
  rfl
theorem mvs_none {m : Int} {c : List Ins} {x : TS} (h : (mvs m c 0 x).length = 0) : ableV c x = false ∧ x.wait = [] := by
  unfold mvs at h
  rw [List.length_append, List.length_map] at h
  constructor
  · cases ha : ableV c x
    · rfl
    · rw [ha] at h; simp at h
  · rcases hw : x.wait with _ | ⟨a, r⟩
    · rfl
    · exfalso
      have h2 : ((List.range x.wait.length).filter (mayK m x.wait)).length = 0 := by omega
      have h3 := List.length_eq_zero_iff.1 h2
      have : 0 ∈ (List.range x.wait.length).filter (mayK m x.wait) := List.mem_filter.2 ⟨List.mem_range.2 (by rw [hw]; simp), by simp [mayK]⟩
      rw [h3] at this
      cases this
theorem mvs_sc {c : List Ins} {y : TS} (h : y.wait = []) : mvs 0 c 0 y = if ableV c y = true then [0] else [] := by
  unfold mvs
  rw [h]
  cases ableV c y <;> rfl
theorem alone_go (hok : OkPg p) (h1 : p.code.length = 1) (script : List Int) : ∀ (n nx : Nat) (s : MSt) (k n' nx' : Nat) (s' : MSt) (k' : Nat), Wf p s → s'.ths.length = 1 → AloneR (s.view 0) (s'.view 0) → (goM p 1 script n nx s k).st ≠ 3 → (goM p 0 [] n' nx' s' k').st ≠ 3 →
    (goM p 1 script n nx s k).st = (goM p 0 [] n' nx' s' k').st ∧ (goM p 1 script n nx s k).prints = (goM p 0 [] n' nx' s' k').prints ∧ ((goM p 1 script n nx s k).words = (goM p 0 [] n' nx' s' k').words ∨ (goM p 1 script n nx s k).st = 1) := by
  intro n
  induction n with
  | zero =>
    intro nx s k n' nx' s' k' hwf hl' hr hT hU
    by_cases he : ended p s = true
    · have h2 := (ended1 h1 s).1 he
      have he' : ended p s' = true := (ended1 h1 s').2 ⟨by rw [hr.pc]; exact h2.1, hr.wait⟩
      have hw : s'.words = s.words := by have := hr.words; rw [h2.2] at this; exact this
      have eU : goM p 0 [] n' nx' s' k' = ⟨0, k', s'.words, s'.prints⟩ := by cases n' <;> rw [goM, if_pos he']
      rw [eU, goM, if_pos he]
      exact ⟨rfl, hr.prints.symm, .inl hw.symm⟩
    · by_cases hl : (moves p 1 s).length = 0
      · have h2 := mvs_none (by rw [← moves1 h1]; exact hl)
        have hpc : (s'.view 0).pc = (s.view 0).pc := hr.pc
        have he' : ¬ ended p s' = true := fun hh => he ((ended1 h1 s).2 ⟨by rw [← hpc]; exact ((ended1 h1 s').1 hh).1, h2.2⟩)
        have hab : ableV (nth p.code 0) (s'.view 0) = false := by
          rw [← h2.1]; unfold ableV; rw [hr.pc, hr.wait, hr.owner, h2.2]; rfl
        have hm' : (moves p 0 s').length = 0 := by rw [moves1 h1, mvs_sc hr.wait, hab]; rfl
        have hw : s'.words = s.words := by have := hr.words; rw [h2.2] at this; exact this
        have eU : goM p 0 [] n' nx' s' k' = ⟨2, k', s'.words, s'.prints⟩ := by cases n' <;> rw [goM, if_neg he', if_pos hm']
        rw [eU, goM, if_neg he, if_pos hl]
        exact ⟨rfl, hr.prints.symm, .inl hw.symm⟩
      · exfalso
        rw [goM, if_neg he, if_neg hl] at hT
        exact hT rfl
  | succ n ih =>
    intro nx s k n' nx' s' k' hwf hl' hr hT hU
    by_cases he : ended p s = true
    · have h2 := (ended1 h1 s).1 he
      have he' : ended p s' = true := (ended1 h1 s').2 ⟨by rw [hr.pc]; exact h2.1, hr.wait⟩
      have hw : s'.words = s.words := by have := hr.words; rw [h2.2] at this; exact this
      have eU : goM p 0 [] n' nx' s' k' = ⟨0, k', s'.words, s'.prints⟩ := by cases n' <;> rw [goM, if_pos he']
      rw [eU, goM, if_pos he]
      exact ⟨rfl, hr.prints.symm, .inl hw.symm⟩
    · by_cases hl : (moves p 1 s).length = 0
      · have h2 := mvs_none (by rw [← moves1 h1]; exact hl)
        have hpc : (s'.view 0).pc = (s.view 0).pc := hr.pc
        have he' : ¬ ended p s' = true := fun hh => he ((ended1 h1 s).2 ⟨by rw [← hpc]; exact ((ended1 h1 s').1 hh).1, h2.2⟩)
        have hab : ableV (nth p.code 0) (s'.view 0) = false := by
          rw [← h2.1]; unfold ableV; rw [hr.pc, hr.wait, hr.owner, h2.2]; rfl
        have hm' : (moves p 0 s').length = 0 := by rw [moves1 h1, mvs_sc hr.wait, hab]; rfl
        have hw : s'.words = s.words := by have := hr.words; rw [h2.2] at this; exact this
        have eU : goM p 0 [] n' nx' s' k' = ⟨2, k', s'.words, s'.prints⟩ := by cases n' <;> rw [goM, if_neg he', if_pos hm']
        rw [eU, goM, if_neg he, if_pos hl]
        exact ⟨rfl, hr.prints.symm, .inl hw.symm⟩
      · obtain ⟨t, j, ht, hk, _, hmv⟩ := mv_at (script := script) (nx := nx) hl
        obtain rfl : t = 0 := by omega
        have hx := hwf.th 0 ht
        have hj := mvOK_le hk hx.wait
        have e1 : mvM p 1 s script nx / 8 = 0 := by omega
        have e2 : mvM p 1 s script nx % 8 = j := by omega
        rw [goM, if_neg he, if_neg hl, e1, e2] at hT ⊢
        have hths : 0 < s.ths.length := by rw [hwf.ths]; exact ht
        have hwf2 : Wf p (s.putT 0 (stepT p 1 s 0 j)) := hwf.step hok ht hk
        rcases mvOK_k hk with ⟨rfl, hpc, hab⟩ | ⟨hj1, hj2, hj3⟩
        · have hav : ableV (nth p.code 0) (s.view 0) = true := by unfold ableV; rw [hab, decide_eq_true hpc]; rfl
          have hav' := hr.able hav
          have he' : ¬ ended p s' = true := fun hh => ((ended1 h1 s').1 hh).1 (by rw [hr.pc]; exact hpc)
          have hms : moves p 0 s' = [0] := by rw [moves1 h1, mvs_sc hr.wait, if_pos hav']
          have hml : ¬ (moves p 0 s').length = 0 := by rw [hms]; decide
          have hmv' : mvM p 0 s' [] nx' = 0 := by unfold mvM; rw [hms, pick_one (by decide)]; rfl
          cases n' with
          | zero => exfalso; rw [goM, if_neg he', if_neg hml] at hU; exact hU rfl
          | succ n' =>
            rw [goM, if_neg he', if_neg hml, hmv'] at hU ⊢
            have hni : nextIns (nth p.code 0) (s.view 0).pc = nth (nth p.code 0) (s.view 0).pc.toNat := nextIns_t hpc
            have hpc0 := hx.pc
            have hR := (hok.insR ht (i := (s.view 0).pc.toNat) (by omega)).1
            have hrx : AloneR { s.view 0 with pc := (s.view 0).pc + 1 } { s'.view 0 with pc := (s'.view 0).pc + 1 } := ⟨by show (s'.view 0).pc + 1 = (s.view 0).pc + 1; rw [hr.pc], hr.regs, hr.wait, hr.words, hr.owner, hr.prints, hr.fell⟩
            have hwx : WfS p.regs.toNat p.words.length p.locks.toNat ((nth p.code 0).length + 1) { s.view 0 with pc := (s.view 0).pc + 1 } := ⟨⟨by show 0 ≤ (s.view 0).pc + 1; omega, by show (s.view 0).pc + 1 ≤ _; omega⟩, hx.regs, hx.wait, hx.wt, hx.words, hx.owner⟩
            have hst : AloneR (stepT p 1 s 0 0) (stepT p 0 s' 0 0) := by
              have := AloneR.exec (n := 0) (i := nextIns (nth p.code 0) (s.view 0).pc) hrx hwx (by rw [hni]; exact hR) hab
              unfold stepT doT
              rw [if_neg (by decide), if_neg (by decide), hr.pc]
              rw [hr.pc] at this
              exact this
            by_cases hf : (stepT p 1 s 0 0).fell = true
            · rw [if_pos hf, if_pos (hst.fell.trans hf)]
              exact ⟨rfl, hst.prints.symm, .inr rfl⟩
            · rw [if_neg hf] at hT ⊢
              rw [if_neg (fun hh => hf (hst.fell.symm.trans hh))] at hU ⊢
              refine ih _ _ _ _ _ _ _ hwf2 (by simpa [MSt.putT] using hl') ?_ hT hU
              rw [putT_view hths, show (s'.putT (0 / 8) (stepT p 0 s' (0 / 8) (0 % 8))).view 0 = { stepT p 0 s' 0 0 with fell := false } from putT_view (by omega)]
              exact ⟨hst.pc, hst.regs, hst.wait, hst.words, hst.owner, hst.prints, rfl⟩
        · have hj0 : j = 1 := by
            unfold mayK at hj3
            simp at hj3
            omega
          subst hj0
          have hnf : ¬ (stepT p 1 s 0 1).fell = true := by
            unfold stepT doT
            rw [if_pos (by decide)]
            show ¬ (false : Bool) = true
            decide
          rw [if_neg hnf] at hT ⊢
          refine ih _ _ _ _ _ _ _ hwf2 hl' ?_ hT hU
          rw [putT_view hths]
          rcases hw : (s.view 0).wait with _ | ⟨a, r⟩
          · rw [hw] at hj2; simp at hj2
          · have est : stepT p 1 s 0 1 = { (s.view 0).done a with wait := r } := by
              unfold stepT doT
              rw [if_pos (by decide), hw]
              rfl
            rw [est]
            refine ⟨hr.pc, hr.regs, hr.wait, ?_, ?_, hr.prints, rfl⟩
            · have := hr.words; rw [hw] at this; exact this
            · have := hr.owner; rw [hw] at this; exact this
theorem runM_alone (hok : OkPg p) (h1 : p.code.length = 1) (script : List Int) (hT : (runM p 1 script).st ≠ 3) (hU : (runM p 0 []).st ≠ 3) :
    (runM p 1 script).st = (runM p 0 []).st ∧ (runM p 1 script).prints = (runM p 0 []).prints ∧ ((runM p 1 script).words = (runM p 0 []).words ∨ (runM p 1 script).st = 1) := by
  have e : nth (begin_ p).ths 0 = ⟨0, List.replicate p.regs.toNat 0, []⟩ := nth_map' _ _ _ (by omega)
  refine alone_go hok h1 script 5000 0 (begin_ p) 0 5000 0 (begin_ p) 0 (Wf.begin_ hok) (by unfold begin_; simpa using h1) ?_ hT hU
  have hw : ((begin_ p).view 0).wait = [] := by show (nth (begin_ p).ths 0).wait = []; rw [e]
  exact ⟨rfl, rfl, hw, by rw [hw]; rfl, by rw [hw]; rfl, rfl, rfl⟩
end
end Go.Proofs.Ytfpaahkleienoaa
