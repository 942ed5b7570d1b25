/-
  Ways made shorter lead to the same outcomes: in plain Lean.
-/
import Derived.Test.YtanhbpofhebbaaaL3
import Derived.Test.YtanhbpofhebbaaaX4
namespace Go.Proofs.Ytanhbpofhebbaaa
open Go.RowKit
set_option linter.unusedSimpArgs false
set_option linter.unusedVariables false

/-- Over jumps from one place to another. -/
inductive Flow (c : List Ins) : Nat → Nat → Prop
  | refl (i : Nat) : Flow c i i
  | step {i j : Nat} : i < c.length → (nth c i).op = 14 → Flow c (nth c i).a.toNat j → Flow c i j
theorem Flow.trans {c : List Ins} {i j k : Nat} (h : Flow c i j) (h' : Flow c j k) : Flow c i k := by
  induction h with
  | refl => exact h'
  | step h1 h2 _ ih => exact .step h1 h2 (ih h')
theorem endF_flow (c : List Ins) : ∀ (n i : Nat), Flow c i (endF c n i)
  | 0, i => .refl i
  | n + 1, i => by
    unfold endF
    split
    · rename_i h; exact .step h.1 h.2 (endF_flow c n _)
    · exact .refl i
theorem Flow.le {c : List Ins} (hj : JumpsOK c) {i j : Nat} (h : Flow c i j) (hi : i ≤ c.length) : j ≤ c.length := by
  induction h with
  | refl => exact hi
  | step h1 h2 _ ih => exact ih (by have := (hj _ h1).1 h2; omega)

section
variable (c : List Ins)
def pS (i : Nat) : Nat := placeL (becL becS (toL c)) i
def goneS (i : Nat) : Prop := (nth c i).op = 14 ∧ (endF c c.length (nth c i).a.toNat) = i + 1
end
section
variable {c : List Ins}
theorem toL_len : (toL c).length = c.length := by simp [toL]
theorem toL_at {i : Nat} (h : i < c.length) : nth (toL c) i = straightIns c (nth c i) := nth_map' _ _ _ h
theorem pS_len : (straightL c).length = pS c c.length := by
  unfold straightL
  rw [moved_len, toL_len]; rfl
theorem pS_gone {i : Nat} (h : i < c.length) (hg : goneS c i) : pS c (i + 1) = pS c i := by
  unfold pS
  rw [place_succ _ _ (by rw [toL_len]; exact h)]
  have : becS i (nth (toL c) i) = [] := by
    unfold becS
    rw [if_pos]
    rw [toL_at h]
    unfold straightIns
    rw [if_pos hg.1]
    exact ⟨hg.1, by show ((endF c c.length (nth c i).a.toNat : Nat) : Int) = _; rw [hg.2]⟩
  rw [this]; rfl
theorem becS_kept {i : Nat} (h : i < c.length) (hg : ¬ goneS c i) : becS i (nth (toL c) i) = [straightIns c (nth c i)] := by
  unfold becS
  rw [if_neg, toL_at h]
  rw [toL_at h]
  rintro ⟨h1, h2⟩
  rw [straightIns_op] at h1
  apply hg
  refine ⟨h1, ?_⟩
  unfold straightIns at h2
  rw [if_pos h1] at h2
  have h3 : ((endF c c.length (nth c i).a.toNat : Nat) : Int) = ((i + 1 : Nat) : Int) := h2
  omega
theorem pS_kept {i : Nat} (h : i < c.length) (hg : ¬ goneS c i) : pS c (i + 1) = pS c i + 1 ∧ pS c i < (straightL c).length ∧ nth (straightL c) (pS c i) = fixMv (becL becS (toL c)) (toL c) i (straightIns c (nth c i)) := by
  have hb := becS_kept h hg
  have h1 := place_succ becS (toL c) (i := i) (by rw [toL_len]; exact h)
  rw [hb] at h1
  have h2 := moved_at becS (toL c) (i := i) (k := 0) (by rw [toL_len]; exact h) (by rw [hb]; simp)
  rw [hb] at h2
  exact ⟨h1, h2.2, h2.1⟩
/-- What order stands there now. -/
theorem kept_other {i : Nat} (h : i < c.length) (h14 : (nth c i).op ≠ 14) (h15 : (nth c i).op ≠ 15) : nth (straightL c) (pS c i) = nth c i := by
  have hg : ¬ goneS c i := fun hg => h14 hg.1
  rw [(pS_kept h hg).2.2]
  have e : straightIns c (nth c i) = nth c i := by unfold straightIns; rw [if_neg h14, if_neg h15]
  rw [e]
  unfold fixMv
  rw [if_neg (fun hh => h14 hh.1), if_neg (fun hh => h15 hh.1)]
theorem kept_14 {i : Nat} (h : i < c.length) (h14 : (nth c i).op = 14) (hg : ¬ goneS c i) : nth (straightL c) (pS c i) = { nth c i with a := pS c (endF c c.length (nth c i).a.toNat) } := by
  rw [(pS_kept h hg).2.2]
  have e : straightIns c (nth c i) = { nth c i with a := endF c c.length (nth c i).a.toNat } := by unfold straightIns; rw [if_pos h14]
  have e2 : (nth (toL c) i).op = 14 := by rw [toL_at h, straightIns_op]; exact h14
  rw [e]
  unfold fixMv
  rw [if_pos ⟨h14, .inl e2⟩]; rfl
theorem kept_15 {i : Nat} (h : i < c.length) (h15 : (nth c i).op = 15) : nth (straightL c) (pS c i) = { nth c i with b := pS c (endF c c.length (nth c i).b.toNat) } := by
  have h14 : (nth c i).op ≠ 14 := by omega
  have hg : ¬ goneS c i := fun hg => h14 hg.1
  rw [(pS_kept h hg).2.2]
  have e : straightIns c (nth c i) = { nth c i with b := endF c c.length (nth c i).b.toNat } := by unfold straightIns; rw [if_neg h14, if_pos h15]
  have e2 : (nth (toL c) i).op = 15 := by rw [toL_at h, straightIns_op]; exact h15
  rw [e]
  unfold fixMv
  rw [if_neg (fun hh => h14 hh.1), if_pos ⟨h15, e2⟩]; rfl
theorem pS_le {i : Nat} (h : i ≤ c.length) : pS c i ≤ (straightL c).length := by
  rw [pS_len]
  unfold pS
  exact place_mono _ _ h (by rw [toL_len]; exact Nat.le_refl _)
end

section
variable {p q : Pg} {m : Int}
/-- The program with shorter ways. -/
def jumpPg (p : Pg) : Pg := { p with code := p.code.map straightL }
theorem jumpPg_len : (jumpPg p).code.length = p.code.length := by simp [jumpPg]
theorem jumpPg_code {t : Nat} (h : t < p.code.length) : nth (jumpPg p).code t = straightL (nth p.code t) := nth_map' _ _ _ h
theorem OkPg.jumps (hok : OkPg p) {t : Nat} (ht : t < p.code.length) : JumpsOK (nth p.code t) := fun i hi => (hok.insR ht hi).2
/-- The order that a thread does next, in the terms of its place. -/
theorem stepT_0 {s : MSt} {t : Nat} : stepT p m s t 0 = execT m t (nextIns (nth p.code t) (s.view t).pc) { s.view t with pc := (s.view t).pc + 1 } := doT_0 rfl

/-- From the old to the new. -/
def JF (p : Pg) (t : Nat) (a b : Int) : Prop := ∃ i j : Nat, a = i ∧ i ≤ (nth p.code t).length ∧ j ≤ (nth p.code t).length ∧ Flow (nth p.code t) i j ∧ b = (pS (nth p.code t) j : Int)
theorem jump_fwd (hok : OkPg p) (hq : OkPg (jumpPg p)) : ∀ o, Outs p m o → Outs (jumpPg p) m o := by
  refine sim_outs (fun s s' => RelP p.code.length (JF p) s s') ⟨_, .start, ?_⟩ ?_ ?_ ?_
  · exact begin_rel (jumpPg_len) rfl rfl rfl fun t ht => ⟨0, 0, rfl, Nat.zero_le _, Nat.zero_le _, .refl _, by simp [pS, placeL]⟩
  · intro s s' t k hr hr' hrel ht hk
    have hl := hr.len hok ht
    have hl' := hr'.len hq (by rw [jumpPg_len]; exact ht)
    have hv := hrel.view ht
    have hws := (hr.wf hok).th t ht
    by_cases hk0 : 0 < k
    · -- what waits
      obtain ⟨e1, e2, e3⟩ := doT_pos (m := m) (n := t) (c := nth p.code t) (c' := nth (jumpPg p).code t) (x := s.view t) (u := (nth s'.ths t).pc) hk0
      have hst : stepT (jumpPg p) m s' t k = { stepT p m s t k with pc := (nth s'.ths t).pc } := by unfold stepT; rw [hv]; exact e1
      have hf : (stepT p m s t k).fell = false := e3
      rw [if_neg (by rw [hf]; decide)]
      refine ⟨_, .step hr' (by rw [jumpPg_len]; exact ht) (by rw [hv, mvOK_pos hk0]; exact hk) (by rw [hst]; exact hf), ?_⟩
      rw [hst]
      exact hrel.put hl hl' fun h => by rw [show (stepT p m s t k).pc = (nth s.ths t).pc from e2]; exact hrel.pc t ht
    obtain rfl : k = 0 := by omega
    obtain ⟨i, j, hi, hil, hjl, hfl, hj⟩ := hrel.pc t ht
    rcases mvOK_k hk with ⟨_, hlt, hab⟩ | ⟨h, _⟩
    case inr => omega
    have hi' : (s.view t).pc = (i : Int) := hi
    rw [hi'] at hlt hab
    have hlt' : i < (nth p.code t).length := by omega
    have hn : nextIns (nth p.code t) (i : Int) = nth (nth p.code t) i := by rw [nextIns_t hlt]; simp
    rw [hn] at hab
    have hst := stepT_0 (p := p) (m := m) (s := s) (t := t)
    rw [hi', hn] at hst
    have hjo := hok.jumps ht
    cases hfl with
    | step h1 h2 h3 =>
      -- a jump that the other one is past
      have e : stepT p m s t 0 = { s.view t with pc := (nth (nth p.code t) i).a } := by rw [hst, execT_14 h2]
      have ha := (hjo i h1).1 h2
      rw [if_neg (by rw [e]; show ¬ ((s.view t).fell = true); exact Bool.false_ne_true)]
      refine ⟨s', hr', ?_⟩
      rw [e]
      exact hrel.left hl fun _ => ⟨(nth (nth p.code t) i).a.toNat, j, by omega, by omega, hjl, h3, hj⟩
    | refl =>
      have hcode := jumpPg_code ht
      have hj2 : (s'.view t).pc = (pS (nth p.code t) i : Int) := hj
      by_cases hg : goneS (nth p.code t) i
      · have e : stepT p m s t 0 = { s.view t with pc := (nth (nth p.code t) i).a } := by rw [hst, execT_14 hg.1]
        have ha := (hjo i hlt').1 hg.1
        rw [if_neg (by rw [e]; show ¬ ((s.view t).fell = true); exact Bool.false_ne_true)]
        refine ⟨s', hr', ?_⟩
        rw [e]
        refine hrel.left hl fun _ => ⟨(nth (nth p.code t) i).a.toNat, i + 1, by omega, by omega, by omega, ?_, by rw [pS_gone hlt' hg]; exact hj⟩
        rw [← hg.2]; exact endF_flow _ _ _
      obtain ⟨hk1, hk2, _⟩ := pS_kept hlt' hg
      have hlt2 : (s'.view t).pc < ((nth (jumpPg p).code t).length : Int) := by rw [hcode, hj2]; omega
      have hn2 : nextIns (nth (jumpPg p).code t) (s'.view t).pc = nth (straightL (nth p.code t)) (pS (nth p.code t) i) := by rw [nextIns_t hlt2, hcode, hj2]; simp
      have hown : (s'.view t).owner = (s.view t).owner := hrel.owner
      have hwl : (s'.view t).wait.length = (s.view t).wait.length := by show (nth s'.ths t).wait.length = _; rw [hrel.wait t ht]; rfl
      have hst2 := stepT_0 (p := jumpPg p) (m := m) (s := s') (t := t)
      rw [hn2, hj2] at hst2
      have htq : t < (jumpPg p).code.length := by rw [jumpPg_len]; exact ht
      by_cases h14 : (nth (nth p.code t) i).op = 14
      · have hin := kept_14 hlt' h14 hg
        rw [hin] at hst2 hn2
        have hE := endF_flow (nth p.code t) (nth p.code t).length (nth (nth p.code t) i).a.toNat
        have ha := (hjo i hlt').1 h14
        have hEl := hE.le hjo (by omega)
        have e : stepT p m s t 0 = { s.view t with pc := (nth (nth p.code t) i).a } := by rw [hst, execT_14 h14]
        have e2 : stepT (jumpPg p) m s' t 0 = { s'.view t with pc := (pS (nth p.code t) (endF (nth p.code t) (nth p.code t).length (nth (nth p.code t) i).a.toNat) : Int) } := by rw [hst2]; exact execT_jump h14
        rw [if_neg (by rw [e]; show ¬ ((s.view t).fell = true); exact Bool.false_ne_true)]
        refine ⟨_, .step hr' htq (mvOK_0 hlt2 (by rw [hn2]; unfold ableL; simp [h14])) (by rw [e2]; rfl), ?_⟩
        rw [e, e2, hv]
        have := hrel.put hl hl' (y := { s.view t with pc := (nth (nth p.code t) i).a }) (u := (pS (nth p.code t) (endF (nth p.code t) (nth p.code t).length (nth (nth p.code t) i).a.toNat) : Int)) (fun _ => show JF p t (nth (nth p.code t) i).a _ from ⟨_, _, by omega, by omega, hEl, hE, rfl⟩)
        exact this
      by_cases h15 : (nth (nth p.code t) i).op = 15
      · have hin := kept_15 hlt' h15
        rw [hin] at hst2 hn2
        have hE := endF_flow (nth p.code t) (nth p.code t).length (nth (nth p.code t) i).b.toNat
        have hb := (hjo i hlt').2 h15
        have hEl := hE.le hjo (by omega)
        have hab2 : mvOK m (nth (jumpPg p).code t) (s'.view t) 0 = true := mvOK_0 hlt2 (by rw [hn2]; unfold ableL; simp [h15])
        by_cases hz : (s.view t).reg (nth (nth p.code t) i).a = 0
        · have e : stepT p m s t 0 = { s.view t with pc := (nth (nth p.code t) i).b } := by rw [hst, execT_15t (x := { s.view t with pc := (i : Int) + 1 }) h15 hz]
          have e2 : stepT (jumpPg p) m s' t 0 = { s'.view t with pc := (pS (nth p.code t) (endF (nth p.code t) (nth p.code t).length (nth (nth p.code t) i).b.toNat) : Int) } := by rw [hst2]; exact execT_zt h15 (by rw [hv]; exact hz)
          rw [if_neg (by rw [e]; show ¬ ((s.view t).fell = true); exact Bool.false_ne_true)]
          refine ⟨_, .step hr' htq hab2 (by rw [e2]; rfl), ?_⟩
          rw [e, e2, hv]
          exact hrel.put hl hl' (y := { s.view t with pc := (nth (nth p.code t) i).b }) (u := (pS (nth p.code t) (endF (nth p.code t) (nth p.code t).length (nth (nth p.code t) i).b.toNat) : Int)) (fun _ => show JF p t (nth (nth p.code t) i).b _ from ⟨_, _, by omega, by omega, hEl, hE, rfl⟩)
        · have e : stepT p m s t 0 = { s.view t with pc := (i : Int) + 1 } := by rw [hst, execT_15f (x := { s.view t with pc := (i : Int) + 1 }) h15 hz]
          have e2 : stepT (jumpPg p) m s' t 0 = { s'.view t with pc := (pS (nth p.code t) i : Int) + 1 } := by rw [hst2]; exact execT_zf h15 (by rw [hv]; exact hz)
          rw [if_neg (by rw [e]; show ¬ ((s.view t).fell = true); exact Bool.false_ne_true)]
          refine ⟨_, .step hr' htq hab2 (by rw [e2]; rfl), ?_⟩
          rw [e, e2, hv]
          exact hrel.put hl hl' (y := { s.view t with pc := (i : Int) + 1 }) (u := (pS (nth p.code t) i : Int) + 1) (fun _ => ⟨i + 1, i + 1, by simp, by omega, by omega, .refl _, by rw [hk1]; simp⟩)
      -- the same order
      have hin := kept_other hlt' h14 h15
      rw [hin] at hst2 hn2
      obtain ⟨f1, f2⟩ := execT_pc m t (nth (nth p.code t) i) { s.view t with pc := (i : Int) + 1 } ((pS (nth p.code t) i : Int) + 1) h14 h15
      have e2 : stepT (jumpPg p) m s' t 0 = { stepT p m s t 0 with pc := (pS (nth p.code t) i : Int) + 1 } := by rw [hst2, hst, hv]; exact f1
      have f3 : (stepT p m s t 0).pc = (i : Int) + 1 := by rw [hst]; exact f2
      have hab2 : mvOK m (nth (jumpPg p).code t) (s'.view t) 0 = true := mvOK_0 hlt2 (by rw [hn2, hown, hwl]; exact hab)
      split
      · rename_i hf
        have := Outs.fell hr' htq hab2 (by rw [e2]; exact hf)
        rw [e2] at this; exact this
      · rename_i hf
        refine ⟨_, .step hr' htq hab2 (by rw [e2]; simpa using hf), ?_⟩
        rw [e2]
        exact hrel.put hl hl' fun _ => ⟨i + 1, i + 1, by rw [f3]; simp, by omega, by omega, .refl _, by rw [hk1]; simp⟩
  · intro s s' hr hr' hrel he
    have he2 := ended_iff.1 he
    have : ended (jumpPg p) s' = true := ended_iff.2 fun t ht => by
      rw [jumpPg_len] at ht
      obtain ⟨h1, h2⟩ := he2 t ht
      obtain ⟨i, j, hi, hil, hjl, hfl, hj⟩ := hrel.pc t ht
      rw [jumpPg_code ht, hrel.wait t ht]
      refine ⟨?_, h2⟩
      rw [hi] at h1
      cases hfl with
      | step h3 _ _ => omega
      | refl =>
        obtain rfl : i = (nth p.code t).length := by omega
        rw [hj, pS_len]; omega
    have h2 := Outs.done hr' this
    rw [hrel.words, hrel.prints] at h2
    exact h2
  · intro s s' hr hr' hrel he hst
    obtain ⟨t, ht, h1⟩ := ended_false he
    have key : ∀ t, t < p.code.length → ∃ i, (nth s.ths t).pc = ((i : Nat) : Int) ∧ i ≤ (nth p.code t).length ∧ (nth s'.ths t).pc = (pS (nth p.code t) i : Int) ∧ (i < (nth p.code t).length → (nth (nth p.code t) i).op ≠ 14) := by
      intro t ht
      obtain ⟨i, j, hi, hil, hjl, hfl, hj⟩ := hrel.pc t ht
      have hno : i < (nth p.code t).length → (nth (nth p.code t) i).op ≠ 14 := by
        intro hlt h14
        have h0 := hst t 0 ht
        have : mvOK m (nth p.code t) (s.view t) 0 = true := mvOK_0 (by show (nth s.ths t).pc < _; rw [hi]; omega) (by show ableL _ _ (nextIns _ (nth s.ths t).pc) = true; rw [hi, nextIns_t (by omega)]; unfold ableL; simp [h14])
        rw [this] at h0; cases h0
      cases hfl with
      | step h3 h4 _ => exact absurd h4 (hno h3)
      | refl => exact ⟨i, hi, hil, hj, hno⟩
    have hstq : Stuck_ (jumpPg p) m s' := by
      intro u k hu
      rw [jumpPg_len] at hu
      rw [jumpPg_code hu, hrel.view hu]
      obtain ⟨i, hi, hil, hj, hno⟩ := key u hu
      by_cases hk0 : 0 < k
      · rw [mvOK_pos (c := nth p.code u) hk0]; exact hst u k hu
      obtain rfl : k = 0 := by omega
      have h0 := hst u 0 hu
      cases hc : mvOK m (straightL (nth p.code u)) { s.view u with pc := (nth s'.ths u).pc } 0 with
      | false => rfl
      | true =>
        rcases mvOK_k hc with ⟨_, h3, h4⟩ | ⟨h3, _⟩
        case inr => omega
        have h3' : (pS (nth p.code u) i : Int) < ((straightL (nth p.code u)).length : Int) := by rw [← hj]; exact h3
        have hlt : i < (nth p.code u).length := by
          rcases Nat.lt_or_ge i (nth p.code u).length with h | h
          · exact h
          · obtain rfl : i = (nth p.code u).length := by omega
            rw [pS_len] at h3'; omega
        have h14 := hno hlt
        have h5 : nextIns (straightL (nth p.code u)) (nth s'.ths u).pc = nth (straightL (nth p.code u)) (pS (nth p.code u) i) := by rw [hj, nextIns_t h3']; simp
        have h4' : ableL (s.view u).owner (s.view u).wait.length (nth (straightL (nth p.code u)) (pS (nth p.code u) i)) = true := by rw [← h5]; exact h4
        have h6 : ableL (s.view u).owner (s.view u).wait.length (nth (nth p.code u) i) = true := by
          by_cases h15 : (nth (nth p.code u) i).op = 15
          · unfold ableL; simp [h15]
          · rw [kept_other hlt h14 h15] at h4'; exact h4'
        have : mvOK m (nth p.code u) (s.view u) 0 = true := mvOK_0 (by show (nth s.ths u).pc < _; rw [hi]; omega) (by show ableL _ _ (nextIns _ (nth s.ths u).pc) = true; rw [hi, nextIns_t (by omega)]; simpa using h6)
        rw [this] at h0; cases h0
    have hne : ended (jumpPg p) s' = false := by
      cases hc : ended (jumpPg p) s' with
      | false => rfl
      | true =>
        obtain ⟨h3, h4⟩ := ended_iff.1 hc t (by rw [jumpPg_len]; exact ht)
        rw [hrel.wait t ht] at h4
        obtain ⟨i, hi, hil, hj, hno⟩ := key t ht
        rcases h1 with h1 | h1
        · rw [hi] at h1
          rw [hj, jumpPg_code ht] at h3
          have hg : ¬ goneS (nth p.code t) i := fun hg => hno (by omega) hg.1
          have := (pS_kept (c := nth p.code t) (by omega) hg).2.1
          omega
        · exact absurd h4 h1
    have h2 := Outs.stuck hr' hne hstq
    rw [hrel.words, hrel.prints] at h2
    exact h2

/-! ### From the new to the old -/
theorem flow_reach (hok : OkPg p) {t : Nat} (ht : t < p.code.length) {i j : Nat} (hf : Flow (nth p.code t) i j) : ∀ {s : MSt}, Reach p m s → (nth s.ths t).pc = (i : Int) → ∃ s2, Reach p m s2 ∧ RelP p.code.length (At1 t j) s s2 := by
  induction hf with
  | refl i =>
    intro s hr hi
    refine ⟨s, hr, rfl, rfl, rfl, fun _ _ => rfl, fun _ _ => rfl, fun u hu => ?_⟩
    unfold At1
    split
    · rename_i e; subst e; exact hi
    · rfl
  | step h1 h2 h3 ih =>
    rename_i i j
    intro s hr hi
    have hlt : (nth s.ths t).pc < ((nth p.code t).length : Int) := by rw [hi]; omega
    have hn : nextIns (nth p.code t) (s.view t).pc = nth (nth p.code t) i := by show nextIns _ (nth s.ths t).pc = _; rw [nextIns_t hlt, hi]; simp
    have e : stepT p m s t 0 = { s.view t with pc := (nth (nth p.code t) i).a } := by rw [stepT_0, hn, execT_14 h2]
    have ha := (hok.jumps ht i h1).1 h2
    have hl := hr.len hok ht
    have hr2 := Reach.step hr ht (mvOK_0 hlt (by rw [hn]; unfold ableL; simp [h2])) (by rw [e]; rfl)
    rw [e] at hr2
    obtain ⟨s2, hs2, hrel⟩ := ih hr2 (by rw [putT_th hl, if_pos rfl]; show (nth (nth p.code t) i).a = _; omega)
    exact ⟨s2, hs2, (RelP.one (u := (nth (nth p.code t) i).a) hl).trans hrel fun _ _ _ _ _ h1 h2 => h1.trans h2⟩
/-- Over orders that are gone, to one that is kept, or to the end. -/
theorem keep_at {c : List Ins} : ∀ (n i : Nat), i ≤ c.length → c.length - i = n → ∃ j, Flow c i j ∧ j ≤ c.length ∧ pS c j = pS c i ∧ (j < c.length → ¬ goneS c j)
  | n, i, hi, hn => by
    by_cases hg : i < c.length ∧ goneS c i
    · obtain ⟨h1, h2⟩ := hg
      match n with
      | 0 => omega
      | n + 1 =>
        obtain ⟨j, f1, f2, f3, f4⟩ := keep_at (c := c) n (i + 1) (by omega) (by omega)
        refine ⟨j, .step h1 h2.1 (Flow.trans ?_ f1), f2, by rw [f3, pS_gone h1 h2], f4⟩
        have := endF_flow c c.length (nth c i).a.toNat
        rwa [h2.2] at this
    · exact ⟨i, .refl i, hi, rfl, fun h hg' => hg ⟨h, hg'⟩⟩
def JB (p : Pg) (t : Nat) (b a : Int) : Prop := ∃ i : Nat, a = i ∧ i ≤ (nth p.code t).length ∧ b = (pS (nth p.code t) i : Int)
/-- A thread is brought to an order that is kept. -/
theorem norm1 (hok : OkPg p) {s s' : MSt} (hr : Reach p m s) (hrel : RelP p.code.length (JB p) s' s) {t : Nat} (ht : t < p.code.length) :
    ∃ s2 j, Reach p m s2 ∧ RelP p.code.length (JB p) s' s2 ∧ RelP p.code.length (At1 t ((j : Nat) : Int)) s s2 ∧ j ≤ (nth p.code t).length ∧ (nth s'.ths t).pc = (pS (nth p.code t) j : Int) ∧ (j < (nth p.code t).length → ¬ goneS (nth p.code t) j) := by
  obtain ⟨i, hi, hil, hb⟩ := hrel.pc t ht
  obtain ⟨j, f1, f2, f3, f4⟩ := keep_at (c := nth p.code t) _ i hil rfl
  obtain ⟨s2, h1, h2⟩ := flow_reach hok ht f1 hr hi
  exact ⟨s2, j, h1, hrel.then1 h2 fun _ => ⟨j, rfl, f2, by rw [hb, f3]⟩, h2, f2, by rw [hb, f3], f4⟩
theorem normAll (hok : OkPg p) {s s' : MSt} (hr : Reach p m s) (hrel : RelP p.code.length (JB p) s' s) : ∀ n, n ≤ p.code.length →
    ∃ s2, Reach p m s2 ∧ RelP p.code.length (JB p) s' s2 ∧ ∀ t, t < n → ∃ j : Nat, (nth s2.ths t).pc = j ∧ j ≤ (nth p.code t).length ∧ (nth s'.ths t).pc = (pS (nth p.code t) j : Int) ∧ (j < (nth p.code t).length → ¬ goneS (nth p.code t) j)
  | 0, _ => ⟨s, hr, hrel, fun t ht => absurd ht (by omega)⟩
  | n + 1, hn => by
    obtain ⟨s1, h1, h2, h3⟩ := normAll hok hr hrel n (by omega)
    obtain ⟨s2, j, g1, g2, g3, g4, g5, g6⟩ := norm1 hok h1 h2 (t := n) (by omega)
    obtain ⟨a1, a2⟩ := g3.at1
    refine ⟨s2, g1, g2, fun t ht => ?_⟩
    by_cases e : t = n
    · subst e; exact ⟨j, a1 (by omega), g4, g5, g6⟩
    · obtain ⟨j', b1, b2, b3, b4⟩ := h3 t (by omega)
      exact ⟨j', by rw [a2 t (by omega) e]; exact b1, b2, b3, b4⟩
theorem jump_bwd (hok : OkPg p) (hq : OkPg (jumpPg p)) : ∀ o, Outs (jumpPg p) m o → Outs p m o := by
  refine sim_outs (fun s' s => RelP p.code.length (JB p) s' s) ⟨_, .start, ?_⟩ ?_ ?_ ?_
  · have := begin_rel (p := jumpPg p) (q := p) (R := JB p) (by rw [jumpPg_len]) rfl rfl rfl (fun t ht => ⟨0, rfl, Nat.zero_le _, by simp [pS, placeL]⟩)
    rwa [jumpPg_len] at this
  · intro s' s t k hr' hr hrel ht hk
    rw [jumpPg_len] at ht
    have hcode := jumpPg_code ht
    have hl' := hr'.len hq (by rw [jumpPg_len]; exact ht)
    by_cases hk0 : 0 < k
    · have hl := hr.len hok ht
      have hv := hrel.view ht
      obtain ⟨e1, e2, e3⟩ := doT_pos (m := m) (n := t) (c := nth (jumpPg p).code t) (c' := nth p.code t) (x := s'.view t) (u := (nth s.ths t).pc) hk0
      have hst : stepT p m s t k = { stepT (jumpPg p) m s' t k with pc := (nth s.ths t).pc } := by unfold stepT; rw [hv]; exact e1
      have hf : (stepT (jumpPg p) m s' t k).fell = false := e3
      rw [if_neg (by rw [hf]; decide)]
      refine ⟨_, .step hr ht (by rw [hv, mvOK_pos (c := nth (jumpPg p).code t) hk0]; exact hk) (by rw [hst]; exact hf), ?_⟩
      rw [hst]
      exact hrel.put hl' hl fun h => by rw [show (stepT (jumpPg p) m s' t k).pc = (nth s'.ths t).pc from e2]; exact hrel.pc t ht
    obtain rfl : k = 0 := by omega
    rcases mvOK_k hk with ⟨_, hlt, hab⟩ | ⟨h, _⟩
    case inr => omega
    obtain ⟨s2, j, g1, g2, g3, g4, g5, g6⟩ := norm1 hok hr hrel ht
    have hl := g1.len hok ht
    have hv := g2.view ht
    have hpc2 := g3.at1.1 ht
    have hp' : (s'.view t).pc = (pS (nth p.code t) j : Int) := g5
    rw [hp', hcode] at hlt
    have hjl : j < (nth p.code t).length := by
      rcases Nat.lt_or_ge j (nth p.code t).length with h | h
      · exact h
      · obtain rfl : j = (nth p.code t).length := by omega
        rw [pS_len] at hlt; omega
    have hg := g6 hjl
    obtain ⟨hk1, hk2, _⟩ := pS_kept hjl hg
    have hn' : nextIns (nth (jumpPg p).code t) (s'.view t).pc = nth (straightL (nth p.code t)) (pS (nth p.code t) j) := by rw [hcode, hp', nextIns_t hlt]; simp
    rw [hn'] at hab
    have hst' := stepT_0 (p := jumpPg p) (m := m) (s := s') (t := t)
    rw [hn', hp'] at hst'
    have hp2 : (s2.view t).pc = (j : Int) := hpc2
    have hlt2 : (s2.view t).pc < ((nth p.code t).length : Int) := by rw [hp2]; omega
    have hn2 : nextIns (nth p.code t) (s2.view t).pc = nth (nth p.code t) j := by rw [nextIns_t hlt2, hp2]; simp
    have hst2 := stepT_0 (p := p) (m := m) (s := s2) (t := t)
    rw [hn2, hp2] at hst2
    have hjo := hok.jumps ht
    have hown : (s2.view t).owner = (s'.view t).owner := g2.owner
    have hwl : (s2.view t).wait.length = (s'.view t).wait.length := by show (nth s2.ths t).wait.length = _; rw [g2.wait t ht]; rfl
    by_cases h14 : (nth (nth p.code t) j).op = 14
    · have hin := kept_14 hjl h14 hg
      rw [hin] at hst'
      have hE := endF_flow (nth p.code t) (nth p.code t).length (nth (nth p.code t) j).a.toNat
      have ha := (hjo j hjl).1 h14
      have hEl := hE.le hjo (by omega)
      have e' : stepT (jumpPg p) m s' t 0 = { s'.view t with pc := (pS (nth p.code t) (endF (nth p.code t) (nth p.code t).length (nth (nth p.code t) j).a.toNat) : Int) } := by rw [hst']; exact execT_jump h14
      rw [if_neg (by rw [e']; show ¬ ((s'.view t).fell = true); exact Bool.false_ne_true)]
      obtain ⟨s3, q1, q2⟩ := flow_reach hok ht (Flow.step hjl h14 hE) g1 hpc2
      refine ⟨s3, q1, ?_⟩
      rw [e']
      exact g2.both hl' q2 fun _ => ⟨_, rfl, hEl, rfl⟩
    by_cases h15 : (nth (nth p.code t) j).op = 15
    · have hin := kept_15 hjl h15
      rw [hin] at hst'
      have hE := endF_flow (nth p.code t) (nth p.code t).length (nth (nth p.code t) j).b.toNat
      have hb := (hjo j hjl).2 h15
      have hEl := hE.le hjo (by omega)
      have hab2 : mvOK m (nth p.code t) (s2.view t) 0 = true := mvOK_0 hlt2 (by rw [hn2]; unfold ableL; simp [h15])
      by_cases hz : (s'.view t).reg (nth (nth p.code t) j).a = 0
      · have e' : stepT (jumpPg p) m s' t 0 = { s'.view t with pc := (pS (nth p.code t) (endF (nth p.code t) (nth p.code t).length (nth (nth p.code t) j).b.toNat) : Int) } := by rw [hst']; exact execT_zt h15 hz
        have e2 : stepT p m s2 t 0 = { s2.view t with pc := (nth (nth p.code t) j).b } := by rw [hst2, execT_15t (x := { s2.view t with pc := (j : Int) + 1 }) h15 (by rw [hv]; exact hz)]
        rw [if_neg (by rw [e']; show ¬ ((s'.view t).fell = true); exact Bool.false_ne_true)]
        have hr3 := Reach.step g1 ht hab2 (by rw [e2]; rfl)
        rw [e2] at hr3
        obtain ⟨s3, q1, q2⟩ := flow_reach hok ht hE hr3 (by rw [putT_th hl, if_pos rfl]; show (nth (nth p.code t) j).b = _; omega)
        refine ⟨s3, q1, ?_⟩
        rw [e']
        exact g2.both hl' ((RelP.one hl).trans q2 fun _ _ _ _ _ h1 h2 => h1.trans h2) fun _ => ⟨_, rfl, hEl, rfl⟩
      · have e' : stepT (jumpPg p) m s' t 0 = { s'.view t with pc := (pS (nth p.code t) j : Int) + 1 } := by rw [hst']; exact execT_zf h15 hz
        have e2 : stepT p m s2 t 0 = { s2.view t with pc := (j : Int) + 1 } := by rw [hst2, execT_15f (x := { s2.view t with pc := (j : Int) + 1 }) h15 (by rw [hv]; exact hz)]
        rw [if_neg (by rw [e']; show ¬ ((s'.view t).fell = true); exact Bool.false_ne_true)]
        refine ⟨_, .step g1 ht hab2 (by rw [e2]; rfl), ?_⟩
        rw [e', e2, hv]
        exact g2.put hl' hl (y := { s'.view t with pc := (pS (nth p.code t) j : Int) + 1 }) (u := (j : Int) + 1) (fun _ => ⟨j + 1, by simp, by omega, by rw [hk1]; simp⟩)
    have hin := kept_other hjl h14 h15
    rw [hin] at hst' hab
    obtain ⟨f1, f2⟩ := execT_pc m t (nth (nth p.code t) j) { s'.view t with pc := (pS (nth p.code t) j : Int) + 1 } ((j : Int) + 1) h14 h15
    have e2 : stepT p m s2 t 0 = { stepT (jumpPg p) m s' t 0 with pc := (j : Int) + 1 } := by rw [hst2, hst', hv]; exact f1
    have f3 : (stepT (jumpPg p) m s' t 0).pc = (pS (nth p.code t) j : Int) + 1 := by rw [hst']; exact f2
    have hab2 : mvOK m (nth p.code t) (s2.view t) 0 = true := mvOK_0 hlt2 (by rw [hn2, hown, hwl]; exact hab)
    split
    · rename_i hf
      have := Outs.fell g1 ht hab2 (by rw [e2]; exact hf)
      rw [e2] at this; exact this
    · rename_i hf
      refine ⟨_, .step g1 ht hab2 (by rw [e2]; simpa using hf), ?_⟩
      rw [e2]
      exact g2.put hl' hl fun _ => ⟨j + 1, by simp, by omega, by rw [f3, hk1]; simp⟩
  · intro s' s hr' hr hrel he
    obtain ⟨s2, h1, h2, h3⟩ := normAll hok hr hrel _ (Nat.le_refl _)
    have he2 := ended_iff.1 he
    have : ended p s2 = true := ended_iff.2 fun t ht => by
      obtain ⟨a1, a2⟩ := he2 t (by rw [jumpPg_len]; exact ht)
      obtain ⟨j, b1, b2, b3, b4⟩ := h3 t ht
      rw [h2.wait t ht]
      refine ⟨?_, a2⟩
      rw [b1]
      rw [b3, jumpPg_code ht] at a1
      rcases Nat.lt_or_ge j (nth p.code t).length with h | h
      · have := (pS_kept h (b4 h)).2.1; omega
      · omega
    have h4 := Outs.done h1 this
    rw [h2.words, h2.prints] at h4
    exact h4
  · intro s' s hr' hr hrel he hst
    obtain ⟨s2, h1, h2, h3⟩ := normAll hok hr hrel _ (Nat.le_refl _)
    have hab : ∀ t j : Nat, t < p.code.length → (nth s2.ths t).pc = j → (nth s'.ths t).pc = (pS (nth p.code t) j : Int) → j < (nth p.code t).length → ¬ goneS (nth p.code t) j → (nth (nth p.code t) j).op ≠ 14 ∧ ableL (s2.view t).owner (s2.view t).wait.length (nth (nth p.code t) j) = false := by
      intro t j ht b1 b3 hjl hg
      have h0 := hst t 0 (by rw [jumpPg_len]; exact ht)
      rw [jumpPg_code ht] at h0
      obtain ⟨hk1, hk2, _⟩ := pS_kept hjl hg
      have hlt : (s'.view t).pc < ((straightL (nth p.code t)).length : Int) := by show (nth s'.ths t).pc < _; rw [b3]; omega
      have hn : nextIns (straightL (nth p.code t)) (s'.view t).pc = nth (straightL (nth p.code t)) (pS (nth p.code t) j) := by rw [nextIns_t hlt]; show nth _ (nth s'.ths t).pc.toNat = _; rw [b3]; simp
      have hna : ableL (s'.view t).owner (s'.view t).wait.length (nth (straightL (nth p.code t)) (pS (nth p.code t) j)) = false := by
        cases hc : ableL (s'.view t).owner (s'.view t).wait.length (nth (straightL (nth p.code t)) (pS (nth p.code t) j)) with
        | false => rfl
        | true => rw [mvOK_0 hlt (by rw [hn]; exact hc)] at h0; cases h0
      have h14 : (nth (nth p.code t) j).op ≠ 14 := by
        intro h14
        rw [kept_14 hjl h14 hg] at hna
        unfold ableL at hna; simp [h14] at hna
      have h15 : (nth (nth p.code t) j).op ≠ 15 := by
        intro h15
        rw [kept_15 hjl h15] at hna
        unfold ableL at hna; simp [h15] at hna
      rw [kept_other hjl h14 h15] at hna
      refine ⟨h14, ?_⟩
      rw [show (s2.view t).owner = (s'.view t).owner from h2.owner, show (s2.view t).wait.length = (s'.view t).wait.length by show (nth s2.ths t).wait.length = _; rw [h2.wait t ht]; rfl]
      exact hna
    have hstp : Stuck_ p m s2 := by
      intro t k ht
      by_cases hk0 : 0 < k
      · rw [h2.view ht, mvOK_pos (c := nth (jumpPg p).code t) hk0]; exact hst t k (by rw [jumpPg_len]; exact ht)
      obtain rfl : k = 0 := by omega
      cases hc : mvOK m (nth p.code t) (s2.view t) 0 with
      | false => rfl
      | true =>
        rcases mvOK_k hc with ⟨_, c1, c2⟩ | ⟨c1, _⟩
        case inr => omega
        obtain ⟨j, b1, b2, b3, b4⟩ := h3 t ht
        have c1' : (nth s2.ths t).pc < ((nth p.code t).length : Int) := c1
        rw [b1] at c1'
        have hjl : j < (nth p.code t).length := by omega
        have h5 := (hab t j ht b1 b3 hjl (b4 hjl)).2
        have h6 : nextIns (nth p.code t) (s2.view t).pc = nth (nth p.code t) j := by rw [nextIns_t c1]; show nth _ (nth s2.ths t).pc.toNat = _; rw [b1]; simp
        rw [h6, h5] at c2; cases c2
    have hne : ended p s2 = false := by
      cases hc : ended p s2 with
      | false => rfl
      | true =>
        exfalso
        have he2 := ended_iff.1 hc
        have : ended (jumpPg p) s' = true := ended_iff.2 fun t ht => by
          rw [jumpPg_len] at ht
          obtain ⟨a1, a2⟩ := he2 t ht
          obtain ⟨j, b1, b2, b3, b4⟩ := h3 t ht
          rw [h2.wait t ht] at a2
          refine ⟨?_, a2⟩
          rw [b1] at a1
          obtain rfl : j = (nth p.code t).length := by omega
          rw [b3, jumpPg_code ht, pS_len]; omega
        rw [this] at he; cases he
    have h4 := Outs.stuck h1 hne hstp
    rw [h2.words, h2.prints] at h4
    exact h4
theorem jump_outs (hok : OkPg p) (hq : OkPg (jumpPg p)) (o : Outc) : Outs p m o ↔ Outs (jumpPg p) m o := ⟨jump_fwd hok hq o, jump_bwd hok hq o⟩
end
end Go.Proofs.Ytanhbpofhebbaaa
