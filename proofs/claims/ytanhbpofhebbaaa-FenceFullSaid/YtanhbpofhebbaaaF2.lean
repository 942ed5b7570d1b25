/-
  With a fence behind each store: from the fenced program, with stores that wait, to the plain one without; in plain Lean.
-/
import Derived.Test.YtanhbpofhebbaaaF1
namespace Go.Proofs.Ytanhbpofhebbaaa
open Go.RowKit
set_option linter.unusedSimpArgs false
set_option linter.unusedVariables false

/-- Where a thread of the fenced program stands (b, what waits), and where the plain one's does (a). -/
inductive StF (p : Pg) (t : Nat) (b : Int) (wt : List Wt) (a : Int) (regs : List Int) (W : Nat) (owner : List Int) : Prop
  | A (i : Nat) (ha : a = i) (hi : i ≤ (nth p.code t).length) (hb : b = (pF (nth p.code t) i : Int)) (hw : wt = [])
  | B (i : Nat) (ha : a = i) (hi : i < (nth p.code t).length) (hs : isSt (nth (nth p.code t) i).op) (hb : b = (pF (nth p.code t) i : Int) + 1) (hw : wt = [pend (nth (nth p.code t) i) regs]) (hp : pendOK t (nth (nth p.code t) i) regs W owner)
  | C (i : Nat) (ha : a = i + 1) (hi : i < (nth p.code t).length) (hs : isSt (nth (nth p.code t) i).op) (hb : b = (pF (nth p.code t) i : Int) + 1) (hw : wt = [])
structure RelF (p : Pg) (s' s : MSt) : Prop where
  words : s.words = s'.words
  owner : s.owner = s'.owner
  prints : s.prints = s'.prints
  regs : ∀ t, t < p.code.length → (nth s.ths t).regs = (nth s'.ths t).regs
  th : ∀ t, t < p.code.length → StF p t (nth s'.ths t).pc (nth s'.ths t).wait (nth s.ths t).pc (nth s.ths t).regs s.words.length s.owner
theorem pendOK.other {t : Nat} {i : Ins} {regs : List Int} {W W' : Nat} {owner owner' : List Int} (h : pendOK t i regs W owner) (hW : W' = W) (ho : ∀ a, nth owner a = (t : Int) → nth owner' a = t) : pendOK t i regs W' owner' := ⟨fun e => ho _ (h.1 e), by rw [hW]; exact h.2⟩
theorem StF.other {p : Pg} {t : Nat} {b : Int} {wt : List Wt} {a : Int} {regs : List Int} {W W' : Nat} {owner owner' : List Int} (h : StF p t b wt a regs W owner) (hW : W' = W) (ho : ∀ a, nth owner a = (t : Int) → nth owner' a = t) : StF p t b wt a regs W' owner' := by
  cases h with
  | A i ha hi hb hw => exact .A i ha hi hb hw
  | B i ha hi hs hb hw hp => exact .B i ha hi hs hb hw (hp.other hW ho)
  | C i ha hi hs hb hw => exact .C i ha hi hs hb hw
/-- Both go on in one thread. -/
theorem RelF.both {p : Pg} {s' s : MSt} (h : RelF p s' s) {t : Nat} (hl' : t < s'.ths.length) (hl : t < s.ths.length) {y' y : TS} (e1 : y.words = y'.words) (e2 : y.owner = y'.owner) (e3 : y.prints = y'.prints) (e4 : y.regs = y'.regs) (hW : y.words.length = s.words.length)
    (ho : ∀ a (u : Nat), u ≠ t → nth s.owner a = (u : Int) → nth y.owner a = u) (hst : StF p t y'.pc y'.wait y.pc y.regs y.words.length y.owner) : RelF p (s'.putT t y') (s.putT t y) := by
  refine ⟨e1, e2, e3, fun u hu => ?_, fun u hu => ?_⟩
  · rw [putT_th hl, putT_th hl']; split
    · exact e4
    · exact h.regs u hu
  · rw [putT_th hl, putT_th hl']
    by_cases e : t = u
    · subst e; rw [if_pos rfl, if_pos rfl]; exact hst
    · rw [if_neg e, if_neg e]
      exact (h.th u hu).other hW fun a ha => ho a u (fun h => e h.symm) ha
/-- The fenced one goes on alone. -/
theorem RelF.left {p : Pg} {s' s : MSt} (h : RelF p s' s) {t : Nat} (hl' : t < s'.ths.length) {y' : TS} (e1 : s.words = y'.words) (e2 : s.owner = y'.owner) (e3 : s.prints = y'.prints) (e4 : t < p.code.length → (nth s.ths t).regs = y'.regs) (hst : t < p.code.length → StF p t y'.pc y'.wait (nth s.ths t).pc (nth s.ths t).regs s.words.length s.owner) : RelF p (s'.putT t y') s := by
  refine ⟨e1, e2, e3, fun u hu => ?_, fun u hu => ?_⟩
  · rw [putT_th hl']; split
    · rename_i e; subst e; exact e4 hu
    · exact h.regs u hu
  · rw [putT_th hl']; split
    · rename_i e; subst e; exact hst hu
    · exact h.th u hu
theorem set_keep {l : List Int} {a b : Nat} {v x : Int} (h : nth l a = x) (hn : nth l b ≠ x) : nth (l.set b v) a = x := by
  rw [nth_set0]
  split
  · rename_i e; rw [e.1] at hn; exact absurd h hn
  · exact h

section
variable {p : Pg}
theorem full_bwd (hok : OkPg p) (hq : OkPg (fullPg p)) : ∀ o, Outs (fullPg p) 1 o → Outs p 0 o := by
  refine sim_outs (fun s' s => RelF p s' s) ⟨_, .start, ?_⟩ ?_ ?_ ?_
  · have e : ∀ (p : Pg) t, t < p.code.length → nth (begin_ p).ths t = ⟨0, List.replicate p.regs.toNat 0, []⟩ := fun p t ht => nth_map' _ _ _ ht
    refine ⟨rfl, rfl, rfl, fun t ht => ?_, fun t ht => ?_⟩
    · rw [e p t ht, e (fullPg p) t (by rw [fullPg_len]; exact ht)]; rfl
    · rw [e p t ht, e (fullPg p) t (by rw [fullPg_len]; exact ht)]
      exact .A 0 rfl (Nat.zero_le _) (by simp [pF, placeL]) rfl
  · intro s' s t k hr' hr hrel ht hk
    rw [fullPg_len] at ht
    have htq : t < (fullPg p).code.length := by rw [fullPg_len]; exact ht
    have hcode := fullPg_code ht
    have hl := hr.len hok ht
    have hl' := hr'.len hq htq
    have hw0 := hr.no_wait hok t ht
    have hreg := hrel.regs t ht
    rcases hrel.th t ht with ⟨i, ha, hi, hb, hw⟩ | ⟨i, ha, hi, hs, hb, hw, hp⟩ | ⟨i, ha, hi, hs, hb, hw⟩
    · -- at an order
      have hv : s.view t = { s'.view t with pc := (i : Int) } := by
        unfold MSt.view
        simp only [hreg, hw0, hw, hrel.words, hrel.owner, hrel.prints, ha]
      rcases mvOK_k hk with ⟨rfl, hlt, hab⟩ | ⟨h1, h2, _⟩
      case inr => rw [show (s'.view t).wait = [] from hw] at h2; simp at h2; omega
      have hb' : (s'.view t).pc = (pF (nth p.code t) i : Int) := hb
      have hil : i < (nth p.code t).length := by
        rcases Nat.lt_or_ge i (nth p.code t).length with h | h
        · exact h
        · obtain rfl : i = (nth p.code t).length := by omega
          rw [hb', hcode, pF_len] at hlt; omega
      have hpl := (pF_at hil).2
      have hn' : nextIns (nth (fullPg p).code t) (s'.view t).pc = nth (fenL (nth p.code t)) (pF (nth p.code t) i) := by rw [hcode]; exact nextIns_nat hb' hpl
      rw [hn'] at hab
      have hst' := stepT_e (p := fullPg p) (m := 1) (s := s') (t := t)
      rw [hn', hb'] at hst'
      have ha' : (s.view t).pc = (i : Int) := ha
      have hn := nextIns_nat ha' hil
      have hst := stepT_e (p := p) (m := 0) (s := s) (t := t)
      rw [hn, ha'] at hst
      by_cases hs : isSt (nth (nth p.code t) i).op
      · have hins := fen_other hil (isSt_no hs).1 (isSt_no hs).2
        rw [hins] at hst'
        have hx := exec_st (m := 1) (t := t) (x := { s'.view t with pc := (pF (nth p.code t) i : Int) + 1 }) hs hw
        by_cases hp : pendOK t (nth (nth p.code t) i) (nth s'.ths t).regs s'.words.length s'.owner
        · have e := hx.1 hp
          rw [← hst'] at e
          have e0 : stepT (fullPg p) 1 s' t 0 = { s'.view t with pc := (pF (nth p.code t) i : Int) + 1, wait := [pend (nth (nth p.code t) i) (nth s'.ths t).regs] } := by
            rw [e]; unfold TS.store; rw [if_pos (by decide)]
            show ({ s'.view t with pc := _, wait := (nth s'.ths t).wait ++ [_] } : TS) = _
            rw [hw]; rfl
          rw [if_neg (by rw [e0]; exact Bool.false_ne_true)]
          refine ⟨s, hr, ?_⟩
          rw [e0]
          exact hrel.left hl' hrel.words hrel.owner hrel.prints (fun _ => hreg) (fun _ => .B i ha hil hs rfl (by rw [hreg]) (by rw [hreg, hrel.words, hrel.owner]; exact hp))
        · have e := hx.2 hp
          rw [← hst'] at e
          rw [if_pos (by rw [e])]
          have hx2 := (exec_st (m := 0) (t := t) (x := { s.view t with pc := (i : Int) + 1 }) hs hw0).2 (by show ¬ pendOK t _ (nth s.ths t).regs s.words.length s.owner; rw [hreg, hrel.words, hrel.owner]; exact hp)
          rw [← hst] at hx2
          have := Outs.fell hr ht (mvOK_0 (by rw [ha']; omega) (by rw [hn]; show ableL _ (nth s.ths t).wait.length _ = true; rw [hw0]; exact able_st hs)) (by rw [hx2])
          rw [hx2] at this
          rw [e]
          rw [show ({ ({ s.view t with pc := (i : Int) + 1 } : TS) with fell := true } : TS).prints = (s'.view t).prints from hrel.prints] at this
          exact this
      · obtain ⟨j, hjl, hj1, hj2⟩ := fen_step hok (m := 0) (m' := 1) ht hil hs (s'.view t)
        have e' : stepT (fullPg p) 1 s' t 0 = { stepT p 0 s t 0 with pc := (pF (nth p.code t) j : Int) } := by rw [hst', hst, hv]; exact hj2
        have hj1' : (stepT p 0 s t 0).pc = (j : Int) := by rw [hst, hv]; exact hj1
        have hab2 : ableL (s.view t).owner (s.view t).wait.length (nth (nth p.code t) i) = true := by
          rw [show (s.view t).owner = (s'.view t).owner from hrel.owner, show (s.view t).wait.length = (s'.view t).wait.length by show (nth s.ths t).wait.length = (nth s'.ths t).wait.length; rw [hw0, hw]]
          by_cases h14 : (nth (nth p.code t) i).op = 14
          · unfold ableL; simp [h14]
          by_cases h15 : (nth (nth p.code t) i).op = 15
          · unfold ableL; simp [h15]
          rw [fen_other hil h14 h15] at hab; exact hab
        have hmv : mvOK 0 (nth p.code t) (s.view t) 0 = true := mvOK_0 (by rw [ha']; omega) (by rw [hn]; exact hab2)
        split
        · rename_i hf
          rw [e'] at hf ⊢
          exact Outs.fell hr ht hmv hf
        · rename_i hf
          rw [e'] at hf
          refine ⟨_, .step hr ht hmv (by simpa using hf), ?_⟩
          rw [e']
          have hkeep := execT_keep (m := 0) (m' := 0) (n := t) (x := { s.view t with pc := (i : Int) + 1 }) hs
          rw [← hst] at hkeep
          have hwf := (hr.wf hok).step hok ht hmv
          have hwl : (stepT p 0 s t 0).words.length = s.words.length := hwf.words.trans (hr.wf hok).words.symm
          refine hrel.both hl' hl rfl rfl rfl rfl hwl (fun a u hne hu => ?_) ?_
          · by_cases h17 : (nth (nth p.code t) i).op = 17
            · rw [hkeep.2.2.2.1 h17]
              have hfree : nth s.owner (nth (nth p.code t) i).a.toNat = -1 := by
                unfold ableL at hab2
                rw [if_neg (by omega), if_neg (by omega), if_pos h17] at hab2
                simp only [Bool.and_eq_true, decide_eq_true_eq] at hab2
                exact hab2.2
              exact set_keep hu (by show nth s.owner _ ≠ _; rw [hfree]; omega)
            · rw [hkeep.2.2.1 h17]; exact hu
          · exact .A j hj1' hjl rfl (by show (stepT p 0 s t 0).wait = []; rw [hkeep.2.1]; exact hw0)
    · -- a store waits
      have hb' : (s'.view t).pc = ((pF (nth p.code t) i + 1 : Nat) : Int) := by show (nth s'.ths t).pc = _; rw [hb]; simp
      obtain ⟨hf1, hf2⟩ := pF_fence hi (wF_t.2 hs)
      rcases mvOK_k hk with ⟨rfl, hlt, hab⟩ | ⟨h1, h2, _⟩
      · rw [hcode, nextIns_nat hb' hf2, hf1, show (s'.view t).wait = _ from hw] at hab
        exact absurd hab (by unfold ableL; simp)
      rw [show (s'.view t).wait = _ from hw] at h2
      obtain rfl : k = 1 := by simp at h2; omega
      have e' : stepT (fullPg p) 1 s' t 1 = { (s'.view t).done (pend (nth (nth p.code t) i) (nth s.ths t).regs) with wait := [] } := by
        unfold stepT doT
        rw [if_pos (by omega), show (s'.view t).wait = _ from hw]; rfl
      rw [if_neg (by rw [e']; exact Bool.false_ne_true)]
      have ha' : (s.view t).pc = (i : Int) := ha
      have hn := nextIns_nat ha' hi
      have hst := stepT_e (p := p) (m := 0) (s := s) (t := t)
      rw [hn, ha'] at hst
      have hx := (exec_st (m := 0) (t := t) (x := { s.view t with pc := (i : Int) + 1 }) hs hw0).1 hp
      rw [← hst] at hx
      have e0 : stepT p 0 s t 0 = { (s.view t).done (pend (nth (nth p.code t) i) (nth s.ths t).regs) with pc := (i : Int) + 1 } := by rw [hx]; unfold TS.store; rw [if_neg (by decide)]; rfl
      have hmv : mvOK 0 (nth p.code t) (s.view t) 0 = true := mvOK_0 (by rw [ha']; omega) (by rw [hn]; show ableL _ (nth s.ths t).wait.length _ = true; rw [hw0]; exact able_st hs)
      have hwf := (hr.wf hok).step hok ht hmv
      have hwl : (stepT p 0 s t 0).words.length = s.words.length := hwf.words.trans (hr.wf hok).words.symm
      refine ⟨_, .step hr ht hmv (by rw [e0]; rfl), ?_⟩
      rw [e0] at hwl ⊢
      rw [e']
      have d1 : ((s.view t).done (pend (nth (nth p.code t) i) (nth s.ths t).regs)).words = ((s'.view t).done (pend (nth (nth p.code t) i) (nth s.ths t).regs)).words := by unfold TS.done; simp only [show (s.view t).words = (s'.view t).words from hrel.words]
      have d2 : ((s.view t).done (pend (nth (nth p.code t) i) (nth s.ths t).regs)).owner = ((s'.view t).done (pend (nth (nth p.code t) i) (nth s.ths t).regs)).owner := by unfold TS.done; simp only [show (s.view t).owner = (s'.view t).owner from hrel.owner]
      refine hrel.both hl' hl d1 d2 hrel.prints hreg hwl (fun a u hne hu => ?_) (.C i rfl hi hs hb rfl)
      show nth (if (pend (nth (nth p.code t) i) (nth s.ths t).regs).lock = true then s.owner.set (pend (nth (nth p.code t) i) (nth s.ths t).regs).wh.toNat (-1) else s.owner) a = u
      split
      · rename_i hlk
        have h18 : (nth (nth p.code t) i).op = 18 := by
          unfold pend at hlk
          apply Classical.byContradiction
          intro h18
          rw [if_neg h18] at hlk
          split at hlk <;> cases hlk
        have hwh : (pend (nth (nth p.code t) i) (nth s.ths t).regs).wh = (nth (nth p.code t) i).a := by unfold pend; rw [if_pos h18]
        rw [hwh]
        exact set_keep hu (by rw [hp.1 h18]; omega)
      · exact hu
    · -- at the fence
      have hb' : (s'.view t).pc = ((pF (nth p.code t) i + 1 : Nat) : Int) := by show (nth s'.ths t).pc = _; rw [hb]; simp
      obtain ⟨hf1, hf2⟩ := pF_fence hi (wF_t.2 hs)
      rcases mvOK_k hk with ⟨rfl, hlt, hab⟩ | ⟨h1, h2, _⟩
      case inr => rw [show (s'.view t).wait = [] from hw] at h2; simp at h2; omega
      have hn' : nextIns (nth (fullPg p).code t) (s'.view t).pc = ⟨12, 0, 0, 0⟩ := by rw [hcode, nextIns_nat hb' hf2, hf1]
      have hsuc := pF_succ hi
      rw [if_pos (wF_t.2 hs)] at hsuc
      have e' : stepT (fullPg p) 1 s' t 0 = { s'.view t with pc := (pF (nth p.code t) (i + 1) : Int) } := by
        rw [stepT_e, hn', hb', execT_no (by decide), hsuc]
        simp
        omega
      rw [if_neg (by rw [e']; exact Bool.false_ne_true)]
      refine ⟨s, hr, ?_⟩
      rw [e']
      exact hrel.left hl' hrel.words hrel.owner hrel.prints (fun _ => hreg) (fun _ => .A (i + 1) (by rw [ha]; simp) (by omega) rfl hw)
  · intro s' s hr' hr hrel he
    have he2 := ended_iff.1 he
    have : ended p s = true := ended_iff.2 fun t ht => by
      obtain ⟨h1, h2⟩ := he2 t (by rw [fullPg_len]; exact ht)
      rw [fullPg_code ht] at h1
      rw [hr.no_wait hok t ht]
      refine ⟨?_, rfl⟩
      rcases hrel.th t ht with ⟨i, ha, hi, hb, hw⟩ | ⟨i, ha, hi, hs, hb, hw, hp⟩ | ⟨i, ha, hi, hs, hb, hw⟩
      · rw [hb] at h1; rw [ha]
        rcases Nat.lt_or_ge i (nth p.code t).length with h | h
        · have := (pF_at h).2; omega
        · omega
      · rw [hw] at h2; simp at h2
      · rw [hb] at h1
        have := (pF_fence hi (wF_t.2 hs)).2; omega
    have h2 := Outs.done hr this
    rw [hrel.words, hrel.prints] at h2
    exact h2
  · intro s' s hr' hr hrel he hst
    have hA : ∀ t, t < p.code.length → ∃ i : Nat, (nth s.ths t).pc = i ∧ i ≤ (nth p.code t).length ∧ (nth s'.ths t).pc = (pF (nth p.code t) i : Int) ∧ (nth s'.ths t).wait = [] := by
      intro t ht
      have h0 := hst t
      rw [fullPg_len, fullPg_code ht] at h0
      rcases hrel.th t ht with ⟨i, ha, hi, hb, hw⟩ | ⟨i, ha, hi, hs, hb, hw, hp⟩ | ⟨i, ha, hi, hs, hb, hw⟩
      · exact ⟨i, ha, hi, hb, hw⟩
      · have := h0 1 ht
        unfold mvOK at this
        rw [if_neg (by omega), show (s'.view t).wait = _ from hw] at this
        simp [mayK] at this
      · have h1 := h0 0 ht
        have hb' : (s'.view t).pc = ((pF (nth p.code t) i + 1 : Nat) : Int) := by show (nth s'.ths t).pc = _; rw [hb]; simp
        obtain ⟨hf1, hf2⟩ := pF_fence hi (wF_t.2 hs)
        rw [mvOK_0 (by rw [hb']; omega) (by rw [nextIns_nat hb' hf2, hf1, show (s'.view t).wait = [] from hw]; rfl)] at h1
        cases h1
    have hstp : Stuck_ p 0 s := by
      intro u k hu
      cases hc : mvOK 0 (nth p.code u) (s.view u) k with
      | false => rfl
      | true =>
        exfalso
        have hw0 := hr.no_wait hok u hu
        rcases mvOK_k hc with ⟨rfl, h3, h4⟩ | ⟨h3, h4, _⟩
        case inr => rw [show (s.view u).wait = [] from hw0] at h4; simp at h4; omega
        obtain ⟨i, ha, hi, hb, hw⟩ := hA u hu
        have ha' : (s.view u).pc = (i : Int) := ha
        have hlt : i < (nth p.code u).length := by rw [ha'] at h3; omega
        have hb' : (s'.view u).pc = (pF (nth p.code u) i : Int) := hb
        rw [nextIns_nat ha' hlt, show (s.view u).wait = [] from hw0] at h4
        have h0 := hst u 0 (by rw [fullPg_len]; exact hu)
        rw [fullPg_code hu] at h0
        rw [mvOK_0 (by rw [hb']; have := (pF_at hlt).2; omega) (by
          rw [nextIns_nat hb' (pF_at hlt).2, show (s'.view u).wait = [] from hw]
          by_cases h14 : (nth (nth p.code u) i).op = 14
          · rw [fen_14 hlt h14]; unfold ableL; simp [h14]
          by_cases h15 : (nth (nth p.code u) i).op = 15
          · rw [fen_15 hlt h15]; unfold ableL; simp [h15]
          rw [fen_other hlt h14 h15, show (s'.view u).owner = (s.view u).owner from hrel.owner.symm]; exact h4)] at h0
        cases h0
    have hne : ended p s = false := by
      cases hc : ended p s with
      | false => rfl
      | true =>
        exfalso
        have he2 := ended_iff.1 hc
        have : ended (fullPg p) s' = true := ended_iff.2 fun t ht => by
          rw [fullPg_len] at ht
          obtain ⟨a1, a2⟩ := he2 t ht
          obtain ⟨i, ha, hi, hb, hw⟩ := hA t ht
          rw [fullPg_code ht, hw]
          refine ⟨?_, rfl⟩
          rw [ha] at a1
          obtain rfl : i = (nth p.code t).length := by omega
          rw [hb, pF_len]; omega
        rw [this] at he; cases he
    have h2 := Outs.stuck hr hne hstp
    rw [hrel.words, hrel.prints] at h2
    exact h2
theorem full_outs (hok : OkPg p) (hq : OkPg (fullPg p)) (o : Outc) : Outs p 0 o ↔ Outs (fullPg p) 1 o := ⟨full_fwd hok hq o, full_bwd hok hq o⟩
theorem fullPg_ok (h : OkPg p) (hs : ∀ t, t < p.code.length → (fenL (nth p.code t)).length ≤ 400) : OkPg (fullPg p) := by
  refine ⟨by rw [fullPg_len]; exact h.code, h.words, h.locks, h.regs, fun t ht => ?_, fun t j ht hj => ?_⟩
  · rw [fullPg_len] at ht
    rw [fullPg_code ht]; exact hs t ht
  · rw [fullPg_len] at ht
    rw [fullPg_code ht] at hj ⊢
    have hsz := hs t ht
    obtain ⟨i, k, hi, hk, e⟩ := moved_from (fenW (wF (nth p.code t))) (nth p.code t) _ (Nat.le_refl _) j (by rw [← moved_len, fen_put]; exact hj)
    rw [fenW_len] at hk
    have ho := h.ins t i ht hi
    have hjo := h.jumpsF ht
    by_cases hk0 : k = 0
    · subst hk0
      have e' : j = pF (nth p.code t) i := e
      rw [e']
      by_cases h14 : (nth (nth p.code t) i).op = 14
      · rw [fen_14 hi h14]
        have ha := (hjo i hi).1 h14
        exact OkIns.jump h14 ho ⟨by omega, by omega⟩ ⟨by omega, by have := pF_le (c := nth p.code t) (i := (nth (nth p.code t) i).a.toNat) (by omega); omega⟩
      by_cases h15 : (nth (nth p.code t) i).op = 15
      · rw [fen_15 hi h15]
        have hb := (hjo i hi).2 h15
        exact OkIns.zero (p := p) (p' := fullPg p) rfl rfl rfl h15 ho ⟨by omega, by omega⟩ ⟨by omega, by have := pF_le (c := nth p.code t) (i := (nth (nth p.code t) i).b.toNat) (by omega); omega⟩
      rw [fen_other hi h14 h15]
      exact OkIns.move (p := p) (p' := fullPg p) rfl rfl rfl h14 h15 ho
    · by_cases hw : wF (nth p.code t) i = true
      · rw [if_pos hw] at hk
        obtain rfl : k = 1 := by omega
        have e' : j = pF (nth p.code t) i + 1 := e
        rw [e', (pF_fence hi hw).1]
        exact ⟨by decide, by rw [num_no (by have : kindsB 12 = ⟨#[]⟩ := by unfold kindsB; simp
                                            rw [show kindsB ({ op := 12, a := 0, b := 0, c := 0 } : Ins).op = ⟨#[]⟩ from this]; decide)]; rfl,
          by rw [num_no (by have : kindsB 12 = ⟨#[]⟩ := by unfold kindsB; simp
                            rw [show kindsB ({ op := 12, a := 0, b := 0, c := 0 } : Ins).op = ⟨#[]⟩ from this]; decide)]; rfl,
          by rw [num_no (by have : kindsB 12 = ⟨#[]⟩ := by unfold kindsB; simp
                            rw [show kindsB ({ op := 12, a := 0, b := 0, c := 0 } : Ins).op = ⟨#[]⟩ from this]; decide)]; rfl⟩
      · rw [if_neg hw] at hk; omega
end
end Go.Proofs.Ytanhbpofhebbaaa
