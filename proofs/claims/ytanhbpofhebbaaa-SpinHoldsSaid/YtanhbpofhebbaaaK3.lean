/-
  Loops in the place of locks: in plain Lean, from locks to loops; without stores that wait nothing falls that does not with them; what both come to.
-/
import Derived.Test.YtanhbpofhebbaaaK2
namespace Go.Proofs.Ytanhbpofhebbaaa
open Go.RowKit
set_option linter.unusedSimpArgs false
set_option linter.unusedVariables false

theorem MSt.putT_view {s : MSt} {t : Nat} (h : t < s.ths.length) : s.putT t (s.view t) = s := by
  cases s with
  | mk ths w o pr =>
    unfold MSt.putT MSt.view
    have : ths.set t ⟨(nth ths t).pc, (nth ths t).regs, (nth ths t).wait⟩ = ths := by
      refine ext_nth _ _ (by simp) fun i hi => ?_
      rw [nth_set0]
      split
      · rename_i e; rw [← e.1]
      · rfl
    simp only [this]
theorem MSt.view_put {s : MSt} {t : Nat} {y : TS} (h : t < s.ths.length) : (s.putT t y).view t = { y with fell := false } := by
  unfold MSt.view
  rw [putT_th h, if_pos rfl]
  rfl
theorem run1 {q : Pg} {m : Int} {s : MSt} {t j : Nat} {y : TS} {ins : Ins} {c : List Ins} (hc : nth q.code t = c) (ht : t < q.code.length) (hl : t < s.ths.length) (hr : Reach q m (s.putT t y)) (hp : y.pc = (j : Int)) (hj : j < c.length) (e : nth c j = ins) (hab : ableL y.owner y.wait.length ins = true) {z : TS}
    (hz : execT m t ins { y with pc := (j : Int) + 1, fell := false } = z) (hf : z.fell = false) : Reach q m (s.putT t z) := by
  obtain ⟨h1, h2⟩ := stepQ (m := m) (s := s.putT t y) hc (by rw [putT_th hl, if_pos rfl]; exact hp) hj e
  rw [MSt.view_put hl] at h1
  have h1' : stepT q m (s.putT t y) t 0 = z := h1.trans hz
  have := Reach.step hr ht (k := 0) (by rw [hc, h2, putT_th hl, if_pos rfl]; exact hab) (by rw [h1']; exact hf)
  rw [h1', putT_putT] at this
  exact this
section
variable {p : Pg} {m : Int}
/-- From locks to loops. -/
theorem link_fwd (hok : OkPg p) (hq : OkPg (linkPg p)) (hR : p.regs ≤ 6) (hm : m = 0 ∨ m = 1) {s : MSt} (h : Reach p m s) : ∃ s', Reach (linkPg p) m s' ∧ RelK p (fun t a b _ => ∃ i : Nat, a = i ∧ i ≤ (nth p.code t).length ∧ b = (pK p.words.length (nth p.code t) i : Int)) s s' := by
  induction h with
  | start => exact ⟨_, .start, begin_relK hR fun t _ ht => ⟨0, rfl, Nat.zero_le _, by simp [pK, placeL]⟩⟩
  | step hr ht hk hf ih =>
    rename_i s t k
    obtain ⟨s', hr', hrel⟩ := ih
    have ht' : t < (linkPg p).code.length := by rw [linkPg_len]; exact ht
    have hcode := linkPg_code ht
    have hl := hr.len hok ht
    have hl' := hr'.len hq ht'
    have hv := hrel.view ht
    have hx := XK.of ((hr.wf hok).th t ht)
    have hR6 : p.regs.toNat ≤ 6 := by omega
    have hlen8 : (s'.view t).regs.length = 8 := hrel.rl t ht
    by_cases hk0 : 0 < k
    · obtain ⟨h1, h2⟩ := wait_step hok hm hr hrel ht hk0 (nth p.code t) (linkL p.words.length (nth p.code t))
      obtain ⟨rfl, hw⟩ := h2 hk
      have hst : stepT (linkPg p) m s' t 1 = doT m t (nth (linkPg p).code t) 1 (s'.view t) := rfl
      refine ⟨_, .step hr' ht' (by rw [hcode]; exact h1.1 hk) (by rw [hst, doT1.2.2]; rfl), ?_⟩
      refine hrel.put hl hl' (hv.move hx hw _ _) ?_
      rw [show stepT p m s t 1 = doT m t (nth p.code t) 1 (s.view t) from rfl, hst, doT1.1, doT1.1]
      exact hrel.pc t ht
    obtain rfl : k = 0 := by omega
    obtain ⟨i, ha, hi, hb⟩ := hrel.pc t ht
    have hlt : i < (nth p.code t).length := by
      rcases mvOK_k hk with ⟨_, h1, _⟩ | ⟨h1, _⟩
      · rw [show (s.view t).pc = (nth s.ths t).pc from rfl, ha] at h1; omega
      · omega
    have hI := hok.insR ht hlt
    obtain ⟨hst0, hmv0⟩ := stepQ (q := p) (m := m) rfl ha hlt rfl
    rw [hmv0] at hk
    have hwl : (s'.view t).wait.length = (nth s.ths t).wait.length := by rw [hv.wt, List.length_map]; rfl
    by_cases e17 : (nth (nth p.code t) i).op = 17
    · obtain ⟨l0, l1, l2, l3, l4, l5⟩ := link_17 (nw := p.words.length) hlt e17
      have hla := hI.1.o17 (.inl e17)
      unfold ableL at hk
      rw [if_neg (by omega), if_neg (by omega), if_pos e17] at hk
      simp only [Bool.and_eq_true, decide_eq_true_eq] at hk
      have hr0 : Reach (linkPg p) m (s'.putT t (s'.view t)) := by rw [MSt.putT_view hl']; exact hr'
      have hr1 := run1 hcode ht' hl' hr0 hb (by omega) l0 rfl (execT_1 rfl) rfl
      have hr2 := run1 hcode ht' hl' hr1 (j := pK p.words.length (nth p.code t) i + 1) (by show (pK _ _ _ : Int) + 1 = _; simp) (by omega) l1 rfl (execT_1 rfl) rfl
      have hlk := hv.lock hx hla
      have hg1 : nth (((s'.view t).regs.set 6 0).set 7 1) 6 = 0 := (set_getn (by decide)).trans (set_get (by rw [hlen8]; decide))
      have hg2 : nth (((s'.view t).regs.set 6 0).set 7 1) 7 = 1 := set_get (by rw [List.length_set, hlen8]; decide)
      have hr3 := run1 hcode ht' hl' hr2 (j := pK p.words.length (nth p.code t) i + 2) (by show ((pK p.words.length (nth p.code t) i + 1 : Nat) : Int) + 1 = _; omega) (by omega) l2 (by show decide ((s'.view t).wait.length = 0) = true; rw [hwl, hk.1]; rfl)
        (z := { s'.view t with pc := ((pK p.words.length (nth p.code t) i + 2 : Nat) : Int) + 1, words := (s'.view t).words.set ((p.words.length : Int) + (nth (nth p.code t) i).a).toNat 1, regs := (((s'.view t).regs.set 6 0).set 7 1).set 6 1 })
        ((execT_13t (i := ⟨13, (p.words.length : Int) + (nth (nth p.code t) i).a, 6, 7⟩) (x := { s'.view t with pc := ((pK p.words.length (nth p.code t) i + 2 : Nat) : Int) + 1, regs := ((s'.view t).regs.set 6 0).set 7 1 }) rfl (hlk.trans (by show lkB (nth s.owner (nth (nth p.code t) i).a.toNat) = nth (((s'.view t).regs.set 6 0).set 7 1) 6; rw [hk.2, hg1]; rfl))).trans
          (congrArg (fun v => ({ s'.view t with pc := ((pK p.words.length (nth p.code t) i + 2 : Nat) : Int) + 1, words := (s'.view t).words.set ((p.words.length : Int) + (nth (nth p.code t) i).a).toNat v, regs := (((s'.view t).regs.set 6 0).set 7 1).set 6 1 } : TS)) hg2)) rfl
      have hr4 := run1 hcode ht' hl' hr3 (j := pK p.words.length (nth p.code t) i + 3) (by show ((pK p.words.length (nth p.code t) i + 2 : Nat) : Int) + 1 = _; omega) (by omega) l3 rfl
        (execT_15f (i := ⟨15, 6, _, 0⟩) rfl (by show ¬ nth ((((s'.view t).regs.set 6 0).set 7 1).set 6 1) 6 = 0; rw [set_get (by rw [List.length_set, List.length_set, hlen8]; decide)]; decide)) rfl
      refine ⟨_, hr4, ?_⟩
      rw [hst0, execT_17 e17]
      have g1 := (hv.pc ((i : Int) + 1) ((pK p.words.length (nth p.code t) i : Int) + 1)).putq (k := 6) hR6 0
      have g2 := (g1.putq (k := 7) (by omega) 1).take (L := p.locks.toNat) ⟨hx.r, hx.w, hx.o, hx.wt⟩ hla t
      have g3 := g2.putq (k := 6) hR6 1
      exact hrel.put hl hl' ⟨g3.w, g3.p, g3.wt, g3.r, g3.rl⟩ ⟨i + 1, by simp, by omega, by rw [l4]; show ((pK p.words.length (nth p.code t) i + 3 : Nat) : Int) + 1 = _; omega⟩
    by_cases e18 : (nth (nth p.code t) i).op = 18
    · obtain ⟨l0, l1, l4, l5⟩ := link_18 (nw := p.words.length) hlt e18
      have hla := hI.1.o17 (.inr e18)
      have hf' := hf
      rw [hst0] at hf'
      unfold ableL at hk
      rw [if_pos (.inr (.inr e18))] at hk
      have hr0 : Reach (linkPg p) m (s'.putT t (s'.view t)) := by rw [MSt.putT_view hl']; exact hr'
      have hr1 := run1 hcode ht' hl' hr0 hb (by omega) l0 rfl (execT_1 rfl) rfl
      have hr2 := run1 hcode ht' hl' hr1 (j := pK p.words.length (nth p.code t) i + 1) (by show (pK _ _ _ : Int) + 1 = _; simp) (by omega) l1 (by show decide ((s'.view t).wait.length < 3) = true; rw [hwl]; exact hk)
        (z := TS.store m { s'.view t with pc := ((pK p.words.length (nth p.code t) i + 1 : Nat) : Int) + 1, regs := (s'.view t).regs.set 6 0 } ⟨false, (p.words.length : Int) + (nth (nth p.code t) i).a, 0⟩)
        ((execT_9 (i := ⟨9, (p.words.length : Int) + (nth (nth p.code t) i).a, 6, 0⟩) rfl).trans (congrArg (fun v => TS.store m { s'.view t with pc := ((pK p.words.length (nth p.code t) i + 1 : Nat) : Int) + 1, regs := (s'.view t).regs.set 6 0 } ⟨false, (p.words.length : Int) + (nth (nth p.code t) i).a, v⟩) (show nth ((s'.view t).regs.set 6 0) 6 = 0 from set_get (by rw [hlen8]; decide)))) (by rw [(store_r _ _).2.2]; rfl)
      refine ⟨_, hr2, ?_⟩
      rw [hst0, unlock_ok e18 hf' rfl]
      have g := ((hv.pc ((i : Int) + 1) (((pK p.words.length (nth p.code t) i + 1 : Nat) : Int) + 1)).putq (k := 6) hR6 0).store (m := m) (L := p.locks.toNat) ⟨hx.r, hx.w, hx.o, hx.wt⟩ (v := ⟨true, (nth (nth p.code t) i).a, 0⟩) (by rw [if_pos rfl]; exact hla)
      refine hrel.put hl hl' g ⟨i + 1, ?_, by omega, ?_⟩
      · rw [(store_r _ _).2.1]; simp
      · rw [(store_r _ _).2.1, l4]; show ((pK p.words.length (nth p.code t) i + 1 : Nat) : Int) + 1 = _; omega
    obtain ⟨hst, hmv⟩ := stepQ (m := m) hcode hb (pK_lt hlt) rfl
    have hsucc := (link_o (nw := p.words.length) hlt e17 e18).2
    by_cases e14 : (nth (nth p.code t) i).op = 14
    · rw [link_14 hlt e14] at hst hmv
      rw [execT_jump e14] at hst
      have hj := hI.2.1 e14
      refine ⟨_, .step hr' ht' (by rw [hcode, hmv]; unfold ableL; simp [e14]) (by rw [hst]; rfl), ?_⟩
      rw [hst, hst0, execT_14 e14]
      exact hrel.put hl hl' (hv.pc _ _) ⟨(nth (nth p.code t) i).a.toNat, by show (nth (nth p.code t) i).a = _; omega, by omega, rfl⟩
    by_cases e15 : (nth (nth p.code t) i).op = 15
    · rw [link_15 hlt e15] at hst hmv
      have hj := hI.2.2 e15
      have hreg := hv.reg (hI.1.o15 (.inl e15))
      have hm2 : mvOK m (nth (linkPg p).code t) (s'.view t) 0 = true := by rw [hcode, hmv]; unfold ableL; simp [e15]
      by_cases hz : (s.view t).reg (nth (nth p.code t) i).a = 0
      · rw [execT_zt (x := { s'.view t with pc := (pK p.words.length (nth p.code t) i : Int) + 1 }) e15 (by rw [← hreg] at hz; exact hz)] at hst
        refine ⟨_, .step hr' ht' hm2 (by rw [hst]; rfl), ?_⟩
        rw [hst, hst0, execT_15t (x := { s.view t with pc := (i : Int) + 1 }) e15 hz]
        exact hrel.put hl hl' (hv.pc _ _) ⟨(nth (nth p.code t) i).b.toNat, by show (nth (nth p.code t) i).b = _; omega, by omega, rfl⟩
      · rw [execT_zf (x := { s'.view t with pc := (pK p.words.length (nth p.code t) i : Int) + 1 }) e15 (by rw [← hreg] at hz; exact hz)] at hst
        refine ⟨_, .step hr' ht' hm2 (by rw [hst]; rfl), ?_⟩
        rw [hst, hst0, execT_15f (x := { s.view t with pc := (i : Int) + 1 }) e15 hz]
        exact hrel.put hl hl' (hv.pc _ _) ⟨i + 1, by simp, by omega, by rw [hsucc]; simp⟩
    rw [link_other hlt e14 e15 e17 e18] at hst hmv
    rw [hst0] at hf
    obtain ⟨g1, g2⟩ := (hv.pc ((i : Int) + 1) ((pK p.words.length (nth p.code t) i : Int) + 1)).exec (m := m) (t := t) (L := p.locks.toNat) ⟨hx.r, hx.w, hx.o, hx.wt⟩ hR6 hI.1 e14 e15 e17 e18 hf rfl
    refine ⟨_, .step hr' ht' (by rw [hcode, hmv]; exact (hv.able e17).trans hk) (by rw [hst]; exact g2), ?_⟩
    rw [hst, hst0]
    refine hrel.put hl hl' g1 ?_
    rw [(execT_pc m t _ { s.view t with pc := (i : Int) + 1 } 0 e14 e15).2, (execT_pc m t _ { s'.view t with pc := (pK p.words.length (nth p.code t) i : Int) + 1 } 0 e14 e15).2]
    exact ⟨i + 1, by simp, by omega, by rw [hsucc]; simp⟩
theorem done_wait (x : TS) (w : Wt) (h : x.wait = []) : ({ ({ x with wait := [w] } : TS).done w with wait := [] } : TS) = x.done w := by
  cases x; simp only at h; subst h; rfl
/-- A step without stores that wait, in the machine with them. -/
theorem step01 (hok : OkPg p) {s : MSt} (hr0 : Reach p 0 s) (hr : Reach p 1 s) {t k : Nat} (ht : t < p.code.length) (hk : mvOK 0 (nth p.code t) (s.view t) k = true) : k = 0 ∧ mvOK 1 (nth p.code t) (s.view t) 0 = true ∧ ((stepT p 0 s t 0).fell = true → (stepT p 1 s t 0).fell = true) ∧ ((stepT p 0 s t 0).fell = false → Reach p 1 (s.putT t (stepT p 0 s t 0))) := by
  have hw : (s.view t).wait = [] := hr0.no_wait hok t ht
  have hl := hr.len hok ht
  rcases mvOK_k hk with ⟨rfl, hlt, hab⟩ | ⟨h1, h2, _⟩
  case inr => rw [hw] at h2; simp at h2; omega
  have hm : mvOK 1 (nth p.code t) (s.view t) 0 = true := mvOK_0 hlt hab
  refine ⟨rfl, hm, ?_⟩
  by_cases hs : isSt (nextIns (nth p.code t) (s.view t).pc).op
  · have x0 := exec_st (m := 0) (t := t) (x := { s.view t with pc := (s.view t).pc + 1 }) hs hw
    have x1 := exec_st (m := 1) (t := t) (x := { s.view t with pc := (s.view t).pc + 1 }) hs hw
    rw [← stepT_e] at x0 x1
    by_cases hp : pendOK t (nextIns (nth p.code t) (s.view t).pc) (s.view t).regs (s.view t).words.length (s.view t).owner
    · have e0 := x0.1 hp
      have e1 := x1.1 hp
      refine ⟨fun h => (by rw [e0, (store_r _ _).2.2] at h; cases h), fun _ => ?_⟩
      have e1' : stepT p 1 s t 0 = { ({ s.view t with pc := (s.view t).pc + 1 } : TS) with wait := [pend (nextIns (nth p.code t) (s.view t).pc) (s.view t).regs] } := by
        rw [e1]; unfold TS.store; rw [if_pos (by decide)]
        show ({ ({ s.view t with pc := (s.view t).pc + 1 } : TS) with wait := (s.view t).wait ++ [_] } : TS) = _
        rw [hw]; rfl
      have hr1 := Reach.step hr ht hm (by rw [e1']; rfl)
      rw [e1'] at hr1
      have hk1 : mvOK 1 (nth p.code t) ((s.putT t ({ ({ s.view t with pc := (s.view t).pc + 1 } : TS) with wait := [pend (nextIns (nth p.code t) (s.view t).pc) (s.view t).regs] })).view t) 1 = true := by
        rw [MSt.view_put hl]; rfl
      have e2 : stepT p 1 (s.putT t ({ ({ s.view t with pc := (s.view t).pc + 1 } : TS) with wait := [pend (nextIns (nth p.code t) (s.view t).pc) (s.view t).regs] })) t 1 = stepT p 0 s t 0 := by
        unfold stepT
        rw [MSt.view_put hl]
        refine Eq.trans ?_ ((done_wait _ (pend (nextIns (nth p.code t) (s.view t).pc) (s.view t).regs) (show ({ s.view t with pc := (s.view t).pc + 1 } : TS).wait = [] from hw)).trans ?_)
        · rfl
        · refine Eq.trans ?_ e0.symm
          unfold TS.store; rw [if_neg (by decide)]
      have hr2 := Reach.step hr1 ht hk1 (by rw [e2, e0, (store_r _ _).2.2]; rfl)
      rw [e2, putT_putT] at hr2
      exact hr2
    · have e0 := x0.2 hp
      exact ⟨fun _ => by rw [x1.2 hp], fun h => by rw [e0] at h; cases h⟩
  · have e : stepT p 0 s t 0 = stepT p 1 s t 0 := by rw [stepT_e, stepT_e]; exact (execT_keep hs).1
    refine ⟨fun h => by rw [← e]; exact h, fun h => ?_⟩
    rw [e] at h ⊢
    exact .step hr ht hm h
theorem reach01 (hok : OkPg p) {s : MSt} (h : Reach p 0 s) : Reach p 1 s := by
  induction h with
  | start => exact .start
  | step hr ht hk hf ih =>
    obtain ⟨rfl, _, _, h2⟩ := step01 hok hr ih ht hk
    exact h2 hf
theorem noFall (hok : OkPg p) (hm : m = 0 ∨ m = 1) (h : ∀ o, Outs p 1 o → o.st ≠ 1) : NoFall p m := by
  have h1 : NoFall p 1 := fun s t k hr ht hk => by
    cases hf : (stepT p 1 s t k).fell with
    | false => rfl
    | true => exact absurd rfl (h _ (.fell hr ht hk hf))
  rcases hm with rfl | rfl
  · intro s t k hr ht hk
    obtain ⟨rfl, h2, h3, _⟩ := step01 hok hr (reach01 hok hr) ht hk
    cases hf : (stepT p 0 s t 0).fell with
    | false => rfl
    | true => rw [h1 s t 0 (reach01 hok hr) ht h2] at h3; exact absurd (h3 hf) (by decide)
  · exact h1
theorem link_to (hok : OkPg p) (hq : OkPg (linkPg p)) (hR : p.regs ≤ 6) (hm : m = 0 ∨ m = 1) {w pr : List Int} (h : Outs p m ⟨0, w, pr⟩) : ∃ l, Outs (linkPg p) m ⟨0, w ++ l, pr⟩ := by
  cases h with
  | done hr he =>
    rename_i s
    obtain ⟨s', hr', hrel⟩ := link_fwd hok hq hR hm hr
    have he2 := ended_iff.1 he
    have : ended (linkPg p) s' = true := ended_iff.2 fun t ht => by
      rw [linkPg_len] at ht
      obtain ⟨h1, h2⟩ := he2 t ht
      obtain ⟨i, ha, hi, hb⟩ := hrel.pc t ht
      rw [linkPg_code ht, hrel.wt t ht, List.length_map]
      refine ⟨?_, h2⟩
      rw [ha] at h1
      obtain rfl : i = (nth p.code t).length := by omega
      rw [hb, pK_len]; omega
    have h3 := Outs.done hr' this
    rw [hrel.w, hrel.pr] at h3
    exact ⟨_, h3⟩
theorem link_from (hok : OkPg p) (hq : OkPg (linkPg p)) (hR : p.regs ≤ 6) (hm : m = 0 ∨ m = 1) (hnf : NoFall p m) {w pr : List Int} (h : Outs (linkPg p) m ⟨0, w, pr⟩) : Outs p m ⟨0, w.take p.words.length, pr⟩ := by
  cases h with
  | done hr' he =>
    rename_i s'
    obtain ⟨s, hr, hrel⟩ := link_bwd hok hq hR hm hnf hr'
    have he2 := ended_iff.1 he
    have : ended p s = true := ended_iff.2 fun t ht => by
      obtain ⟨h1, h2⟩ := he2 t (by rw [linkPg_len]; exact ht)
      rw [linkPg_code ht] at h1
      rw [hrel.wt t ht, List.length_map] at h2
      refine ⟨?_, h2⟩
      rcases hrel.pc t ht with ⟨i, ha, hi, hb⟩ | ⟨i, ha, hi, ho, hb, h6⟩ | ⟨i, ha, hi, ho, hb, h6, h7⟩ | ⟨i, ha, hi, ho, hb, h6⟩ | ⟨i, ha, hi, ho, hb, h6⟩ | ⟨i, ha, hi, ho, hb, h6⟩
      · rcases Nat.lt_or_ge i (nth p.code t).length with h | h
        · have := pK_lt (nw := p.words.length) h; omega
        · omega
      · have := (link_17 (nw := p.words.length) hi ho).2.2.2.2.2; omega
      · have := (link_17 (nw := p.words.length) hi ho).2.2.2.2.2; omega
      · have := (link_17 (nw := p.words.length) hi ho).2.2.2.2.2; omega
      · have := (link_17 (nw := p.words.length) hi ho).2.2.2.2.2; omega
      · have := (link_18 (nw := p.words.length) hi ho).2.2.2; omega
    have h3 := Outs.done hr this
    rw [hrel.w, hrel.pr, List.take_left' (hr.wf hok).words]
    exact h3
end
end Go.Proofs.Ytanhbpofhebbaaa
