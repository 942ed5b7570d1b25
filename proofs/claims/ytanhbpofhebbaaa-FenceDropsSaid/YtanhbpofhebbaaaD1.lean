/-
  Fences ahead of which nothing waits do nothing: in plain Lean.
-/
import Derived.Test.YtanhbpofhebbaaaL4
import Derived.Test.YtanhbpofhebbaaaX13
namespace Go.Proofs.Ytanhbpofhebbaaa
open Go.RowKit
set_option linter.unusedSimpArgs false
set_option linter.unusedVariables false

def stOp (op : Int) : Prop := op = 9 ∨ op = 11 ∨ op = 18
/-- What waits behind an order: more only behind a store. -/
theorem execT_wait {m : Int} {n : Nat} {i : Ins} {x : TS} (h : ¬ stOp i.op) : (execT m n i x).wait = x.wait := by
  have h9 : i.op ≠ 9 := fun e => h (.inl e)
  have h11 : i.op ≠ 11 := fun e => h (.inr (.inl e))
  have h18 : i.op ≠ 18 := fun e => h (.inr (.inr e))
  by_cases e1 : i.op = 1
  · rw [execT_1 e1]; rfl
  by_cases e2 : i.op = 2
  · rw [execT_2 e2]; rfl
  by_cases e3 : i.op = 3
  · rw [execT_3 e3]; rfl
  by_cases e4 : i.op = 4
  · rw [execT_4 e4]; rfl
  by_cases e5 : i.op = 5
  · rw [execT_5 e5]; rfl
  by_cases e6 : i.op = 6
  · rw [execT_6 e6]; rfl
  by_cases e7 : i.op = 7
  · rw [execT_7 e7]; rfl
  by_cases e8 : i.op = 8
  · rw [execT_8 e8]; rfl
  by_cases e10 : i.op = 10
  · by_cases hw : 0 ≤ x.reg i.b ∧ x.reg i.b < (x.words.length : Int)
    · rw [execT_10t e10 hw]; rfl
    · rw [execT_10f e10 hw]
  by_cases e13 : i.op = 13
  · by_cases hw : nth x.words i.a.toNat = x.reg i.b
    · rw [execT_13t e13 hw]
    · rw [execT_13f e13 hw]; rfl
  by_cases e14 : i.op = 14
  · rw [execT_14 e14]
  by_cases e15 : i.op = 15
  · by_cases hw : x.reg i.a = 0
    · rw [execT_15t e15 hw]
    · rw [execT_15f e15 hw]
  by_cases e16 : i.op = 16
  · rw [execT_16 e16]
  by_cases e17 : i.op = 17
  · rw [execT_17 e17]
  rw [execT_no ⟨e1, e2, e3, e4, e5, e6, e7, e8, h9, e10, h11, e13, e14, e15, e16, e17, h18⟩]
theorem execT_next {m : Int} {n : Nat} {c : List Ins} {i : Nat} {x : TS} : (execT m n (nth c i) { x with pc := (i : Int) + 1 }).pc ∈ nextsL c i := by
  unfold nextsL
  by_cases h14 : (nth c i).op = 14
  · rw [if_pos h14, execT_14 h14]; simp
  by_cases h15 : (nth c i).op = 15
  · rw [if_neg h14, if_pos h15]
    by_cases hz : x.reg (nth c i).a = 0
    · rw [execT_15t (x := { x with pc := (i : Int) + 1 }) h15 hz]; simp
    · rw [execT_15f (x := { x with pc := (i : Int) + 1 }) h15 hz]; simp
  · rw [if_neg h14, if_neg h15, (execT_pc m n (nth c i) { x with pc := (i : Int) + 1 } 0 h14 h15).2]; simp
theorem stepT_e' {p : Pg} {m : Int} {s : MSt} {t : Nat} {i : Nat} (h : (s.view t).pc = (i : Int)) (hi : i < (nth p.code t).length) : nextIns (nth p.code t) (s.view t).pc = nth (nth p.code t) i ∧ stepT p m s t 0 = execT m t (nth (nth p.code t) i) { s.view t with pc := (i : Int) + 1 } := by
  have hn : nextIns (nth p.code t) (s.view t).pc = nth (nth p.code t) i := by rw [h, nextIns_t (by omega)]; simp
  exact ⟨hn, by rw [stepT_e, hn, h]⟩
theorem OkPg.jumpsD {p : Pg} (hok : OkPg p) {t : Nat} (ht : t < p.code.length) : JumpsOK (nth p.code t) := fun i hi => (hok.insR ht hi).2
/-- Where a thread stands it may stand; if something waits, something may. -/
theorem Reach.may {p : Pg} (hok : OkPg p) {m : Int} {s : MSt} (h : Reach p m s) : ∀ t, t < p.code.length → ∃ i : Nat, (nth s.ths t).pc = i ∧ i ≤ (nth p.code t).length ∧ ReachI (nth p.code t) i ∧ ((nth s.ths t).wait ≠ [] → MayI (nth p.code t) i) := by
  induction h with
  | start => intro t ht; unfold begin_; rw [nth_map' _ _ _ ht]; exact ⟨0, rfl, Nat.zero_le _, .zero, fun h => absurd rfl h⟩
  | step hr ht hk hf ih =>
    rename_i s t k
    intro u hu
    rw [putT_th (hr.len hok ht)]
    by_cases e : t = u
    case neg => rw [if_neg e]; exact ih u hu
    subst e
    rw [if_pos rfl]
    obtain ⟨i, hi, hil, hri, hmi⟩ := ih t ht
    rcases mvOK_k hk with ⟨rfl, hlt, hab⟩ | ⟨h1, h2, _⟩
    · have hi' : (s.view t).pc = (i : Int) := hi
      have hil' : i < (nth p.code t).length := by rw [hi'] at hlt; omega
      obtain ⟨hn, hst⟩ := stepT_e' (m := m) hi' hil'
      rw [hn] at hab
      have hnx := execT_next (m := m) (n := t) (c := nth p.code t) (i := i) (x := s.view t)
      rw [← hst] at hnx
      have hok2 := nexts_ok (hok.jumpsD ht) hil' hnx
      refine ⟨(stepT p m s t 0).pc.toNat, by show (stepT p m s t 0).pc = _; omega, by omega, .step i _ hri hil' hnx, fun hw => ?_⟩
      have hw' : (stepT p m s t 0).wait ≠ [] := hw
      by_cases hs : stOp (nth (nth p.code t) i).op
      · exact .wait i _ hri hil' (by unfold outB waitsB; rw [if_pos (decide_eq_true (show (nth (nth p.code t) i).op = 9 ∨ (nth (nth p.code t) i).op = 11 ∨ (nth (nth p.code t) i).op = 18 from hs))]) hnx
      · rw [hst, execT_wait hs] at hw'
        have hw0 : (nth s.ths t).wait ≠ [] := hw'
        have hne : ¬ ((nth (nth p.code t) i).op = 12 ∨ (nth (nth p.code t) i).op = 13 ∨ (nth (nth p.code t) i).op = 17) := by
          intro h3
          have h0 : (s.view t).wait.length = 0 := by
            unfold ableL at hab
            unfold stOp at hs
            rw [if_neg hs] at hab
            by_cases h4 : (nth (nth p.code t) i).op = 12 ∨ (nth (nth p.code t) i).op = 13
            · rw [if_pos h4] at hab; exact of_decide_eq_true hab
            · rw [if_neg h4, if_pos (by omega)] at hab
              simp only [Bool.and_eq_true, decide_eq_true_eq] at hab
              exact hab.1
          exact hw0 (List.eq_nil_of_length_eq_zero h0)
        refine .pass i _ hri hil' (hmi hw0) ?_ hnx
        unfold outB waitsB
        unfold stOp at hs
        rw [if_neg (by simpa using hs), if_neg hne]
    · obtain ⟨_, e2, _⟩ := doT_pos (m := m) (n := t) (c := nth p.code t) (c' := nth p.code t) (x := s.view t) (u := 0) h1
      refine ⟨i, by show (stepT p m s t k).pc = _; unfold stepT; rw [e2]; exact hi, hil, hri, fun hw => hmi fun h0 => ?_⟩
      rw [show (s.view t).wait = [] from h0] at h2
      simp at h2; omega

section
variable (c : List Ins)
noncomputable def pD (i : Nat) : Nat := placeL (becL (drpW (mayB c)) c) i
def goneD (i : Nat) : Prop := (nth c i).op = 12 ∧ ¬ MayI c i
end
section
variable {c : List Ins}
theorem mayB_f {i : Nat} : mayB c i = false ↔ ¬ MayI c i := by unfold mayB; split <;> simp_all
theorem dropL_moved : movedL (drpW (mayB c)) c = dropL c := by
  refine moved_put _ _ fun i hi x hx h15 => ?_
  have := drpB_mem hx
  rw [this] at h15
  omega
theorem pD_len : (dropL c).length = pD c c.length := by rw [← dropL_moved, moved_len]; rfl
theorem drp_gone {i : Nat} (hg : goneD c i) : drpW (mayB c) i (nth c i) = [] := by unfold drpW drpB; rw [if_pos ⟨hg.1, mayB_f.2 hg.2⟩]
theorem drp_kept {i : Nat} (hg : ¬ goneD c i) : drpW (mayB c) i (nth c i) = [nth c i] := by unfold drpW drpB; rw [if_neg fun h => hg ⟨h.1, mayB_f.1 h.2⟩]
theorem pD_gone {i : Nat} (h : i < c.length) (hg : goneD c i) : pD c (i + 1) = pD c i := by
  unfold pD
  rw [place_succ _ _ h, drp_gone hg]; rfl
theorem pD_kept {i : Nat} (h : i < c.length) (hg : ¬ goneD c i) : pD c (i + 1) = pD c i + 1 ∧ pD c i < (dropL c).length ∧ nth (dropL c) (pD c i) = fixMv (becL (drpW (mayB c)) c) c i (nth c i) := by
  have h1 := place_succ (drpW (mayB c)) c h
  rw [drp_kept hg] at h1
  have h2 := moved_at (drpW (mayB c)) c (k := 0) h (by rw [drp_kept hg]; simp)
  rw [drp_kept hg, dropL_moved] at h2
  exact ⟨h1, h2.2, h2.1⟩
theorem drop_other {i : Nat} (h : i < c.length) (hg : ¬ goneD c i) (h14 : (nth c i).op ≠ 14) (h15 : (nth c i).op ≠ 15) : nth (dropL c) (pD c i) = nth c i := by
  rw [(pD_kept h hg).2.2]
  unfold fixMv
  rw [if_neg (fun hh => h14 hh.1), if_neg (fun hh => h15 hh.1)]
theorem drop_14 {i : Nat} (h : i < c.length) (hg : ¬ goneD c i) (h14 : (nth c i).op = 14) : nth (dropL c) (pD c i) = { nth c i with a := pD c (nth c i).a.toNat } := by
  rw [(pD_kept h hg).2.2]
  unfold fixMv
  rw [if_pos ⟨h14, .inl h14⟩]; rfl
theorem drop_15 {i : Nat} (h : i < c.length) (hg : ¬ goneD c i) (h15 : (nth c i).op = 15) : nth (dropL c) (pD c i) = { nth c i with b := pD c (nth c i).b.toNat } := by
  rw [(pD_kept h hg).2.2]
  unfold fixMv
  rw [if_neg (fun hh => by omega), if_pos ⟨h15, h15⟩]; rfl
theorem pD_le {i : Nat} (h : i ≤ c.length) : pD c i ≤ (dropL c).length := by
  rw [pD_len]
  exact place_mono _ _ h (Nat.le_refl _)
theorem pD_small : ∀ i, i ≤ c.length → pD c i ≤ i
  | 0, _ => by simp [pD, placeL]
  | i + 1, h => by
    have := pD_small i (by omega)
    by_cases hg : goneD c i
    · rw [pD_gone (by omega) hg]; omega
    · rw [(pD_kept (by omega) hg).1]; omega
theorem able_same {m : Int} {i : Nat} {owner : List Int} {n : Nat} (h : i < c.length) (hg : ¬ goneD c i) : ableL owner n (nth (dropL c) (pD c i)) = ableL owner n (nth c i) := by
  by_cases h14 : (nth c i).op = 14
  · rw [drop_14 h hg h14]; unfold ableL; simp [h14]
  by_cases h15 : (nth c i).op = 15
  · rw [drop_15 h hg h15]; unfold ableL; simp [h15]
  rw [drop_other h hg h14 h15]
end

section
variable {p : Pg} {m : Int}
noncomputable def dropPg (p : Pg) : Pg := { p with code := p.code.map dropL }
theorem dropPg_len : (dropPg p).code.length = p.code.length := by simp [dropPg]
theorem dropPg_code {t : Nat} (h : t < p.code.length) : nth (dropPg p).code t = dropL (nth p.code t) := nth_map' _ _ _ h
/-- An order that is kept does the same, and leads to the same place. -/
theorem drop_step (hok : OkPg p) {t i : Nat} (ht : t < p.code.length) (hi : i < (nth p.code t).length) (hg : ¬ goneD (nth p.code t) i) (x : TS) :
    ∃ j : Nat, j ≤ (nth p.code t).length ∧ (execT m t (nth (nth p.code t) i) { x with pc := (i : Int) + 1 }).pc = (j : Int) ∧
      execT m t (nth (dropL (nth p.code t)) (pD (nth p.code t) i)) { x with pc := (pD (nth p.code t) i : Int) + 1 } = { execT m t (nth (nth p.code t) i) { x with pc := (i : Int) + 1 } with pc := (pD (nth p.code t) j : Int) } := by
  have hs := (pD_kept hi hg).1
  have hj := hok.jumpsD ht i hi
  by_cases h14 : (nth (nth p.code t) i).op = 14
  · have ha := hj.1 h14
    refine ⟨(nth (nth p.code t) i).a.toNat, by omega, ?_, ?_⟩
    · rw [execT_14 h14]; show (nth (nth p.code t) i).a = _; omega
    · rw [drop_14 hi hg h14, execT_14 h14]; exact execT_jump h14
  by_cases h15 : (nth (nth p.code t) i).op = 15
  · have hb := hj.2 h15
    by_cases hz : x.reg (nth (nth p.code t) i).a = 0
    · refine ⟨(nth (nth p.code t) i).b.toNat, by omega, ?_, ?_⟩
      · rw [execT_15t (x := { x with pc := (i : Int) + 1 }) h15 hz]; show (nth (nth p.code t) i).b = _; omega
      · rw [drop_15 hi hg h15, execT_15t (x := { x with pc := (i : Int) + 1 }) h15 hz]; exact execT_zt (x := { x with pc := (pD (nth p.code t) i : Int) + 1 }) h15 hz
    · refine ⟨i + 1, by omega, ?_, ?_⟩
      · rw [execT_15f (x := { x with pc := (i : Int) + 1 }) h15 hz]; simp
      · rw [drop_15 hi hg h15, execT_15f (x := { x with pc := (i : Int) + 1 }) h15 hz, hs]
        refine Eq.trans (execT_zf (x := { x with pc := (pD (nth p.code t) i : Int) + 1 }) h15 hz) ?_
        simp
  obtain ⟨f1, f2⟩ := execT_pc m t (nth (nth p.code t) i) { x with pc := (i : Int) + 1 } ((pD (nth p.code t) i : Int) + 1) h14 h15
  refine ⟨i + 1, by omega, by rw [f2]; simp, ?_⟩
  rw [drop_other hi hg h14 h15, hs]
  refine Eq.trans f1 ?_
  simp
def DR (p : Pg) (t : Nat) (a b : Int) : Prop := ∃ i : Nat, a = i ∧ i ≤ (nth p.code t).length ∧ b = (pD (nth p.code t) i : Int)
/-- A fence that is gone is passed. -/
theorem gone_step (hok : OkPg p) {s : MSt} (hr : Reach p m s) {t i : Nat} (ht : t < p.code.length) (hi : (nth s.ths t).pc = (i : Int)) (hil : i < (nth p.code t).length) (hg : goneD (nth p.code t) i) : (nth s.ths t).wait = [] ∧ mvOK m (nth p.code t) (s.view t) 0 = true ∧ stepT p m s t 0 = { s.view t with pc := (i : Int) + 1 } := by
  obtain ⟨i', h1, _, _, h4⟩ := hr.may hok t ht
  obtain rfl : i' = i := by rw [hi] at h1; omega
  have hw : (nth s.ths t).wait = [] := Classical.byContradiction fun h => hg.2 (h4 h)
  have hi' : (s.view t).pc = (i' : Int) := hi
  obtain ⟨hn, hst⟩ := stepT_e' (m := m) hi' hil
  have h12 := hg.1
  refine ⟨hw, mvOK_0 (by rw [hi']; omega) ?_, ?_⟩
  · rw [hn]; unfold ableL; rw [if_neg (by omega), if_pos (.inl h12)]; show decide ((nth s.ths t).wait.length = 0) = true; rw [hw]; rfl
  · rw [hst, execT_no ⟨by omega, by omega, by omega, by omega, by omega, by omega, by omega, by omega, by omega, by omega, by omega, by omega, by omega, by omega, by omega, by omega, by omega⟩]
theorem drop_fwd (hok : OkPg p) (hq : OkPg (dropPg p)) : ∀ o, Outs p m o → Outs (dropPg p) m o := by
  refine sim_outs (fun s s' => RelP p.code.length (DR p) s s') ⟨_, .start, begin_rel dropPg_len rfl rfl rfl fun t ht => ⟨0, rfl, Nat.zero_le _, by simp [pD, placeL]⟩⟩ ?_ ?_ ?_
  · intro s s' t k hr hr' hrel ht hk
    have hl := hr.len hok ht
    have htq : t < (dropPg p).code.length := by rw [dropPg_len]; exact ht
    have hl' := hr'.len hq htq
    have hv := hrel.view ht
    have hcode := dropPg_code ht
    by_cases hk0 : 0 < k
    · obtain ⟨e1, e2, e3⟩ := doT_pos (m := m) (n := t) (c := nth p.code t) (c' := nth (dropPg p).code t) (x := s.view t) (u := (nth s'.ths t).pc) hk0
      have hst : stepT (dropPg p) m s' t k = { stepT p m s t k with pc := (nth s'.ths t).pc } := by unfold stepT; rw [hv]; exact e1
      have hf : (stepT p m s t k).fell = false := e3
      rw [if_neg (by rw [hf]; decide)]
      refine ⟨_, .step hr' htq (by rw [hv, mvOK_pos (c := nth p.code t) hk0]; exact hk) (by rw [hst]; exact hf), ?_⟩
      rw [hst]
      exact hrel.put hl hl' fun h => by rw [show (stepT p m s t k).pc = (nth s.ths t).pc from e2]; exact hrel.pc t ht
    obtain rfl : k = 0 := by omega
    rcases mvOK_k hk with ⟨_, hlt, hab⟩ | ⟨h, _⟩
    case inr => omega
    obtain ⟨i, hi, hil, hb⟩ := hrel.pc t ht
    have hi' : (s.view t).pc = (i : Int) := hi
    have hil' : i < (nth p.code t).length := by rw [hi'] at hlt; omega
    by_cases hg : goneD (nth p.code t) i
    · obtain ⟨_, _, e⟩ := gone_step hok hr ht hi hil' hg
      rw [if_neg (by rw [e]; exact Bool.false_ne_true)]
      refine ⟨s', hr', ?_⟩
      rw [e]
      exact hrel.left hl fun _ => ⟨i + 1, by simp, by omega, by rw [pD_gone hil' hg]; exact hb⟩
    obtain ⟨hn, hst⟩ := stepT_e' (m := m) hi' hil'
    rw [hn] at hab
    obtain ⟨hk1, hk2, _⟩ := pD_kept hil' hg
    have hb' : (s'.view t).pc = (pD (nth p.code t) i : Int) := hb
    obtain ⟨hn2, hst2⟩ := stepT_e' (p := dropPg p) (m := m) hb' (by rw [hcode]; exact hk2)
    rw [hcode] at hn2 hst2
    obtain ⟨j, hjl, hj1, hj2⟩ := drop_step hok (m := m) ht hil' hg (s.view t)
    have e2 : stepT (dropPg p) m s' t 0 = { stepT p m s t 0 with pc := (pD (nth p.code t) j : Int) } := by rw [hst2, hst, hv]; exact hj2
    have hab2 : mvOK m (nth (dropPg p).code t) (s'.view t) 0 = true := by
      refine mvOK_0 (by rw [hcode, hb']; omega) ?_
      rw [hcode, hn2, able_same (m := m) hil' hg, show (s'.view t).owner = (s.view t).owner from hrel.owner, show (s'.view t).wait.length = (s.view t).wait.length by show (nth s'.ths t).wait.length = _; rw [hrel.wait t ht]; rfl]
      exact hab
    split
    · rename_i hf
      have := Outs.fell hr' htq hab2 (by rw [e2]; exact hf)
      rw [e2] at this; exact this
    · rename_i hf
      refine ⟨_, .step hr' htq hab2 (by rw [e2]; simpa using hf), ?_⟩
      rw [e2]
      exact hrel.put hl hl' fun _ => ⟨j, by rw [hst]; exact hj1, hjl, rfl⟩
  · intro s s' hr hr' hrel he
    have he2 := ended_iff.1 he
    have : ended (dropPg p) s' = true := ended_iff.2 fun t ht => by
      rw [dropPg_len] at ht
      obtain ⟨h1, h2⟩ := he2 t ht
      obtain ⟨i, hi, hil, hb⟩ := hrel.pc t ht
      rw [dropPg_code ht, hrel.wait t ht]
      refine ⟨?_, h2⟩
      rw [hi] at h1
      obtain rfl : i = (nth p.code t).length := by omega
      rw [hb, pD_len]; omega
    have h2 := Outs.done hr' this
    rw [hrel.words, hrel.prints] at h2
    exact h2
  · intro s s' hr hr' hrel he hst
    have hno : ∀ t i : Nat, t < p.code.length → (nth s.ths t).pc = i → i < (nth p.code t).length → ¬ goneD (nth p.code t) i := by
      intro t i ht hi hil hg
      have h0 := hst t 0 ht
      rw [(gone_step hok hr ht hi hil hg).2.1] at h0; cases h0
    have hstq : Stuck_ (dropPg p) m s' := by
      intro u k hu
      rw [dropPg_len] at hu
      rw [dropPg_code hu]
      cases hc : mvOK m (dropL (nth p.code u)) (s'.view u) k with
      | false => rfl
      | true =>
        exfalso
        by_cases hk0 : 0 < k
        · have h0 := hst u k hu
          rw [hrel.view hu, mvOK_pos (c := nth p.code u) hk0, h0] at hc; cases hc
        obtain rfl : k = 0 := by omega
        rcases mvOK_k hc with ⟨_, h3, h4⟩ | ⟨h3, _⟩
        case inr => omega
        obtain ⟨i, hi, hil, hb⟩ := hrel.pc u hu
        have hb' : (s'.view u).pc = (pD (nth p.code u) i : Int) := hb
        have hlt : i < (nth p.code u).length := by
          rcases Nat.lt_or_ge i (nth p.code u).length with h | h
          · exact h
          · obtain rfl : i = (nth p.code u).length := by omega
            rw [hb', pD_len] at h3; omega
        have hg := hno u i hu hi hlt
        have hn2 : nextIns (dropL (nth p.code u)) (s'.view u).pc = nth (dropL (nth p.code u)) (pD (nth p.code u) i) := by rw [hb', nextIns_t (by have := (pD_kept hlt hg).2.1; omega)]; simp
        have h0 := hst u 0 hu
        have hi' : (s.view u).pc = (i : Int) := hi
        rw [hn2, able_same (m := m) hlt hg] at h4
        have : mvOK m (nth p.code u) (s.view u) 0 = true := mvOK_0 (by rw [hi']; omega) (by
          rw [(stepT_e' (m := m) hi' hlt).1, show (s.view u).owner = (s'.view u).owner from hrel.owner.symm, show (s.view u).wait.length = (s'.view u).wait.length by show (nth s.ths u).wait.length = (nth s'.ths u).wait.length; rw [hrel.wait u hu]]
          exact h4)
        rw [this] at h0; cases h0
    have hne : ended (dropPg p) s' = false := by
      cases hc : ended (dropPg p) s' with
      | false => rfl
      | true =>
        exfalso
        have he2 := ended_iff.1 hc
        have : ended p s = true := ended_iff.2 fun t ht => by
          obtain ⟨a1, a2⟩ := he2 t (by rw [dropPg_len]; exact ht)
          obtain ⟨i, hi, hil, hb⟩ := hrel.pc t ht
          rw [hrel.wait t ht] at a2
          refine ⟨?_, a2⟩
          rw [hi]
          rw [hb, dropPg_code ht] at a1
          rcases Nat.lt_or_ge i (nth p.code t).length with h | h
          · have := (pD_kept h (hno t i ht hi h)).2.1; omega
          · omega
        rw [this] at he; cases he
    have h2 := Outs.stuck hr' hne hstq
    rw [hrel.words, hrel.prints] at h2
    exact h2

/-! ### Back -/
/-- Over fences that are gone. -/
theorem pass_gone (hok : OkPg p) {t : Nat} (ht : t < p.code.length) : ∀ (n i : Nat), (nth p.code t).length - i = n → i ≤ (nth p.code t).length → ∀ {s : MSt}, Reach p m s → (nth s.ths t).pc = (i : Int) →
    ∃ s2 j, Reach p m s2 ∧ RelP p.code.length (At1 t ((j : Nat) : Int)) s s2 ∧ j ≤ (nth p.code t).length ∧ pD (nth p.code t) j = pD (nth p.code t) i ∧ (j < (nth p.code t).length → ¬ goneD (nth p.code t) j)
  | n, i, hn, hil, s, hr, hi => by
    by_cases hg : i < (nth p.code t).length ∧ goneD (nth p.code t) i
    · obtain ⟨h1, h2⟩ := hg
      match n with
      | 0 => omega
      | n + 1 =>
        obtain ⟨_, hm, e⟩ := gone_step hok hr ht hi h1 h2
        have hl := hr.len hok ht
        have hr2 := Reach.step hr ht hm (by rw [e]; rfl)
        rw [e] at hr2
        obtain ⟨s2, j, g1, g2, g3, g4, g5⟩ := pass_gone hok ht n (i + 1) (by omega) (by omega) hr2 (by rw [putT_th hl, if_pos rfl]; simp)
        exact ⟨s2, j, g1, (RelP.one hl).trans g2 fun _ _ _ _ _ h1 h2 => h1.trans h2, g3, by rw [g4, pD_gone h1 h2], g5⟩
    · refine ⟨s, i, hr, ⟨rfl, rfl, rfl, fun _ _ => rfl, fun _ _ => rfl, fun u hu => ?_⟩, hil, rfl, fun h h2 => hg ⟨h, h2⟩⟩
      unfold At1; split
      · rename_i e; subst e; exact hi
      · rfl
def DB (p : Pg) (t : Nat) (b a : Int) : Prop := DR p t a b
theorem normD (hok : OkPg p) {s s' : MSt} (hr : Reach p m s) (hrel : RelP p.code.length (DB p) s' s) {t : Nat} (ht : t < p.code.length) :
    ∃ s2 j, Reach p m s2 ∧ RelP p.code.length (DB p) s' s2 ∧ RelP p.code.length (At1 t ((j : Nat) : Int)) s s2 ∧ j ≤ (nth p.code t).length ∧ (nth s'.ths t).pc = (pD (nth p.code t) j : Int) ∧ (j < (nth p.code t).length → ¬ goneD (nth p.code t) j) := by
  obtain ⟨i, hi, hil, hb⟩ := hrel.pc t ht
  obtain ⟨s2, j, g1, g2, g3, g4, g5⟩ := pass_gone hok ht _ i rfl hil hr hi
  exact ⟨s2, j, g1, hrel.then1 g2 fun _ => ⟨j, rfl, g3, by rw [hb, g4]⟩, g2, g3, by rw [hb, g4], g5⟩
theorem normAllD (hok : OkPg p) {s s' : MSt} (hr : Reach p m s) (hrel : RelP p.code.length (DB p) s' s) : ∀ n, n ≤ p.code.length →
    ∃ s2, Reach p m s2 ∧ RelP p.code.length (DB p) s' s2 ∧ ∀ t, t < n → ∃ j : Nat, (nth s2.ths t).pc = j ∧ j ≤ (nth p.code t).length ∧ (nth s'.ths t).pc = (pD (nth p.code t) j : Int) ∧ (j < (nth p.code t).length → ¬ goneD (nth p.code t) j)
  | 0, _ => ⟨s, hr, hrel, fun t ht => absurd ht (by omega)⟩
  | n + 1, hn => by
    obtain ⟨s1, h1, h2, h3⟩ := normAllD hok hr hrel n (by omega)
    obtain ⟨s2, j, g1, g2, g3, g4, g5, g6⟩ := normD hok h1 h2 (t := n) (by omega)
    obtain ⟨a1, a2⟩ := g3.at1
    refine ⟨s2, g1, g2, fun t ht => ?_⟩
    by_cases e : t = n
    · subst e; exact ⟨j, a1 (by omega), g4, g5, g6⟩
    · obtain ⟨j', b1, b2, b3, b4⟩ := h3 t (by omega)
      exact ⟨j', by rw [a2 t (by omega) e]; exact b1, b2, b3, b4⟩
theorem drop_bwd (hok : OkPg p) (hq : OkPg (dropPg p)) : ∀ o, Outs (dropPg p) m o → Outs p m o := by
  refine sim_outs (fun s' s => RelP p.code.length (DB p) s' s) ⟨_, .start, ?_⟩ ?_ ?_ ?_
  · have := begin_rel (p := dropPg p) (q := p) (R := DB p) (by rw [dropPg_len]) rfl rfl rfl (fun t ht => ⟨0, rfl, Nat.zero_le _, by simp [pD, placeL]⟩)
    rwa [dropPg_len] at this
  · intro s' s t k hr' hr hrel ht hk
    rw [dropPg_len] at ht
    have hcode := dropPg_code ht
    have hl' := hr'.len hq (by rw [dropPg_len]; exact ht)
    by_cases hk0 : 0 < k
    · have hl := hr.len hok ht
      have hv := hrel.view ht
      obtain ⟨e1, e2, e3⟩ := doT_pos (m := m) (n := t) (c := nth (dropPg p).code t) (c' := nth p.code t) (x := s'.view t) (u := (nth s.ths t).pc) hk0
      have hst : stepT p m s t k = { stepT (dropPg p) m s' t k with pc := (nth s.ths t).pc } := by unfold stepT; rw [hv]; exact e1
      have hf : (stepT (dropPg p) m s' t k).fell = false := e3
      rw [if_neg (by rw [hf]; decide)]
      refine ⟨_, .step hr ht (by rw [hv, mvOK_pos (c := nth (dropPg p).code t) hk0]; exact hk) (by rw [hst]; exact hf), ?_⟩
      rw [hst]
      exact hrel.put hl' hl fun h => by rw [show (stepT (dropPg p) m s' t k).pc = (nth s'.ths t).pc from e2]; exact hrel.pc t ht
    obtain rfl : k = 0 := by omega
    rcases mvOK_k hk with ⟨_, hlt, hab⟩ | ⟨h, _⟩
    case inr => omega
    obtain ⟨s2, j, g1, g2, g3, g4, g5, g6⟩ := normD hok hr hrel ht
    have hl := g1.len hok ht
    have hv := g2.view ht
    have hp' : (s'.view t).pc = (pD (nth p.code t) j : Int) := g5
    rw [hp', hcode] at hlt
    have hjl : j < (nth p.code t).length := by
      rcases Nat.lt_or_ge j (nth p.code t).length with h | h
      · exact h
      · obtain rfl : j = (nth p.code t).length := by omega
        rw [pD_len] at hlt; omega
    have hg := g6 hjl
    obtain ⟨hk1, hk2, _⟩ := pD_kept hjl hg
    obtain ⟨hn', hst'⟩ := stepT_e' (p := dropPg p) (m := m) hp' (by rw [hcode]; exact hk2)
    rw [hn', hcode, able_same (m := m) hjl hg] at hab
    rw [hcode] at hst'
    have hp2 : (s2.view t).pc = (j : Int) := g3.at1.1 ht
    obtain ⟨hn2, hst2⟩ := stepT_e' (m := m) hp2 hjl
    obtain ⟨q, hql, hq1, hq2⟩ := drop_step hok (m := m) ht hjl hg (s'.view t)
    have e' : stepT (dropPg p) m s' t 0 = { stepT p m s2 t 0 with pc := (pD (nth p.code t) q : Int) } := by rw [hst', hst2, hv]; exact hq2
    have hq1' : (stepT p m s2 t 0).pc = (q : Int) := by rw [hst2, hv]; exact hq1
    have hab2 : mvOK m (nth p.code t) (s2.view t) 0 = true := mvOK_0 (by rw [hp2]; omega) (by
      rw [hn2, show (s2.view t).owner = (s'.view t).owner from g2.owner, show (s2.view t).wait.length = (s'.view t).wait.length by show (nth s2.ths t).wait.length = _; rw [g2.wait t ht]; rfl]
      exact hab)
    split
    · rename_i hf
      rw [e'] at hf ⊢
      exact Outs.fell g1 ht hab2 hf
    · rename_i hf
      rw [e'] at hf
      refine ⟨_, .step g1 ht hab2 (by simpa using hf), ?_⟩
      rw [e']
      have h5 := g2.put hl' hl (y := { stepT p m s2 t 0 with pc := (pD (nth p.code t) q : Int) }) (u := (q : Int)) (fun _ => ⟨q, rfl, hql, rfl⟩)
      rw [show ({ ({ stepT p m s2 t 0 with pc := (pD (nth p.code t) q : Int) } : TS) with pc := (q : Int) } : TS) = stepT p m s2 t 0 by rw [← hq1']] at h5
      exact h5
  · intro s' s hr' hr hrel he
    obtain ⟨s2, h1, h2, h3⟩ := normAllD hok hr hrel _ (Nat.le_refl _)
    have he2 := ended_iff.1 he
    have : ended p s2 = true := ended_iff.2 fun t ht => by
      obtain ⟨a1, a2⟩ := he2 t (by rw [dropPg_len]; exact ht)
      obtain ⟨j, b1, b2, b3, b4⟩ := h3 t ht
      rw [h2.wait t ht]
      refine ⟨?_, a2⟩
      rw [b1]
      rw [b3, dropPg_code ht] at a1
      rcases Nat.lt_or_ge j (nth p.code t).length with h | h
      · have := (pD_kept h (b4 h)).2.1; omega
      · omega
    have h4 := Outs.done h1 this
    rw [h2.words, h2.prints] at h4
    exact h4
  · intro s' s hr' hr hrel he hst
    obtain ⟨s2, h1, h2, h3⟩ := normAllD hok hr hrel _ (Nat.le_refl _)
    have hstp : Stuck_ p m s2 := by
      intro t k ht
      cases hc : mvOK m (nth p.code t) (s2.view t) k with
      | false => rfl
      | true =>
        exfalso
        by_cases hk0 : 0 < k
        · have h0 := hst t k (by rw [dropPg_len]; exact ht)
          rw [h2.view ht, mvOK_pos (c := nth (dropPg p).code t) hk0, h0] at hc; cases hc
        obtain rfl : k = 0 := by omega
        rcases mvOK_k hc with ⟨_, c1, c2⟩ | ⟨c1, _⟩
        case inr => omega
        obtain ⟨j, b1, b2, b3, b4⟩ := h3 t ht
        have b1' : (s2.view t).pc = (j : Int) := b1
        have hjl : j < (nth p.code t).length := by rw [b1'] at c1; omega
        have hg := b4 hjl
        rw [(stepT_e' (m := m) b1' hjl).1] at c2
        have h0 := hst t 0 (by rw [dropPg_len]; exact ht)
        rw [dropPg_code ht] at h0
        have b3' : (s'.view t).pc = (pD (nth p.code t) j : Int) := b3
        rw [mvOK_0 (by rw [b3']; have := (pD_kept hjl hg).2.1; omega) (by
          rw [b3', nextIns_t (by have := (pD_kept hjl hg).2.1; omega)]
          simp only [Int.toNat_natCast]
          rw [able_same (m := m) hjl hg, show (s'.view t).owner = (s2.view t).owner from h2.owner.symm, show (s'.view t).wait.length = (s2.view t).wait.length by show (nth s'.ths t).wait.length = (nth s2.ths t).wait.length; rw [h2.wait t ht]]
          exact c2)] at h0
        cases h0
    have hne : ended p s2 = false := by
      cases hc : ended p s2 with
      | false => rfl
      | true =>
        exfalso
        have he2 := ended_iff.1 hc
        have : ended (dropPg p) s' = true := ended_iff.2 fun t ht => by
          rw [dropPg_len] at ht
          obtain ⟨a1, a2⟩ := he2 t ht
          obtain ⟨j, b1, b2, b3, b4⟩ := h3 t ht
          rw [h2.wait t ht] at a2
          refine ⟨?_, a2⟩
          rw [b1] at a1
          obtain rfl : j = (nth p.code t).length := by omega
          rw [b3, dropPg_code ht, pD_len]; omega
        rw [this] at he; cases he
    have h4 := Outs.stuck h1 hne hstp
    rw [h2.words, h2.prints] at h4
    exact h4
theorem drop_outs (hok : OkPg p) (hq : OkPg (dropPg p)) (o : Outc) : Outs p m o ↔ Outs (dropPg p) m o := ⟨drop_fwd hok hq o, drop_bwd hok hq o⟩
theorem dropPg_ok (h : OkPg p) : OkPg (dropPg p) := by
  have hsm : ∀ t, t < p.code.length → (dropL (nth p.code t)).length ≤ 400 := fun t ht => by
    rw [pD_len]
    have := pD_small (c := nth p.code t) _ (Nat.le_refl _)
    have := h.len t ht
    omega
  refine ⟨by rw [dropPg_len]; exact h.code, h.words, h.locks, h.regs, fun t ht => ?_, fun t j ht hj => ?_⟩
  · rw [dropPg_len] at ht
    rw [dropPg_code ht]; exact hsm t ht
  · rw [dropPg_len] at ht
    rw [dropPg_code ht] at hj ⊢
    have hsz := hsm t ht
    obtain ⟨i, k, hi, hk, e⟩ := moved_from (drpW (mayB (nth p.code t))) (nth p.code t) _ (Nat.le_refl _) j (by rw [← moved_len, dropL_moved]; exact hj)
    have hg : ¬ goneD (nth p.code t) i := fun hg => by rw [drp_gone hg] at hk; simp at hk
    rw [drp_kept hg] at hk
    obtain rfl : k = 0 := by simpa using hk
    have e' : j = pD (nth p.code t) i := e
    rw [e']
    have ho := h.ins t i ht hi
    have hjo := h.jumpsD ht
    by_cases h14 : (nth (nth p.code t) i).op = 14
    · rw [drop_14 hi hg h14]
      have ha := (hjo i hi).1 h14
      exact OkIns.jump h14 ho ⟨by omega, by omega⟩ ⟨by omega, by have := pD_le (c := nth p.code t) (i := (nth (nth p.code t) i).a.toNat) (by omega); omega⟩
    by_cases h15 : (nth (nth p.code t) i).op = 15
    · rw [drop_15 hi hg h15]
      have hb := (hjo i hi).2 h15
      exact OkIns.zero (p := p) (p' := dropPg p) rfl rfl rfl h15 ho ⟨by omega, by omega⟩ ⟨by omega, by have := pD_le (c := nth p.code t) (i := (nth (nth p.code t) i).b.toNat) (by omega); omega⟩
    rw [drop_other hi hg h14 h15]
    exact OkIns.move (p := p) (p' := dropPg p) rfl rfl rfl h14 h15 ho
end
end Go.Proofs.Ytanhbpofhebbaaa
