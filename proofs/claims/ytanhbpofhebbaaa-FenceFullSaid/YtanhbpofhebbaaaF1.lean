/-
  With a fence behind each store nothing that waits is seen: in plain Lean.
-/
import Derived.Test.YtanhbpofhebbaaaL4
import Derived.Test.YtanhbpofhebbaaaX10
namespace Go.Proofs.Ytanhbpofhebbaaa
open Go.RowKit
set_option linter.unusedSimpArgs false
set_option linter.unusedVariables false

def isSt (op : Int) : Prop := op = 9 ∨ op = 11 ∨ op = 18
/-- An order that lets nothing wait: in which mode it is done does not matter; what waits stays. -/
theorem execT_keep {m m' : Int} {n : Nat} {i : Ins} {x : TS} (h : ¬ isSt i.op) : execT m n i x = execT m' n i x ∧ (execT m n i x).wait = x.wait ∧ (i.op ≠ 17 → (execT m n i x).owner = x.owner) ∧ (i.op = 17 → (execT m n i x).owner = x.owner.set i.a.toNat n) ∧ (i.op = 17 → (execT m n i x).fell = x.fell) := by
  have h9 : i.op ≠ 9 := fun e => h (.inl e)
  have h11 : i.op ≠ 11 := fun e => h (.inr (.inl e))
  have h18 : i.op ≠ 18 := fun e => h (.inr (.inr e))
  by_cases e1 : i.op = 1
  · rw [execT_1 e1, execT_1 e1]; exact ⟨rfl, rfl, fun _ => rfl, fun e => absurd e (by omega), fun e => absurd e (by omega)⟩
  by_cases e2 : i.op = 2
  · rw [execT_2 e2, execT_2 e2]; exact ⟨rfl, rfl, fun _ => rfl, fun e => absurd e (by omega), fun e => absurd e (by omega)⟩
  by_cases e3 : i.op = 3
  · rw [execT_3 e3, execT_3 e3]; exact ⟨rfl, rfl, fun _ => rfl, fun e => absurd e (by omega), fun e => absurd e (by omega)⟩
  by_cases e4 : i.op = 4
  · rw [execT_4 e4, execT_4 e4]; exact ⟨rfl, rfl, fun _ => rfl, fun e => absurd e (by omega), fun e => absurd e (by omega)⟩
  by_cases e5 : i.op = 5
  · rw [execT_5 e5, execT_5 e5]; exact ⟨rfl, rfl, fun _ => rfl, fun e => absurd e (by omega), fun e => absurd e (by omega)⟩
  by_cases e6 : i.op = 6
  · rw [execT_6 e6, execT_6 e6]; exact ⟨rfl, rfl, fun _ => rfl, fun e => absurd e (by omega), fun e => absurd e (by omega)⟩
  by_cases e7 : i.op = 7
  · rw [execT_7 e7, execT_7 e7]; exact ⟨rfl, rfl, fun _ => rfl, fun e => absurd e (by omega), fun e => absurd e (by omega)⟩
  by_cases e8 : i.op = 8
  · rw [execT_8 e8, execT_8 e8]; exact ⟨rfl, rfl, fun _ => rfl, fun e => absurd e (by omega), fun e => absurd e (by omega)⟩
  by_cases e10 : i.op = 10
  · by_cases hw : 0 ≤ x.reg i.b ∧ x.reg i.b < (x.words.length : Int)
    · rw [execT_10t e10 hw, execT_10t e10 hw]; exact ⟨rfl, rfl, fun _ => rfl, fun e => absurd e (by omega), fun e => absurd e (by omega)⟩
    · rw [execT_10f e10 hw, execT_10f e10 hw]; exact ⟨rfl, rfl, fun _ => rfl, fun e => absurd e (by omega), fun e => absurd e (by omega)⟩
  by_cases e13 : i.op = 13
  · by_cases hw : nth x.words i.a.toNat = x.reg i.b
    · rw [execT_13t e13 hw, execT_13t e13 hw]; exact ⟨rfl, rfl, fun _ => rfl, fun e => absurd e (by omega), fun e => absurd e (by omega)⟩
    · rw [execT_13f e13 hw, execT_13f e13 hw]; exact ⟨rfl, rfl, fun _ => rfl, fun e => absurd e (by omega), fun e => absurd e (by omega)⟩
  by_cases e14 : i.op = 14
  · rw [execT_14 e14, execT_14 e14]; exact ⟨rfl, rfl, fun _ => rfl, fun e => absurd e (by omega), fun e => absurd e (by omega)⟩
  by_cases e15 : i.op = 15
  · by_cases hw : x.reg i.a = 0
    · rw [execT_15t e15 hw, execT_15t e15 hw]; exact ⟨rfl, rfl, fun _ => rfl, fun e => absurd e (by omega), fun e => absurd e (by omega)⟩
    · rw [execT_15f e15 hw, execT_15f e15 hw]; exact ⟨rfl, rfl, fun _ => rfl, fun e => absurd e (by omega), fun e => absurd e (by omega)⟩
  by_cases e16 : i.op = 16
  · rw [execT_16 e16, execT_16 e16]; exact ⟨rfl, rfl, fun _ => rfl, fun e => absurd e (by omega), fun e => absurd e (by omega)⟩
  by_cases e17 : i.op = 17
  · rw [execT_17 e17, execT_17 e17]; exact ⟨rfl, rfl, fun e => absurd e17 e, fun _ => rfl, fun _ => rfl⟩
  rw [execT_no ⟨e1, e2, e3, e4, e5, e6, e7, e8, h9, e10, h11, e13, e14, e15, e16, e17, h18⟩, execT_no ⟨e1, e2, e3, e4, e5, e6, e7, e8, h9, e10, h11, e13, e14, e15, e16, e17, h18⟩]
  exact ⟨rfl, rfl, fun _ => rfl, fun e => absurd e e17, fun e => absurd e e17⟩
theorem execT0_wait {n : Nat} {i : Ins} {x : TS} : (execT 0 n i x).wait = x.wait := by
  have hs : ∀ (x : TS) w, (x.store 0 w).wait = x.wait := fun x w => by unfold TS.store; rw [if_neg (by decide)]; rfl
  by_cases h : isSt i.op
  · rcases h with h | h | h
    · rw [execT_9 h, hs]
    · by_cases hw : 0 ≤ x.reg i.a ∧ x.reg i.a < (x.words.length : Int)
      · rw [execT_11t h hw, hs]
      · rw [execT_11f h hw]
    · by_cases hw : nth x.owner i.a.toNat ≠ n
      · rw [execT_18a h hw]
      · by_cases hh : ∃ j, j < x.wait.length ∧ (nth x.wait j).lock = true ∧ (nth x.wait j).wh = i.a
        · obtain ⟨j, hj, h1, h2⟩ := hh
          rw [execT_18b h hw j hj h1 h2]
        · rw [execT_18c h hw (fun q hq hc => hh ⟨q, hq, hc⟩), hs]
  · exact (execT_keep (m' := 0) h).2.1
/-- Without stores that wait nothing waits. -/
theorem Reach.no_wait {p : Pg} {s : MSt} (hok : OkPg p) (h : Reach p 0 s) : ∀ t, t < p.code.length → (nth s.ths t).wait = [] := by
  induction h with
  | start => intro t ht; unfold begin_; rw [nth_map' _ _ _ ht]
  | step hr ht hk hf ih =>
    rename_i s t k
    intro u hu
    rw [putT_th (hr.len hok ht)]
    split
    · rename_i e; subst e
      have h0 : (s.view t).wait = [] := ih t ht
      rcases mvOK_k hk with ⟨rfl, _, _⟩ | ⟨h1, h2, _⟩
      · show (stepT p 0 s t 0).wait = []
        rw [stepT_e, execT0_wait]; exact h0
      · rw [h0] at h2; simp at h2; omega
    · exact ih u hu

section
variable (c : List Ins)
def wF (i : Nat) : Bool := waitsB (nth c i).op
def pF (i : Nat) : Nat := placeL (becL (fenW (wF c)) c) i
def fenL : List Ins := withL (wF c) c
end
section
variable {c : List Ins}
theorem wF_t {i : Nat} : wF c i = true ↔ isSt (nth c i).op := by unfold wF waitsB isSt; simp
theorem pF_len : (fenL c).length = pF c c.length := by unfold fenL; rw [← fen_put, moved_len]; rfl
theorem fenW_len {i : Nat} : (fenW (wF c) i (nth c i)).length = if wF c i = true then 2 else 1 := by unfold fenW fenB; split <;> rfl
theorem pF_succ {i : Nat} (h : i < c.length) : pF c (i + 1) = pF c i + if wF c i = true then 2 else 1 := by
  unfold pF
  rw [place_succ _ _ h, fenW_len]
theorem pF_at {i : Nat} (h : i < c.length) : nth (fenL c) (pF c i) = fixMv (becL (fenW (wF c)) c) c i (nth c i) ∧ pF c i < (fenL c).length := by
  have h1 := moved_at (fenW (wF c)) c (k := 0) h (by rw [fenW_len]; split <;> omega)
  rw [fen_put] at h1
  have e : nth (fenW (wF c) i (nth c i)) 0 = nth c i := by unfold fenW fenB; split <;> rfl
  rw [e] at h1
  exact h1
theorem pF_fence {i : Nat} (h : i < c.length) (hw : wF c i = true) : nth (fenL c) (pF c i + 1) = ⟨12, 0, 0, 0⟩ ∧ pF c i + 1 < (fenL c).length := by
  have h1 := moved_at (fenW (wF c)) c (k := 1) h (by rw [fenW_len, if_pos hw]; omega)
  rw [fen_put] at h1
  have e : nth (fenW (wF c) i (nth c i)) 1 = ⟨12, 0, 0, 0⟩ := by unfold fenW fenB; rw [if_pos hw]; rfl
  rw [e] at h1
  refine ⟨h1.1.trans ?_, h1.2⟩
  unfold fixMv
  rw [if_neg (fun h => absurd h.1 (by decide)), if_neg (fun h => absurd h.1 (by decide))]
theorem fen_other {i : Nat} (h : i < c.length) (h14 : (nth c i).op ≠ 14) (h15 : (nth c i).op ≠ 15) : nth (fenL c) (pF c i) = nth c i := by
  rw [(pF_at h).1]
  unfold fixMv
  rw [if_neg (fun hh => h14 hh.1), if_neg (fun hh => h15 hh.1)]
theorem fen_14 {i : Nat} (h : i < c.length) (h14 : (nth c i).op = 14) : nth (fenL c) (pF c i) = { nth c i with a := pF c (nth c i).a.toNat } := by
  rw [(pF_at h).1]
  unfold fixMv
  rw [if_pos ⟨h14, .inl h14⟩]; rfl
theorem fen_15 {i : Nat} (h : i < c.length) (h15 : (nth c i).op = 15) : nth (fenL c) (pF c i) = { nth c i with b := pF c (nth c i).b.toNat } := by
  rw [(pF_at h).1]
  unfold fixMv
  rw [if_neg (fun hh => by omega), if_pos ⟨h15, h15⟩]; rfl
theorem pF_le {i : Nat} (h : i ≤ c.length) : pF c i ≤ (fenL c).length := by
  rw [pF_len]
  exact place_mono _ _ h (Nat.le_refl _)
end

section
variable {p : Pg}
/-- The fenced program. -/
def fullPg (p : Pg) : Pg := { p with code := p.code.map fenL }
theorem fullPg_len : (fullPg p).code.length = p.code.length := by simp [fullPg]
theorem fullPg_code {t : Nat} (h : t < p.code.length) : nth (fullPg p).code t = fenL (nth p.code t) := nth_map' _ _ _ h
theorem OkPg.jumpsF (hok : OkPg p) {t : Nat} (ht : t < p.code.length) : JumpsOK (nth p.code t) := fun i hi => (hok.insR ht hi).2
theorem nextIns_nat {c : List Ins} {x : TS} {i : Nat} (h : x.pc = (i : Int)) (hi : i < c.length) : nextIns c x.pc = nth c i := by rw [h, nextIns_t (by omega)]; simp
/-- An order that is no store, of the old and of the new: it does the same, and leads to the same place. -/
theorem fen_step (hok : OkPg p) {m m' : Int} {t i : Nat} (ht : t < p.code.length) (hi : i < (nth p.code t).length) (hns : ¬ isSt (nth (nth p.code t) i).op) (x : TS) :
    ∃ j : Nat, j ≤ (nth p.code t).length ∧ (execT m t (nth (nth p.code t) i) { x with pc := (i : Int) + 1 }).pc = (j : Int) ∧
      execT m' t (nth (fenL (nth p.code t)) (pF (nth p.code t) i)) { x with pc := (pF (nth p.code t) i : Int) + 1 } = { execT m t (nth (nth p.code t) i) { x with pc := (i : Int) + 1 } with pc := (pF (nth p.code t) j : Int) } := by
  have hw : ¬ wF (nth p.code t) i = true := fun h => hns (wF_t.1 h)
  have hs := pF_succ hi
  rw [if_neg hw] at hs
  have hj := hok.jumpsF ht i hi
  by_cases h14 : (nth (nth p.code t) i).op = 14
  · have ha := hj.1 h14
    refine ⟨(nth (nth p.code t) i).a.toNat, by omega, ?_, ?_⟩
    · rw [execT_14 h14]; show (nth (nth p.code t) i).a = _; omega
    · rw [fen_14 hi h14, execT_14 h14]; exact execT_jump h14
  by_cases h15 : (nth (nth p.code t) i).op = 15
  · have hb := hj.2 h15
    by_cases hz : x.reg (nth (nth p.code t) i).a = 0
    · refine ⟨(nth (nth p.code t) i).b.toNat, by omega, ?_, ?_⟩
      · rw [execT_15t (x := { x with pc := (i : Int) + 1 }) h15 hz]; show (nth (nth p.code t) i).b = _; omega
      · rw [fen_15 hi h15, execT_15t (x := { x with pc := (i : Int) + 1 }) h15 hz]; exact execT_zt (x := { x with pc := (pF (nth p.code t) i : Int) + 1 }) h15 hz
    · refine ⟨i + 1, by omega, ?_, ?_⟩
      · rw [execT_15f (x := { x with pc := (i : Int) + 1 }) h15 hz]; simp
      · rw [fen_15 hi h15, execT_15f (x := { x with pc := (i : Int) + 1 }) h15 hz, hs]
        refine Eq.trans (execT_zf (x := { x with pc := (pF (nth p.code t) i : Int) + 1 }) h15 hz) ?_
        simp
  obtain ⟨f1, f2⟩ := execT_pc m t (nth (nth p.code t) i) { x with pc := (i : Int) + 1 } ((pF (nth p.code t) i : Int) + 1) h14 h15
  refine ⟨i + 1, by omega, by rw [f2]; simp, ?_⟩
  rw [fen_other hi h14 h15, (execT_keep (m := m') (m' := m) hns).1, hs]
  refine Eq.trans f1 ?_
  simp
/-- What a store would do. -/
def pend (i : Ins) (regs : List Int) : Wt := if i.op = 18 then ⟨true, i.a, 0⟩ else if i.op = 9 then ⟨false, i.a, nth regs i.b.toNat⟩ else ⟨false, nth regs i.a.toNat, nth regs i.b.toNat⟩
/-- May it? -/
def pendOK (t : Nat) (i : Ins) (regs : List Int) (W : Nat) (owner : List Int) : Prop := (i.op = 18 → nth owner i.a.toNat = t) ∧ (i.op = 11 → 0 ≤ nth regs i.a.toNat ∧ nth regs i.a.toNat < (W : Int))
theorem exec_st {m : Int} {t : Nat} {i : Ins} {x : TS} (hs : isSt i.op) (hw : x.wait = []) : (pendOK t i x.regs x.words.length x.owner → execT m t i x = x.store m (pend i x.regs)) ∧ (¬ pendOK t i x.regs x.words.length x.owner → execT m t i x = { x with fell := true }) := by
  unfold pendOK pend
  rcases hs with h | h | h
  · refine ⟨fun _ => ?_, fun hn => absurd ⟨fun e => by omega, fun e => by omega⟩ hn⟩
    rw [execT_9 h, if_neg (by omega), if_pos h]; rfl
  · refine ⟨fun hp => ?_, fun hn => ?_⟩
    · rw [execT_11t h (hp.2 h), if_neg (by omega), if_neg (by omega)]; rfl
    · rw [execT_11f h fun hh => hn ⟨fun e => by omega, fun _ => hh⟩]
  · refine ⟨fun hp => ?_, fun hn => ?_⟩
    · rw [execT_18c h (fun hh => hh (hp.1 h)) (fun q hq => by rw [hw] at hq; simp at hq), if_pos h]
    · rw [execT_18a h fun hh => hn ⟨fun _ => hh, fun e => by omega⟩]
def FR (p : Pg) (t : Nat) (a b : Int) : Prop := ∃ i : Nat, a = i ∧ i ≤ (nth p.code t).length ∧ b = (pF (nth p.code t) i : Int)
theorem putT_putT {s : MSt} {t : Nat} {x y : TS} : (s.putT t x).putT t y = s.putT t y := by
  unfold MSt.putT
  simp only [List.set_set]
theorem isSt_no {i : Ins} (h : isSt i.op) : i.op ≠ 14 ∧ i.op ≠ 15 := by unfold isSt at h; omega
theorem able_st {i : Ins} {owner : List Int} (h : isSt i.op) : ableL owner 0 i = true := by
  unfold ableL
  unfold isSt at h
  rw [if_pos h]; rfl
/-- A store with buffers, its way into memory, and the fence behind it: three moves. -/
theorem three (hq : OkPg (fullPg p)) {s' : MSt} {t i : Nat} (hr' : Reach (fullPg p) 1 s') (ht : t < p.code.length) (hi : i < (nth p.code t).length) (hs : isSt (nth (nth p.code t) i).op) (hb : (nth s'.ths t).pc = (pF (nth p.code t) i : Int)) (hw : (nth s'.ths t).wait = [])
    (hp : pendOK t (nth (nth p.code t) i) (nth s'.ths t).regs s'.words.length s'.owner) : Reach (fullPg p) 1 (s'.putT t { (s'.view t).done (pend (nth (nth p.code t) i) (nth s'.ths t).regs) with pc := (pF (nth p.code t) (i + 1) : Int), wait := [] }) := by
  have hcode := fullPg_code ht
  have htq : t < (fullPg p).code.length := by rw [fullPg_len]; exact ht
  have hl' := hr'.len hq htq
  obtain ⟨n14, n15⟩ := isSt_no hs
  have hwF : wF (nth p.code t) i = true := wF_t.2 hs
  have hins := fen_other hi n14 n15
  obtain ⟨hf1, hf2⟩ := pF_fence hi hwF
  have hsuc := pF_succ hi
  rw [if_pos hwF] at hsuc
  -- the store
  have hv : (s'.view t).pc = (pF (nth p.code t) i : Int) := hb
  have hn : nextIns (nth (fullPg p).code t) (s'.view t).pc = nth (nth p.code t) i := by rw [hcode, nextIns_nat hv (by omega), hins]
  have e1 : stepT (fullPg p) 1 s' t 0 = { s'.view t with pc := (pF (nth p.code t) i : Int) + 1, wait := [pend (nth (nth p.code t) i) (nth s'.ths t).regs] } := by
    rw [stepT_e, hn, hv]
    rw [(exec_st (m := 1) (t := t) (x := { s'.view t with pc := (pF (nth p.code t) i : Int) + 1 }) hs hw).1 hp]
    unfold TS.store
    rw [if_pos (by decide)]
    show ({ s'.view t with pc := _, wait := (nth s'.ths t).wait ++ [_] } : TS) = _
    rw [hw]; rfl
  have hr1 := Reach.step hr' htq (mvOK_0 (by rw [hcode, hv]; omega) (by rw [hn]; show ableL _ (nth s'.ths t).wait.length _ = true; rw [hw]; exact able_st hs)) (by rw [e1]; rfl)
  rw [e1] at hr1
  -- into memory
  have hv1 := putT_view (s := s') (t := t) (y := { s'.view t with pc := (pF (nth p.code t) i : Int) + 1, wait := [pend (nth (nth p.code t) i) (nth s'.ths t).regs] }) hl'
  have e2 : stepT (fullPg p) 1 (s'.putT t { s'.view t with pc := (pF (nth p.code t) i : Int) + 1, wait := [pend (nth (nth p.code t) i) (nth s'.ths t).regs] }) t 1 = { (s'.view t).done (pend (nth (nth p.code t) i) (nth s'.ths t).regs) with pc := (pF (nth p.code t) i : Int) + 1, wait := [] } := by
    unfold stepT; rw [hv1]; rfl
  have hr2 := Reach.step hr1 htq (k := 1) (by rw [hv1]; rfl) (by rw [e2]; rfl)
  rw [e2, putT_putT] at hr2
  -- the fence
  have hv2 := putT_view (s := s') (t := t) (y := { (s'.view t).done (pend (nth (nth p.code t) i) (nth s'.ths t).regs) with pc := (pF (nth p.code t) i : Int) + 1, wait := [] }) hl'
  have hpc2 : ((s'.putT t { (s'.view t).done (pend (nth (nth p.code t) i) (nth s'.ths t).regs) with pc := (pF (nth p.code t) i : Int) + 1, wait := [] }).view t).pc = ((pF (nth p.code t) i + 1 : Nat) : Int) := by rw [hv2]; simp
  have hn2 : nextIns (nth (fullPg p).code t) ((s'.putT t { (s'.view t).done (pend (nth (nth p.code t) i) (nth s'.ths t).regs) with pc := (pF (nth p.code t) i : Int) + 1, wait := [] }).view t).pc = ⟨12, 0, 0, 0⟩ := by rw [hcode, nextIns_nat hpc2 hf2, hf1]
  have e3 : stepT (fullPg p) 1 (s'.putT t { (s'.view t).done (pend (nth (nth p.code t) i) (nth s'.ths t).regs) with pc := (pF (nth p.code t) i : Int) + 1, wait := [] }) t 0 = { (s'.view t).done (pend (nth (nth p.code t) i) (nth s'.ths t).regs) with pc := (pF (nth p.code t) (i + 1) : Int), wait := [] } := by
    rw [stepT_e, hn2, hpc2, hv2, execT_no (by decide), hsuc]
    simp
    exact ⟨by omega, rfl⟩
  have hr3 := Reach.step hr2 htq (mvOK_0 (by rw [hcode, hpc2]; omega) (by rw [hn2, hv2]; rfl)) (by rw [e3]; rfl)
  rw [e3, putT_putT] at hr3
  exact hr3
theorem full_fwd (hok : OkPg p) (hq : OkPg (fullPg p)) : ∀ o, Outs p 0 o → Outs (fullPg p) 1 o := by
  refine sim_outs (fun s s' => RelP p.code.length (FR p) s s') ⟨_, .start, begin_rel fullPg_len rfl rfl rfl fun t ht => ⟨0, rfl, Nat.zero_le _, by simp [pF, placeL]⟩⟩ ?_ ?_ ?_
  · intro s s' t k hr hr' hrel ht hk
    have hl := hr.len hok ht
    have htq : t < (fullPg p).code.length := by rw [fullPg_len]; exact ht
    have hl' := hr'.len hq htq
    have hw := hr.no_wait hok t ht
    have hw' : (nth s'.ths t).wait = [] := by rw [hrel.wait t ht]; exact hw
    have hv := hrel.view ht
    have hcode := fullPg_code ht
    rcases mvOK_k hk with ⟨rfl, hlt, hab⟩ | ⟨h1, h2, _⟩
    case inr => rw [show (s.view t).wait = [] from hw] at h2; simp at h2; omega
    obtain ⟨i, hi, hil, hb⟩ := hrel.pc t ht
    have hi' : (s.view t).pc = (i : Int) := hi
    have hil' : i < (nth p.code t).length := by rw [hi'] at hlt; omega
    have hn := nextIns_nat hi' hil'
    rw [hn] at hab
    have hst := stepT_e (p := p) (m := 0) (s := s) (t := t)
    rw [hn, hi'] at hst
    have hb' : (s'.view t).pc = (pF (nth p.code t) i : Int) := hb
    have hpl := (pF_at hil').2
    have hn2 : nextIns (nth (fullPg p).code t) (s'.view t).pc = nth (fenL (nth p.code t)) (pF (nth p.code t) i) := by rw [hcode]; exact nextIns_nat hb' hpl
    have hst2 := stepT_e (p := fullPg p) (m := 1) (s := s') (t := t)
    rw [hn2, hb'] at hst2
    by_cases hs : isSt (nth (nth p.code t) i).op
    · have hx := exec_st (m := 0) (t := t) (x := { s.view t with pc := (i : Int) + 1 }) hs hw
      by_cases hp : pendOK t (nth (nth p.code t) i) (nth s.ths t).regs s.words.length s.owner
      · have e := hx.1 hp
        rw [← hst] at e
        have e0 : stepT p 0 s t 0 = { (s.view t).done (pend (nth (nth p.code t) i) (nth s.ths t).regs) with pc := (i : Int) + 1 } := by rw [e]; unfold TS.store; rw [if_neg (by decide)]; rfl
        rw [if_neg (by rw [e0]; exact Bool.false_ne_true)]
        refine ⟨_, three hq hr' ht hil' hs hb hw' (by rw [hrel.regs t ht, hrel.words, hrel.owner]; exact hp), ?_⟩
        rw [e0, hrel.regs t ht, hv]
        have h4 := hrel.put hl hl' (y := { (s.view t).done (pend (nth (nth p.code t) i) (nth s.ths t).regs) with pc := (i : Int) + 1 }) (u := (pF (nth p.code t) (i + 1) : Int)) (fun _ => ⟨i + 1, by simp, by omega, rfl⟩)
        have e5 : ({ ({ s.view t with pc := (nth s'.ths t).pc } : TS).done (pend (nth (nth p.code t) i) (nth s.ths t).regs) with pc := (pF (nth p.code t) (i + 1) : Int), wait := [] } : TS) = { ({ (s.view t).done (pend (nth (nth p.code t) i) (nth s.ths t).regs) with pc := (i : Int) + 1 } : TS) with pc := (pF (nth p.code t) (i + 1) : Int) } := by
          unfold TS.done
          simp only [show (s.view t).wait = [] from hw]
        rw [e5]; exact h4
      · have e := hx.2 hp
        rw [← hst] at e
        rw [if_pos (by rw [e])]
        have hx2 := (exec_st (m := 1) (t := t) (x := { s'.view t with pc := (pF (nth p.code t) i : Int) + 1 }) hs hw').2 (by show ¬ pendOK t _ (nth s'.ths t).regs s'.words.length s'.owner; rw [hrel.regs t ht, hrel.words, hrel.owner]; exact hp)
        have hins := fen_other hil' (isSt_no hs).1 (isSt_no hs).2
        rw [hins] at hst2 hn2
        rw [← hst2] at hx2
        have := Outs.fell hr' htq (mvOK_0 (by rw [hcode, hb']; omega) (by rw [hn2]; show ableL _ (nth s'.ths t).wait.length _ = true; rw [hw']; exact able_st hs)) (by rw [hx2])
        rw [hx2] at this
        rw [e]
        have hpr : (s'.view t).prints = (s.view t).prints := hrel.prints
        rw [show ({ ({ s'.view t with pc := (pF (nth p.code t) i : Int) + 1 } : TS) with fell := true } : TS).prints = (s.view t).prints from hpr] at this
        exact this
    · obtain ⟨j, hjl, hj1, hj2⟩ := fen_step hok (m := 0) (m' := 1) ht hil' hs (s.view t)
      have e2 : stepT (fullPg p) 1 s' t 0 = { stepT p 0 s t 0 with pc := (pF (nth p.code t) j : Int) } := by rw [hst2, hst, hv]; exact hj2
      have hab2 : mvOK 1 (nth (fullPg p).code t) (s'.view t) 0 = true := by
        refine mvOK_0 (by rw [hcode, hb']; omega) ?_
        rw [hn2, show (s'.view t).owner = (s.view t).owner from hrel.owner, show (s'.view t).wait.length = (s.view t).wait.length by show (nth s'.ths t).wait.length = _; rw [hrel.wait t ht]; rfl]
        by_cases h14 : (nth (nth p.code t) i).op = 14
        · rw [fen_14 hil' h14]; unfold ableL; simp [h14]
        by_cases h15 : (nth (nth p.code t) i).op = 15
        · rw [fen_15 hil' h15]; unfold ableL; simp [h15]
        rw [fen_other hil' h14 h15]; exact hab
      split
      · rename_i hf
        have := Outs.fell hr' htq hab2 (by rw [e2]; exact hf)
        rw [e2] at this; exact this
      · rename_i hf
        refine ⟨_, .step hr' htq hab2 (by rw [e2]; simpa using hf), ?_⟩
        rw [e2]
        exact hrel.put hl hl' fun _ => ⟨j, by rw [hst]; exact hj1, hjl, rfl⟩
  · intro s s' hr hr' hrel he
    have he2 := ended_iff.1 he
    have : ended (fullPg p) s' = true := ended_iff.2 fun t ht => by
      rw [fullPg_len] at ht
      obtain ⟨h1, h2⟩ := he2 t ht
      obtain ⟨i, hi, hil, hb⟩ := hrel.pc t ht
      rw [fullPg_code ht, hrel.wait t ht]
      refine ⟨?_, h2⟩
      rw [hi] at h1
      obtain rfl : i = (nth p.code t).length := by omega
      rw [hb, pF_len]; omega
    have h2 := Outs.done hr' this
    rw [hrel.words, hrel.prints] at h2
    exact h2
  · intro s s' hr hr' hrel he hst
    have hstq : Stuck_ (fullPg p) 1 s' := by
      intro u k hu
      rw [fullPg_len] at hu
      cases hc : mvOK 1 (nth (fullPg p).code u) (s'.view u) k with
      | false => rfl
      | true =>
        exfalso
        have hw := hr.no_wait hok u hu
        have hw' : (s'.view u).wait = [] := by show (nth s'.ths u).wait = []; rw [hrel.wait u hu]; exact hw
        rcases mvOK_k hc with ⟨rfl, h3, h4⟩ | ⟨h3, h4, _⟩
        case inr => rw [hw'] at h4; simp at h4; omega
        obtain ⟨i, hi, hil, hb⟩ := hrel.pc u hu
        have hb' : (s'.view u).pc = (pF (nth p.code u) i : Int) := hb
        have hlt : i < (nth p.code u).length := by
          rcases Nat.lt_or_ge i (nth p.code u).length with h | h
          · exact h
          · obtain rfl : i = (nth p.code u).length := by omega
            rw [hb', fullPg_code hu, pF_len] at h3; omega
        have hn2 : nextIns (nth (fullPg p).code u) (s'.view u).pc = nth (fenL (nth p.code u)) (pF (nth p.code u) i) := by rw [fullPg_code hu]; exact nextIns_nat hb' (pF_at hlt).2
        have h0 := hst u 0 hu
        have hi' : (s.view u).pc = (i : Int) := hi
        rw [hn2, hw'] at h4
        have : mvOK 0 (nth p.code u) (s.view u) 0 = true := mvOK_0 (by rw [hi']; omega) (by
          rw [nextIns_nat hi' hlt, show (s.view u).wait = [] from hw]
          by_cases h14 : (nth (nth p.code u) i).op = 14
          · unfold ableL; simp [h14]
          by_cases h15 : (nth (nth p.code u) i).op = 15
          · unfold ableL; simp [h15]
          rw [fen_other hlt h14 h15] at h4
          rw [show (s.view u).owner = (s'.view u).owner from hrel.owner.symm]; exact h4)
        rw [this] at h0; cases h0
    have hne : ended (fullPg p) s' = false := by
      cases hc : ended (fullPg p) s' with
      | false => rfl
      | true =>
        exfalso
        have he2 := ended_iff.1 hc
        have : ended p s = true := ended_iff.2 fun t ht => by
          obtain ⟨a1, a2⟩ := he2 t (by rw [fullPg_len]; exact ht)
          obtain ⟨i, hi, hil, hb⟩ := hrel.pc t ht
          rw [hrel.wait t ht] at a2
          refine ⟨?_, a2⟩
          rw [hi]
          rw [hb, fullPg_code ht] at a1
          rcases Nat.lt_or_ge i (nth p.code t).length with h | h
          · have := (pF_at h).2; omega
          · omega
        rw [this] at he; cases he
    have h2 := Outs.stuck hr' hne hstq
    rw [hrel.words, hrel.prints] at h2
    exact h2
end
end Go.Proofs.Ytanhbpofhebbaaa
