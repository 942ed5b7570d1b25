/-
  Loops in the place of locks: in plain Lean, runs of the two programs.
-/
import Derived.Test.YtanhbpofhebbaaaK1
namespace Go.Proofs.Ytanhbpofhebbaaa
open Go.RowKit
set_option linter.unusedSimpArgs false
set_option linter.unusedVariables false

section
variable {n R L : Nat} {x y : TS} {m : Int} {t : Nat}
theorem RV.pcq (h : RV n R x y) (v : Int) : RV n R x { y with pc := v } := ⟨h.w, h.p, h.wt, h.r, h.rl⟩
theorem RV.take (h : RV n R x y) (hx : XK n R L x) {a : Int} (ha : 0 ≤ a ∧ a < L) (t : Nat) : RV n R { x with owner := x.owner.set a.toNat t } { y with words := y.words.set ((n : Int) + a).toNat 1 } := by
  refine ⟨?_, h.p, h.wt, h.r, h.rl⟩
  show y.words.set _ _ = x.words ++ lkW (x.owner.set _ _)
  rw [lkW_set, h.w, show ((n : Int) + a).toNat = x.words.length + a.toNat by rw [hx.w]; omega, app_set_r, show lkB (t : Int) = 1 by unfold lkB; rw [if_neg (by omega)]]
theorem doT1 {c : List Ins} : (doT m t c 1 x).pc = x.pc ∧ (doT m t c 1 x).regs = x.regs ∧ (doT m t c 1 x).fell = x.fell := by
  unfold doT; rw [if_pos (by decide)]; exact ⟨rfl, rfl, rfl⟩
end
theorem mayK_1 {l : List Wt} {k : Nat} (h : mayK 1 l k = true) : k = 0 := by
  unfold mayK at h
  simpa using h
theorem mayK_0 {m : Int} {l : List Wt} : mayK m l 0 = true := by unfold mayK; rfl
structure RelK (p : Pg) (Rr : Nat → Int → Int → List Int → Prop) (s s' : MSt) : Prop where
  w : s'.words = s.words ++ lkW s.owner
  pr : s'.prints = s.prints
  wt : ∀ t, t < p.code.length → (nth s'.ths t).wait = (nth s.ths t).wait.map (lkWt p.words.length)
  r : ∀ t, t < p.code.length → ∀ k, k < p.regs.toNat → nth (nth s'.ths t).regs k = nth (nth s.ths t).regs k
  rl : ∀ t, t < p.code.length → (nth s'.ths t).regs.length = 8
  pc : ∀ t, t < p.code.length → Rr t (nth s.ths t).pc (nth s'.ths t).pc (nth s'.ths t).regs
section
variable {p : Pg} {Rr : Nat → Int → Int → List Int → Prop} {s s' : MSt} {t : Nat}
theorem RelK.view (h : RelK p Rr s s') (ht : t < p.code.length) : RV p.words.length p.regs.toNat (s.view t) (s'.view t) := ⟨h.w, h.pr, h.wt t ht, h.r t ht, h.rl t ht⟩
theorem RelK.put (h : RelK p Rr s s') (hl : t < s.ths.length) (hl' : t < s'.ths.length) {x y : TS} (hv : RV p.words.length p.regs.toNat x y) (hR : Rr t x.pc y.pc y.regs) : RelK p Rr (s.putT t x) (s'.putT t y) := by
  refine ⟨hv.w, hv.p, fun u hu => ?_, fun u hu => ?_, fun u hu => ?_, fun u hu => ?_⟩ <;> rw [putT_th hl'] <;> (try rw [putT_th hl]) <;> split
  · exact hv.wt
  · exact h.wt u hu
  · exact hv.r
  · exact h.r u hu
  · exact hv.rl
  · exact h.rl u hu
  · rename_i e; subst e; exact hR
  · exact h.pc u hu
theorem RelK.right (h : RelK p Rr s s') (hl' : t < s'.ths.length) {y : TS} (hv : RV p.words.length p.regs.toNat (s.view t) y) (hR : Rr t (nth s.ths t).pc y.pc y.regs) : RelK p Rr s (s'.putT t y) := by
  refine ⟨hv.w, hv.p, fun u hu => ?_, fun u hu => ?_, fun u hu => ?_, fun u hu => ?_⟩ <;> rw [putT_th hl'] <;> split
  · rename_i e; subst e; exact hv.wt
  · exact h.wt u hu
  · rename_i e; subst e; exact hv.r
  · exact h.r u hu
  · exact hv.rl
  · exact h.rl u hu
  · rename_i e; subst e; exact hR
  · exact h.pc u hu
end
def linkPg (p : Pg) : Pg := ⟨p.code.map (linkL p.words.length), p.words ++ List.replicate p.locks.toNat 0, 0, 8⟩
inductive StL (nw : Nat) (c : List Ins) (a b : Int) (rs : List Int) : Prop
  | A (i : Nat) (ha : a = i) (hi : i ≤ c.length) (hb : b = (pK nw c i : Int))
  | L1 (i : Nat) (ha : a = i) (hi : i < c.length) (ho : (nth c i).op = 17) (hb : b = ((pK nw c i + 1 : Nat) : Int)) (h6 : nth rs 6 = 0)
  | L2 (i : Nat) (ha : a = i) (hi : i < c.length) (ho : (nth c i).op = 17) (hb : b = ((pK nw c i + 2 : Nat) : Int)) (h6 : nth rs 6 = 0) (h7 : nth rs 7 = 1)
  | L3 (i : Nat) (ha : a = i) (hi : i < c.length) (ho : (nth c i).op = 17) (hb : b = ((pK nw c i + 3 : Nat) : Int)) (h6 : nth rs 6 = 0)
  | S (i : Nat) (ha : a = (i : Int) + 1) (hi : i < c.length) (ho : (nth c i).op = 17) (hb : b = ((pK nw c i + 3 : Nat) : Int)) (h6 : nth rs 6 ≠ 0)
  | U (i : Nat) (ha : a = i) (hi : i < c.length) (ho : (nth c i).op = 18) (hb : b = ((pK nw c i + 1 : Nat) : Int)) (h6 : nth rs 6 = 0)
theorem stepQ {q : Pg} {m : Int} {s : MSt} {t j : Nat} {ins : Ins} {c : List Ins} (hc : nth q.code t = c) (hp : (nth s.ths t).pc = (j : Int)) (hj : j < c.length) (e : nth c j = ins) :
    stepT q m s t 0 = execT m t ins { s.view t with pc := (j : Int) + 1 } ∧ mvOK m c (s.view t) 0 = ableL s.owner (nth s.ths t).wait.length ins := by
  have hp' : (s.view t).pc = (j : Int) := hp
  have hn : nextIns c (s.view t).pc = ins := by rw [hp', nextIns_t (by omega)]; simpa using e
  refine ⟨by rw [stepT_e, hc, hn, hp'], ?_⟩
  unfold mvOK ableV
  rw [if_pos rfl, hn, decide_eq_true (show (s.view t).pc < (c.length : Int) by omega)]
  rfl
theorem set_get {rs : List Int} {k : Nat} {v : Int} (h : k < rs.length) : nth (rs.set k v) k = v := by rw [nth_set0, if_pos ⟨rfl, h⟩]
theorem set_getn {rs : List Int} {k j : Nat} {v : Int} (h : k ≠ j) : nth (rs.set k v) j = nth rs j := by rw [nth_set0, if_neg (fun hh => h hh.1)]
theorem rep0 {n k : Nat} : nth (List.replicate n (0 : Int)) k = 0 := by
  simp only [nth, List.getD, List.getElem?_replicate]
  split <;> rfl
section
variable {p : Pg} {m : Int}
theorem linkPg_len : (linkPg p).code.length = p.code.length := by simp [linkPg]
theorem linkPg_code {t : Nat} (h : t < p.code.length) : nth (linkPg p).code t = linkL p.words.length (nth p.code t) := nth_map' _ _ _ h
theorem begin_relK {Rr : Nat → Int → Int → List Int → Prop} (hR : p.regs ≤ 6) (h0 : ∀ t rs, t < p.code.length → Rr t 0 0 rs) : RelK p Rr (begin_ p) (begin_ (linkPg p)) := by
  have e : ∀ (p : Pg) t, t < p.code.length → nth (begin_ p).ths t = ⟨0, List.replicate p.regs.toNat 0, []⟩ := fun p t ht => nth_map' _ _ _ ht
  have e2 : ∀ t, t < p.code.length → nth (begin_ (linkPg p)).ths t = ⟨0, List.replicate 8 0, []⟩ := fun t ht => by rw [e (linkPg p) t (by rw [linkPg_len]; exact ht)]; rfl
  refine ⟨?_, rfl, fun t ht => ?_, fun t ht k hk => ?_, fun t ht => ?_, fun t ht => ?_⟩
  · show p.words ++ List.replicate p.locks.toNat 0 = p.words ++ lkW (List.replicate p.locks.toNat (-1))
    rw [lkW, List.map_replicate]; rfl
  · rw [e p t ht, e2 t ht]; rfl
  · rw [e p t ht, e2 t ht]
    show nth (List.replicate 8 0) k = nth (List.replicate p.regs.toNat 0) k
    rw [rep0, rep0]
  · rw [e2 t ht]; rfl
  · rw [e p t ht, e2 t ht]; exact h0 t _ ht
/-- What waits goes on, in both. -/
theorem wait_step (hok : OkPg p) (hm : m = 0 ∨ m = 1) {s s' : MSt} {Rr : Nat → Int → Int → List Int → Prop} (hr : Reach p m s) (hrel : RelK p Rr s s') {t k : Nat} (ht : t < p.code.length) (hk0 : 0 < k) (c c' : List Ins) :
    (mvOK m c (s.view t) k = true ↔ mvOK m c' (s'.view t) k = true) ∧ (mvOK m c (s.view t) k = true → k = 1 ∧ (s.view t).wait ≠ []) := by
  have hv := (hrel.view ht).wt
  have hl : (s'.view t).wait.length = (s.view t).wait.length := by rw [hv, List.length_map]
  unfold mvOK
  rw [if_neg (by omega), if_neg (by omega), hl]
  rcases hm with rfl | rfl
  · have h0 : (s.view t).wait = [] := hr.no_wait hok t ht
    have : decide (k ≤ (s.view t).wait.length) = false := decide_eq_false (by rw [h0]; simp; omega)
    simp [this]
  · have key : ∀ l, mayK 1 l (k - 1) = true ↔ k = 1 := fun l => ⟨fun h => by have := mayK_1 h; omega, fun h => by subst h; exact mayK_0⟩
    simp only [Bool.and_eq_true, decide_eq_true_eq, key]
    refine ⟨trivial, fun h => ⟨h.2, fun h0 => ?_⟩⟩
    rw [h0] at h; simp at h; omega
/-- No run falls. -/
def NoFall (p : Pg) (m : Int) : Prop := ∀ s t k, Reach p m s → t < p.code.length → mvOK m (nth p.code t) (s.view t) k = true → (stepT p m s t k).fell = false
theorem unlock_ok {t : Nat} {i : Ins} {x : TS} (h : i.op = 18) (hf : (execT m t i x).fell = false) (hx : x.fell = false) : execT m t i x = x.store m ⟨true, i.a, 0⟩ := by
  by_cases h1 : nth x.owner i.a.toNat ≠ t
  · rw [execT_18a h h1] at hf; cases hf
  · by_cases h2 : ∃ j, j < x.wait.length ∧ (nth x.wait j).lock = true ∧ (nth x.wait j).wh = i.a
    · obtain ⟨j, hj, a, b⟩ := h2
      rw [execT_18b h h1 j hj a b] at hf; cases hf
    · rw [execT_18c h h1 (fun q hq hc => h2 ⟨q, hq, hc⟩)]
theorem store_r (x : TS) (w : Wt) : (x.store m w).regs = x.regs ∧ (x.store m w).pc = x.pc ∧ (x.store m w).fell = x.fell := by unfold TS.store; split <;> exact ⟨rfl, rfl, rfl⟩
/-- From loops to locks. -/
theorem link_bwd (hok : OkPg p) (hq : OkPg (linkPg p)) (hR : p.regs ≤ 6) (hm : m = 0 ∨ m = 1) (hnf : NoFall p m) {s' : MSt} (h : Reach (linkPg p) m s') : ∃ s, Reach p m s ∧ RelK p (fun t a b rs => StL p.words.length (nth p.code t) a b rs) s s' := by
  induction h with
  | start => exact ⟨_, .start, begin_relK hR fun t _ ht => .A 0 rfl (Nat.zero_le _) (by simp [pK, placeL])⟩
  | step hr' ht' hk hf ih =>
    rename_i s' t k
    obtain ⟨s, hr, hrel⟩ := ih
    have ht : t < p.code.length := by rw [linkPg_len] at ht'; exact ht'
    have hcode := linkPg_code ht
    have hl := hr.len hok ht
    have hl' := hr'.len hq ht'
    have hv := hrel.view ht
    have hx := XK.of ((hr.wf hok).th t ht)
    have hR6 : p.regs.toNat ≤ 6 := by omega
    have hlen8 : (nth s'.ths t).regs.length = 8 := hrel.rl t ht
    rw [hcode] at hk
    by_cases hk0 : 0 < k
    · obtain ⟨h1, h2⟩ := wait_step hok hm hr hrel ht hk0 (nth p.code t) (linkL p.words.length (nth p.code t))
      have hkp := h1.2 hk
      obtain ⟨rfl, hw⟩ := h2 hkp
      refine ⟨_, .step hr ht hkp (hnf _ _ _ hr ht hkp), ?_⟩
      refine hrel.put hl hl' (hv.move hx hw _ _) ?_
      rw [show stepT p m s t 1 = doT m t (nth p.code t) 1 (s.view t) from rfl, show stepT (linkPg p) m s' t 1 = doT m t (nth (linkPg p).code t) 1 (s'.view t) from rfl, doT1.1, doT1.1, doT1.2.1]
      exact hrel.pc t ht
    obtain rfl : k = 0 := by omega
    rcases hrel.pc t ht with ⟨i, ha, hi, hb⟩ | ⟨i, ha, hi, ho, hb, h6⟩ | ⟨i, ha, hi, ho, hb, h6, h7⟩ | ⟨i, ha, hi, ho, hb, h6⟩ | ⟨i, ha, hi, ho, hb, h6⟩ | ⟨i, ha, hi, ho, hb, h6⟩
    · -- at an order
      have hlt : i < (nth p.code t).length := by
        rcases Nat.lt_or_ge i (nth p.code t).length with h | h
        · exact h
        · obtain rfl : i = (nth p.code t).length := by omega
          rcases mvOK_k hk with ⟨_, h1, _⟩ | ⟨h1, _⟩
          · rw [show (s'.view t).pc = (nth s'.ths t).pc from rfl, hb, pK_len] at h1; omega
          · omega
      have hI := hok.insR ht hlt
      obtain ⟨hst, hmv⟩ := stepQ (m := m) hcode hb (pK_lt hlt) rfl
      obtain ⟨hst0, hmv0⟩ := stepQ (q := p) (m := m) rfl ha hlt rfl
      by_cases e17 : (nth (nth p.code t) i).op = 17
      · rw [(link_17 hlt e17).1, execT_1 rfl] at hst
        refine ⟨s, hr, ?_⟩
        rw [hst]
        exact hrel.right hl' ((hv.pcq _).putq (k := 6) hR6 0) (.L1 i ha hlt e17 (by show (pK _ _ _ : Int) + 1 = _; simp) (set_get (by rw [show ({ s'.view t with pc := _ } : TS).regs = (nth s'.ths t).regs from rfl, hlen8]; decide)))
      by_cases e18 : (nth (nth p.code t) i).op = 18
      · rw [(link_18 hlt e18).1, execT_1 rfl] at hst
        refine ⟨s, hr, ?_⟩
        rw [hst]
        exact hrel.right hl' ((hv.pcq _).putq (k := 6) hR6 0) (.U i ha hlt e18 (by show (pK _ _ _ : Int) + 1 = _; simp) (set_get (by rw [show ({ s'.view t with pc := _ } : TS).regs = (nth s'.ths t).regs from rfl, hlen8]; decide)))
      rw [hmv] at hk
      have hsucc := (link_o (nw := p.words.length) hlt e17 e18).2
      by_cases e14 : (nth (nth p.code t) i).op = 14
      · rw [link_14 hlt e14, execT_jump e14] at hst
        have hj := hI.2.1 e14
        have hk2 : mvOK m (nth p.code t) (s.view t) 0 = true := by rw [hmv0]; unfold ableL; simp [e14]
        refine ⟨_, .step hr ht hk2 (hnf _ _ _ hr ht hk2), ?_⟩
        rw [hst, hst0, execT_14 e14]
        exact hrel.put hl hl' (hv.pc _ _) (.A (nth (nth p.code t) i).a.toNat (by show (nth (nth p.code t) i).a = _; omega) (by omega) rfl)
      by_cases e15 : (nth (nth p.code t) i).op = 15
      · rw [link_15 hlt e15] at hst
        have hj := hI.2.2 e15
        have hk2 : mvOK m (nth p.code t) (s.view t) 0 = true := by rw [hmv0]; unfold ableL; simp [e15]
        refine ⟨_, .step hr ht hk2 (hnf _ _ _ hr ht hk2), ?_⟩
        have hreg := hv.reg (hI.1.o15 (.inl e15))
        by_cases hz : (s.view t).reg (nth (nth p.code t) i).a = 0
        · rw [hst, hst0, execT_15t (x := { s.view t with pc := (i : Int) + 1 }) e15 hz, execT_zt (x := { s'.view t with pc := (pK p.words.length (nth p.code t) i : Int) + 1 }) e15 (by rw [← hreg] at hz; exact hz)]
          exact hrel.put hl hl' (hv.pc _ _) (.A (nth (nth p.code t) i).b.toNat (by show (nth (nth p.code t) i).b = _; omega) (by omega) rfl)
        · rw [hst, hst0, execT_15f (x := { s.view t with pc := (i : Int) + 1 }) e15 hz, execT_zf (x := { s'.view t with pc := (pK p.words.length (nth p.code t) i : Int) + 1 }) e15 (by rw [← hreg] at hz; exact hz)]
          exact hrel.put hl hl' (hv.pc _ _) (.A (i + 1) (by simp) (by omega) (by rw [hsucc]; simp))
      rw [link_other hlt e14 e15 e17 e18] at hst hk
      have hk2 : mvOK m (nth p.code t) (s.view t) 0 = true := by rw [hmv0]; exact (hv.able e17).symm.trans hk
      have hnf0 := hnf _ _ _ hr ht hk2
      refine ⟨_, .step hr ht hk2 hnf0, ?_⟩
      rw [hst0] at hnf0
      obtain ⟨g1, g2⟩ := (hv.pc ((i : Int) + 1) ((pK p.words.length (nth p.code t) i : Int) + 1)).exec (m := m) (t := t) (L := p.locks.toNat) ⟨hx.r, hx.w, hx.o, hx.wt⟩ hR6 hI.1 e14 e15 e17 e18 hnf0 rfl
      rw [hst, hst0]
      refine hrel.put hl hl' g1 ?_
      rw [(execT_pc m t _ { s.view t with pc := (i : Int) + 1 } 0 e14 e15).2, (execT_pc m t _ { s'.view t with pc := (pK p.words.length (nth p.code t) i : Int) + 1 } 0 e14 e15).2]
      exact .A (i + 1) (by simp) (by omega) (by rw [hsucc]; simp)
    · -- 1 comes to be
      obtain ⟨_, l1, _, _, _, l5⟩ := link_17 (nw := p.words.length) hi ho
      obtain ⟨hst, _⟩ := stepQ (m := m) hcode hb (by omega) l1
      rw [execT_1 rfl] at hst
      refine ⟨s, hr, ?_⟩
      rw [hst]
      exact hrel.right hl' ((hv.pcq _).putq (k := 7) (by omega) 1) (.L2 i ha hi ho (by show ((pK p.words.length (nth p.code t) i + 1 : Nat) : Int) + 1 = _; omega) ((set_getn (k := 7) (j := 6) (by decide)).trans h6) (set_get (by rw [show ({ s'.view t with pc := _ } : TS).regs = (nth s'.ths t).regs from rfl, hlen8]; decide)))
    · -- the word is tried
      obtain ⟨_, _, l2, _, _, l5⟩ := link_17 (nw := p.words.length) hi ho
      obtain ⟨hst, hmv⟩ := stepQ (m := m) hcode hb (by omega) l2
      rw [hmv] at hk
      have hI := hok.insR ht hi
      have hla := hI.1.o17 (.inl ho)
      have hlk := hv.lock hx hla
      have hw0 : (nth s'.ths t).wait.length = 0 := by
        unfold ableL at hk
        rw [if_neg (show ¬ ((13 : Int) = 9 ∨ (13 : Int) = 11 ∨ (13 : Int) = 18) by decide), if_pos (.inr rfl)] at hk
        exact of_decide_eq_true hk
      by_cases hfree : nth s.owner (nth (nth p.code t) i).a.toNat = -1
      · have hz : nth (s'.view t).words ((p.words.length : Int) + (nth (nth p.code t) i).a).toNat = (s'.view t).reg 6 := by
          rw [hlk]; show lkB (nth s.owner _) = nth (nth s'.ths t).regs 6
          rw [hfree, h6]; rfl
        rw [execT_13t (i := ⟨13, (p.words.length : Int) + (nth (nth p.code t) i).a, 6, 7⟩) (x := { s'.view t with pc := ((pK p.words.length (nth p.code t) i + 2 : Nat) : Int) + 1 }) rfl hz] at hst
        obtain ⟨hst0, hmv0⟩ := stepQ (q := p) (m := m) rfl ha hi rfl
        have hk2 : mvOK m (nth p.code t) (s.view t) 0 = true := by
          rw [hmv0]; unfold ableL
          rw [if_neg (by omega), if_neg (by omega), if_pos ho, hfree]
          have : (nth s.ths t).wait.length = 0 := by have h3 := congrArg List.length (hrel.wt t ht); rw [List.length_map] at h3; omega
          rw [this]; rfl
        refine ⟨_, .step hr ht hk2 (hnf _ _ _ hr ht hk2), ?_⟩
        rw [hst, hst0, execT_17 ho]
        have h71 : (s'.view t).reg 7 = 1 := h7
        have g := ((hv.pc ((i : Int) + 1) (((pK p.words.length (nth p.code t) i + 2 : Nat) : Int) + 1)).take (L := p.locks.toNat) ⟨hx.r, hx.w, hx.o, hx.wt⟩ hla t).putq (k := 6) hR6 1
        refine hrel.put hl hl' (y := { s'.view t with pc := ((pK p.words.length (nth p.code t) i + 2 : Nat) : Int) + 1, words := (s'.view t).words.set ((p.words.length : Int) + (nth (nth p.code t) i).a).toNat ((s'.view t).reg 7), regs := (s'.view t).regs.set 6 1 }) (by rw [h71]; exact g) (.S i rfl hi ho (by show ((pK p.words.length (nth p.code t) i + 2 : Nat) : Int) + 1 = _; omega) ?_)
        rw [set_get (by rw [show (s'.view t).regs = (nth s'.ths t).regs from rfl, hlen8]; decide)]; decide
      · have hz : ¬ nth (s'.view t).words ((p.words.length : Int) + (nth (nth p.code t) i).a).toNat = (s'.view t).reg 6 := by
          rw [hlk]; show ¬ lkB (nth s.owner _) = nth (nth s'.ths t).regs 6
          rw [h6]; unfold lkB; rw [if_neg hfree]; decide
        rw [execT_13f (i := ⟨13, (p.words.length : Int) + (nth (nth p.code t) i).a, 6, 7⟩) (x := { s'.view t with pc := ((pK p.words.length (nth p.code t) i + 2 : Nat) : Int) + 1 }) rfl hz] at hst
        refine ⟨s, hr, ?_⟩
        rw [hst]
        exact hrel.right hl' ((hv.pcq _).putq (k := 6) hR6 0) (.L3 i ha hi ho (by show ((pK p.words.length (nth p.code t) i + 2 : Nat) : Int) + 1 = _; omega) (set_get (k := 6) (by rw [show ({ s'.view t with pc := _ } : TS).regs = (nth s'.ths t).regs from rfl, hlen8]; decide)))
    · -- again
      obtain ⟨_, _, _, l3, _, l5⟩ := link_17 (nw := p.words.length) hi ho
      obtain ⟨hst, _⟩ := stepQ (m := m) hcode hb (by omega) l3
      rw [execT_15t (i := ⟨15, 6, (pK p.words.length (nth p.code t) i : Int), 0⟩) (x := { s'.view t with pc := ((pK p.words.length (nth p.code t) i + 3 : Nat) : Int) + 1 }) rfl h6] at hst
      refine ⟨s, hr, ?_⟩
      rw [hst]
      exact hrel.right hl' (hv.pcq _) (.A i ha (by omega) rfl)
    · -- it is had
      obtain ⟨_, _, _, l3, l4, l5⟩ := link_17 (nw := p.words.length) hi ho
      obtain ⟨hst, _⟩ := stepQ (m := m) hcode hb (by omega) l3
      rw [execT_15f (i := ⟨15, 6, (pK p.words.length (nth p.code t) i : Int), 0⟩) (x := { s'.view t with pc := ((pK p.words.length (nth p.code t) i + 3 : Nat) : Int) + 1 }) rfl h6] at hst
      refine ⟨s, hr, ?_⟩
      rw [hst]
      exact hrel.right hl' (hv.pcq _) (.A (i + 1) (by rw [ha]; simp) (by omega) (by rw [l4]; show ((pK p.words.length (nth p.code t) i + 3 : Nat) : Int) + 1 = _; omega))
    · -- it is given back
      obtain ⟨_, l1, l4, l5⟩ := link_18 (nw := p.words.length) hi ho
      obtain ⟨hst, hmv⟩ := stepQ (m := m) hcode hb (by omega) l1
      rw [hmv] at hk
      have hla := (hok.insR ht hi).1.o17 (.inr ho)
      obtain ⟨hst0, hmv0⟩ := stepQ (q := p) (m := m) rfl ha hi rfl
      have hk2 : mvOK m (nth p.code t) (s.view t) 0 = true := by
        rw [hmv0]; unfold ableL at hk ⊢
        rw [if_pos (.inl rfl)] at hk
        rw [if_pos (.inr (.inr ho))]
        rw [hrel.wt t ht, List.length_map] at hk; exact hk
      have hnf0 := hnf _ _ _ hr ht hk2
      refine ⟨_, .step hr ht hk2 hnf0, ?_⟩
      rw [hst0] at hnf0
      rw [hst, hst0, unlock_ok ho hnf0 rfl, execT_9 (i := ⟨9, _, 6, 0⟩) rfl, show ({ s'.view t with pc := ((pK p.words.length (nth p.code t) i + 1 : Nat) : Int) + 1 } : TS).reg 6 = 0 from h6]
      have g := (hv.pc ((i : Int) + 1) (((pK p.words.length (nth p.code t) i + 1 : Nat) : Int) + 1)).store (m := m) (L := p.locks.toNat) ⟨hx.r, hx.w, hx.o, hx.wt⟩ (v := ⟨true, (nth (nth p.code t) i).a, 0⟩) (by rw [if_pos rfl]; exact hla)
      refine hrel.put hl hl' g ?_
      rw [(store_r _ _).2.1, (store_r _ _).2.1]
      exact .A (i + 1) (by simp) (by omega) (by rw [l4]; show ((pK p.words.length (nth p.code t) i + 1 : Nat) : Int) + 1 = _; omega)
end
end Go.Proofs.Ytanhbpofhebbaaa
