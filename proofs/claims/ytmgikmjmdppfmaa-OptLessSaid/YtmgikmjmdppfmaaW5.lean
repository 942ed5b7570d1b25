/-
  Numbers put where they always are: a second time nothing changes. Plain Lean.
-/
import Derived.Test.YtmgikmjmdppfmaaW3
section
namespace Go.Proofs.Ytmgikmjmdppfmaa
open Go.RowKit
set_option linter.unusedSimpArgs false
set_option linter.unusedVariables false

section
variable {m : Int} {t : Nat} {c : List Ins} {R : Nat} {f : Nat → Nat → Bool}
end
/-- The programs that are made. -/
noncomputable def constPg (p : Pg) : Pg := { p with code := p.code.map (constL p.regs.toNat) }
theorem ok_jumpW {p : Pg} {size a : Int} (hs : 0 ≤ size ∧ size ≤ 100000) (ha : 0 ≤ a ∧ a ≤ size) : OkIns p size ⟨14, a, 0, 0⟩ := by
  have k : kindsB (⟨14, a, 0, 0⟩ : Ins).op = ⟨[99].toArray⟩ := by show kindsB 14 = _; unfold kindsB; simp
  exact ⟨⟨show (1 : Int) ≤ 14 by decide, show (14 : Int) ≤ 18 by decide⟩, by rw [num0_iff k]; exact fit_c_mk hs ha, by rw [num_no (by rw [k]; decide)]; rfl, by rw [num_no (by rw [k]; decide)]; rfl⟩
section
variable {p : Pg}
/-- A program whose orders are made anew, one for one or none, may be. -/
theorem singles_ok (hok : OkPg p) {B : Nat → Nat → Ins → List Ins} (h1 : ∀ t i, (B t i (nth (nth p.code t) i)).length ≤ 1)
    (hB : ∀ t i y, t < p.code.length → i < (nth p.code t).length → B t i (nth (nth p.code t) i) = [y] → y = nth (nth p.code t) i ∨ (y.op = 1 ∧ y.c = 0 ∧ 0 ≤ y.a ∧ y.a < p.regs) ∨ ((nth (nth p.code t) i).op = 15 ∧ y = ⟨14, (nth (nth p.code t) i).b, 0, 0⟩))
    {q : Pg} (hq : q = { p with code := q.code }) (hql : q.code.length = p.code.length) (hqc : ∀ t, t < p.code.length → nth q.code t = movedL (B t) (nth p.code t)) : OkPg q := by
  have hw : q.words = p.words := by rw [hq]
  have hk : q.locks = p.locks := by rw [hq]
  have hr : q.regs = p.regs := by rw [hq]
  have hsz : ∀ t, t < p.code.length → (movedL (B t) (nth p.code t)).length ≤ 400 := fun t ht => by
    rw [plB_len]
    have := plB_id (c := nth p.code t) (h1 t) (Nat.le_refl _)
    have := hok.len t ht
    omega
  refine ⟨by rw [hql]; exact hok.code, by rw [hw]; exact hok.words, by rw [hk]; exact hok.locks, by rw [hr]; exact hok.regs, fun t ht => ?_, fun t j ht hj => ?_⟩
  · rw [hql] at ht
    rw [hqc t ht]; exact hsz t ht
  · rw [hql] at ht
    rw [hqc t ht] at hj ⊢
    have hsz := hsz t ht
    obtain ⟨i, y, hi, hb, rfl⟩ := plB_from (h1 t) _ (Nat.le_refl _) j (by rw [← plB_len]; exact hj)
    have hpl := plB_kept hi hb
    rw [hpl.2.2]
    have hoi := hok.ins t i ht hi
    have hjo := jmpP hok ht i hi
    have hle : ∀ k, k ≤ (nth p.code t).length → plB (B t) (nth p.code t) k ≤ (movedL (B t) (nth p.code t)).length := fun k hk => plB_le hk
    rcases hB t i y ht hi hb with rfl | ⟨g1, g2, g3, g4⟩ | ⟨g1, rfl⟩
    · by_cases h14 : (nth (nth p.code t) i).op = 14
      · rw [fixW_14 h14 (.inl h14)]
        exact OkIns.jump h14 hoi ⟨by omega, by omega⟩ ⟨by omega, by have := hle _ (show (nth (nth p.code t) i).a.toNat ≤ (nth p.code t).length by have := hjo.1 h14; omega); omega⟩
      by_cases h15 : (nth (nth p.code t) i).op = 15
      · rw [fixW_15 h15 h15]
        exact OkIns.zero hr (by rw [hw]) hk h15 hoi ⟨by omega, by omega⟩ ⟨by omega, by have := hle _ (show (nth (nth p.code t) i).b.toNat ≤ (nth p.code t).length by have := hjo.2 h15; omega); omega⟩
      rw [fixW_no h14 h15]
      exact OkIns.move hr (by rw [hw]) hk h14 h15 hoi
    · rw [fixW_no (by omega) (by omega)]
      obtain ⟨o, a, b, c⟩ := y
      simp only at g1 g2 g3 g4
      subst g1 g2
      exact ok_const ⟨g3, by rw [hr]; exact g4⟩
    · rw [fixW_14 rfl (.inr g1)]
      exact ok_jumpW ⟨by omega, by omega⟩ ⟨by omega, by have := hle _ (show (nth (nth p.code t) i).b.toNat ≤ (nth p.code t).length by have := hjo.2 g1; omega); show ((plB (B t) (nth p.code t) (nth (nth p.code t) i).b.toNat : Nat) : Int) ≤ _; omega⟩
theorem constPg_ok (hok : OkPg p) : OkPg (constPg p) := by
  refine singles_ok hok (B := fun t => bcC (leastA (nth p.code t) p.regs.toNat)) (fun t i => bcC_len _ _ _) ?_ rfl (by simp [constPg]) (fun t ht => nth_map' _ _ _ ht)
  intro t i y ht hi hb
  have hov := okvP hok ht i hi
  have hr := hok.regs
  unfold bcC at hb
  split at hb
  · cases hb
  · split at hb
    · rename_i h9
      obtain rfl := (List.cons.inj hb).1.symm
      refine .inr (.inl ⟨rfl, rfl, hov.2.1 (by omega), ?_⟩)
      have h8 := hov.2.2.1.2
      rw [wr_aW (by omega)] at h8
      show (nth (nth p.code t) i).a < _
      omega
    · split at hb
      · split at hb
        · cases hb
        · rename_i h9 _
          exact .inr (.inr ⟨h9.1, (List.cons.inj hb).1.symm⟩)
      · exact .inl (List.cons.inj hb).1.symm
end
end Go.Proofs.Ytmgikmjmdppfmaa
end
namespace Go.Proofs.Ytmgikmjmdppfmaa
open Go.RowKit
set_option linter.unusedSimpArgs false
set_option linter.unusedVariables false

def glbV (a b : VV) : VV := if a = b then a else if b.s = 2 then a else if a.s = 2 then b else ⟨0, 0⟩
section
variable {a b q : VV}
theorem glb_l : leV (glbV a b) a := by
  unfold glbV
  split
  · exact .refl _
  · split
    · exact .refl _
    · split
      · exact .inr (.inr (by assumption))
      · exact .inl rfl
theorem glb_r : leV (glbV a b) b := by
  unfold glbV
  split
  · rename_i h; exact .inr (.inl h)
  · split
    · exact .inr (.inr (by assumption))
    · split
      · exact .refl _
      · exact .inl rfl
theorem glb_ok (h1 : OkVV a) (h2 : OkVV b) : OkVV (glbV a b) := by
  unfold glbV
  split
  · exact h1
  · split
    · exact h1
    · split
      · exact h2
      · exact .inl rfl
theorem glb_le (h1 : leV q a) (h2 : leV q b) : leV q (glbV a b) := by
  unfold glbV
  split
  · exact h1
  · rename_i hne
    split
    · exact h1
    · rename_i hb
      split
      · exact h2
      · rename_i ha
        rcases h1 with h1 | h1 | h1
        · exact .inl h1
        · rcases h2 with h2 | h2 | h2
          · exact .inl h2
          · exact absurd (h1.symm.trans h2) hne
          · exact absurd h2 hb
        · exact absurd h1 ha
end
def glbL (x y : List VV) : List VV := (List.range x.length).map fun r => glbV (nth x r) (nth y r)
section
variable {R : Nat} {x y q : List VV}
theorem glbL_len : (glbL x y).length = x.length := by simp [glbL]
theorem glbL_nth (hl : x.length = y.length) (r : Nat) : nth (glbL x y) r = glbV (nth x r) (nth y r) := by
  rcases Nat.lt_or_ge r x.length with h | h
  · exact nth_mapR h
  · rw [nth_outE _ _ (by rw [glbL_len]; exact h), nth_outE _ _ h, nth_outE _ _ (by omega)]
    rfl
theorem glbL_ok (hx : OkEn R x) (hy : OkEn R y) : OkEn R (glbL x y) := ⟨by rw [glbL_len]; exact hx.1, fun r => by rw [glbL_nth (hx.1.trans hy.1.symm)]; exact glb_ok (hx.2 r) (hy.2 r)⟩
theorem glbL_l (hx : OkEn R x) (hy : OkEn R y) : leL (glbL x y) x := fun r => by rw [glbL_nth (hx.1.trans hy.1.symm)]; exact glb_l
theorem glbL_r (hx : OkEn R x) (hy : OkEn R y) : leL (glbL x y) y := fun r => by rw [glbL_nth (hx.1.trans hy.1.symm)]; exact glb_r
theorem glbL_le (hx : OkEn R x) (hy : OkEn R y) (h1 : leL q x) (h2 : leL q y) : leL q (glbL x y) := fun r => by rw [glbL_nth (hx.1.trans hy.1.symm)]; exact glb_le (h1 r) (h2 r)
end
/-- What is come to has no value that is not there. -/
def NzE (R : Nat) (e : List VV) : Prop := ∀ r, r < R → (nth e r).s ≠ 0
section
variable {c : List Ins} {R : Nat} {A : AF} {i : Nat} {e e' : List VV} {x : Ins}
theorem NzE.up (h : NzE R e) (hl : leL e e') : NzE R e' := fun r hr => by
  have h1 := h r hr
  rcases hl r with h2 | h2 | h2
  · exact absurd h2 h1
  · rw [← h2]; exact h1
  · omega
theorem NzE.set (h : NzE R e) {k : Nat} {v : VV} (hv : v.s ≠ 0) : NzE R (e.set k v) := fun r hr => by
  rw [nth_setE]
  split
  · exact hv
  · exact h r hr
theorem rk_nz (h : NzE R e) (hop : 1 ≤ x.op ∧ x.op ≤ 7) (hb : 2 ≤ x.op → 0 ≤ x.b ∧ x.b < (R : Int)) (hc : 3 ≤ x.op → 0 ≤ x.c ∧ x.c < (R : Int)) : (rkV x e).s ≠ 0 := by
  unfold rkV
  split
  · show (1 : Int) ≠ 0; decide
  · split
    · have := hb (by omega); exact h _ (by omega)
    · have := hb (by omega)
      have := hc (by omega)
      have h1 := h x.b.toNat (by omega)
      have h2 := h x.c.toNat (by omega)
      unfold rk2
      rw [if_neg (by rintro (h9 | h9); exact h1 h9; exact h2 h9)]
      split
      · show (2 : Int) ≠ 0; decide
      · show (1 : Int) ≠ 0; decide
theorem out_nz (hov : OkV c (R : Int)) (hi : i < c.length) (h : NzE R e) : NzE R (outE (nth c i) e) := by
  unfold outE
  split
  · rename_i h7
    exact h.set (rk_nz h h7 (fun h9 => okv_b hov hi ⟨h9, h7.2⟩) (fun h9 => okv_c hov hi ⟨h9, h7.2⟩))
  · split
    · exact h.set (by decide)
    · exact h
theorem first_nz : NzE R (firstE R) := fun r hr => by simp [nth, firstE, hr]
open Classical in
theorem least_nz (hA : Least c R A) (hov : OkV c (R : Int)) (h : A i = some e) : NzE R e := by
  have hQ : Clo c R (fun t => match A t with
      | none => none
      | some e => if NzE R e then some e else none) := by
    have up : ∀ t e, A t = some e → NzE R e → (fun t => match A t with
      | none => none
      | some e => if NzE R e then some e else none : AF) t = some e := fun t e h1 h2 => by simp only [h1]; exact if_pos h2
    have dn : ∀ t e, (fun t => match A t with
      | none => none
      | some e => if NzE R e then some e else none : AF) t = some e → A t = some e ∧ NzE R e := fun t e h1 => by
      simp only at h1
      cases ha : A t with
      | none => rw [ha] at h1; cases h1
      | some e2 =>
        rw [ha] at h1
        simp only at h1
        split at h1
        · rename_i h9; cases h1; exact ⟨rfl, h9⟩
        · cases h1
    refine ⟨fun t e h1 => hA.clo.ok t e (dn t e h1).1, ?_, fun t ht e h1 d hd => ?_⟩
    · obtain ⟨e0, h1, h2⟩ := hA.clo.first
      exact ⟨e0, up 0 e0 h1 (first_nz.up h2), h2⟩
    · obtain ⟨h2, h3⟩ := dn t e h1
      obtain ⟨e', h4, h5⟩ := hA.clo.all t ht e h2 d hd
      exact ⟨e', up d e' h4 ((out_nz hov ht h3).up h5), h5⟩
  obtain ⟨e', h1, h2⟩ := hA.bel _ hQ i e h
  simp only [h] at h1
  split at h1
  · assumption
  · cases h1
end
-- ---------------------------------------------------------------- a second time
theorem outE_no {x : Ins} {e : List VV} (h : 14 ≤ x.op) : outE x e = e := by unfold outE; rw [if_neg (by omega), if_neg (by rw [wr_nW (by omega)]; decide)]
section
variable {c : List Ins} {R : Nat} {A L : AF} {i : Nat} {e e' : List VV}
theorem nxt_z {g : List VV} {d : Nat} (h15 : (nth c i).op = 15) (hd : d ∈ nxtE c i g) : ((nth g (nth c i).a.toNat).s = 2 ∨ ((nth g (nth c i).a.toNat).s = 1 ∧ (nth g (nth c i).a.toNat).n ≠ 0)) ∧ d = i + 1 ∨ ((nth g (nth c i).a.toNat).s = 2 ∨ ((nth g (nth c i).a.toNat).s = 1 ∧ (nth g (nth c i).a.toNat).n = 0)) ∧ d = (nth c i).b.toNat := by
  unfold nxtE at hd
  rw [if_pos h15] at hd
  rcases List.mem_append.1 hd with hd | hd
  · split at hd
    · exact .inl ⟨by assumption, List.mem_singleton.1 hd⟩
    · cases hd
  · split at hd
    · exact .inr ⟨by assumption, List.mem_singleton.1 hd⟩
    · cases hd
theorem nxt_s {g : List VV} {d : Nat} (h15 : (nth c i).op ≠ 15) (h14 : (nth c i).op ≠ 14) (hd : d ∈ nxtE c i g) : d = i + 1 := by
  unfold nxtE nextsL at hd
  rw [if_neg h15, if_neg h14, if_neg h15] at hd
  simpa using hd
theorem nxt_sm {g : List VV} (h15 : (nth c i).op ≠ 15) (h14 : (nth c i).op ≠ 14) : i + 1 ∈ nxtE c i g := by
  unfold nxtE nextsL; rw [if_neg h15, if_neg h14, if_neg h15]; simp
theorem nxt_jm {g : List VV} (h14 : (nth c i).op = 14) : (nth c i).a.toNat ∈ nxtE c i g := by
  unfold nxtE nextsL; rw [if_neg (by omega), if_pos h14]; simp
/-- What is ahead is ahead where one stands now. -/
theorem const_low (hA : Least c R A) (hov : OkV c (R : Int)) (hj : JumpsOK c) (hL : Least (movedL (bcC A) c) R L) : ∀ i e, A i = some e → ∃ e', L (plB (bcC A) c i) = some e' ∧ leL e e' := by
  have hQ : Clo c R (fun t => match A t, L (plB (bcC A) c t) with
      | some e, some e' => some (glbL e e')
      | _, _ => none) := by
    have up : ∀ t e e', A t = some e → L (plB (bcC A) c t) = some e' → (fun t => match A t, L (plB (bcC A) c t) with
      | some e, some e' => some (glbL e e')
      | _, _ => none : AF) t = some (glbL e e') := fun t e e' h1 h2 => by simp only [h1, h2]
    have dn : ∀ t g, (fun t => match A t, L (plB (bcC A) c t) with
      | some e, some e' => some (glbL e e')
      | _, _ => none : AF) t = some g → ∃ e e', A t = some e ∧ L (plB (bcC A) c t) = some e' ∧ g = glbL e e' := fun t g h1 => by
      simp only at h1
      cases ha : A t with
      | none => rw [ha] at h1; cases h1
      | some e2 =>
        cases hb : L (plB (bcC A) c t) with
        | none => rw [ha, hb] at h1; cases h1
        | some e3 => rw [ha, hb] at h1; exact ⟨e2, e3, rfl, rfl, (Option.some.inj h1).symm⟩
    refine ⟨fun t g h1 => ?_, ?_, fun t ht g h1 d hd => ?_⟩
    · obtain ⟨e, e', h2, h3, rfl⟩ := dn t g h1
      exact ⟨(hA.clo.ok t e h2).1, glbL_ok (hA.clo.ok t e h2).2 (hL.clo.ok _ e' h3).2⟩
    · obtain ⟨e, h2, h3⟩ := hA.clo.first
      obtain ⟨e', h4, h5⟩ := hL.clo.first
      exact ⟨_, up 0 e e' h2 (by rw [plB_0]; exact h4), glbL_le (hA.clo.ok _ _ h2).2 (hL.clo.ok _ _ h4).2 h3 h5⟩
    · obtain ⟨e, e', h2, h3, rfl⟩ := dn t g h1
      have ok1 := (hA.clo.ok t e h2).2
      have ok2 := (hL.clo.ok _ e' h3).2
      have ok3 := glbL_ok ok1 ok2
      have hgl := glbL_l ok1 ok2
      have hgr := glbL_r ok1 ok2
      have hm1 : leL (outE (nth c t) (glbL e e')) (outE (nth c t) e) := outE_mono hgl (ok3.1.trans ok1.1.symm)
      obtain ⟨ed, h4, h5⟩ := hA.clo.all t ht e h2 d (nxtE_mono hm1 d hd)
      -- what is left is that the other one goes there, too
      suffices hs : ∃ ed', L (plB (bcC A) c d) = some ed' ∧ leL (outE (nth c t) (glbL e e')) ed' by
        obtain ⟨ed', h6, h7⟩ := hs
        exact ⟨_, up d ed ed' h4 h6, glbL_le (hA.clo.ok _ _ h4).2 (hL.clo.ok _ _ h6).2 (hm1.trans h5) h7⟩
      have hgo : ∀ {y : Ins}, bcC A t (nth c t) = [y] → ∀ {k : Nat}, k ∈ nxtE (movedL (bcC A) c) (plB (bcC A) c t) (outE (fixMv (becL (bcC A) c) c t y) e') → k = plB (bcC A) c d → leL (outE (nth c t) (glbL e e')) (outE (fixMv (becL (bcC A) c) c t y) e') → ∃ ed', L (plB (bcC A) c d) = some ed' ∧ leL (outE (nth c t) (glbL e e')) ed' := fun {y} hb {k} hk hkd hle => by
        obtain ⟨_, g2, g3⟩ := plB_kept ht hb
        obtain ⟨ed', g4, g5⟩ := hL.clo.all _ g2 e' h3 k (by rw [g3]; exact hk)
        rw [g3] at g5
        exact ⟨ed', by rw [← hkd]; exact g4, hle.trans g5⟩
      have hv := hgl (nth c t).a.toNat
      have hv2 := hgr (nth c t).a.toNat
      by_cases h15 : (nth c t).op = 15
      · have ho : outE (nth c t) (glbL e e') = glbL e e' := outE_no (by omega)
        rw [ho] at hd ⊢
        by_cases hs : (nth e (nth c t).a.toNat).s = 1
        · have hg : ∀ n, nth e (nth c t).a.toNat = ⟨1, n⟩ → (nth (glbL e e') (nth c t).a.toNat).s = 2 ∨ (nth (glbL e e') (nth c t).a.toNat).s = 1 → nth (glbL e e') (nth c t).a.toNat = ⟨1, n⟩ := fun n e1 h9 => by
            rcases hv with hv | hv | hv
            · omega
            · rw [hv]; exact e1
            · omega
          have e1 : nth e (nth c t).a.toNat = ⟨1, (nth e (nth c t).a.toNat).n⟩ := VV.ext' hs rfl
          by_cases hz : (nth e (nth c t).a.toNat).n = 0
          · have hb := bcE_j h2 ⟨h15, hs⟩ hz
            have hd1 : d = (nth c t).b.toNat := by
              rcases nxt_z h15 hd with ⟨h9, h8⟩ | ⟨_, h8⟩
              · exfalso
                have := hg _ e1 (by omega)
                rw [this] at h9
                simp only at h9
                omega
              · exact h8
            rw [← ho]
            refine hgo hb (k := plB (bcC A) c (nth c t).b.toNat) ?_ (by rw [hd1]) ?_
            · rw [fixW_14 rfl (.inr h15)]
              obtain ⟨_, g2, g3⟩ := plB_kept ht hb
              rw [fixW_14 rfl (.inr h15)] at g3
              have := nxt_jm (c := movedL (bcC A) c) (i := plB (bcC A) c t) (g := outE ({ (⟨14, (nth c t).b, 0, 0⟩ : Ins) with a := ((plB (bcC A) c (nth c t).b.toNat : Nat) : Int) }) e') (by rw [g3])
              rw [g3] at this
              simpa using this
            · rw [ho, fixW_14 rfl (.inr h15), outE_no (by show (14 : Int) ≤ 14; decide)]
              exact hgr
          · have hb := bcE_z h2 ⟨h15, hs⟩ hz
            have hd1 : d = t + 1 := by
              rcases nxt_z h15 hd with ⟨_, h8⟩ | ⟨h9, h8⟩
              · exact h8
              · exfalso
                have := hg _ e1 (by omega)
                rw [this] at h9
                simp only at h9
                omega
            rw [hd1, plB_gone ht hb]
            exact ⟨e', h3, hgr⟩
        · have hb := bcE_s h2 (x := nth c t) (by omega) (fun h9 => hs h9.2)
          rw [← ho]
          obtain ⟨g1, g2, g3⟩ := plB_kept ht hb
          rw [fixW_15 h15 h15] at g3
          have hoe : outE (fixMv (becL (bcC A) c) c t (nth c t)) e' = e' := by rw [fixW_15 h15 h15]; exact outE_no (by show (14 : Int) ≤ (nth c t).op; omega)
          have h15' : (nth (movedL (bcC A) c) (plB (bcC A) c t)).op = 15 := by rw [g3]; exact h15
          have ea : (nth (movedL (bcC A) c) (plB (bcC A) c t)).a = (nth c t).a := by rw [g3]
          have eb : (nth (movedL (bcC A) c) (plB (bcC A) c t)).b.toNat = plB (bcC A) c (nth c t).b.toNat := by rw [g3]; exact Int.toNat_natCast _
          refine hgo hb (k := plB (bcC A) c d) ?_ rfl (by rw [ho, hoe]; exact hgr)
          rw [hoe]
          unfold nxtE
          rw [if_pos h15', ea, eb]
          rcases nxt_z h15 hd with ⟨h9, h8⟩ | ⟨h9, h8⟩
          · refine List.mem_append.2 (.inl ?_)
            rw [if_pos (by rcases hv2 with hv2 | hv2 | hv2; omega; rw [← hv2]; exact h9; exact .inl hv2), h8, g1]
            exact List.mem_singleton.2 rfl
          · refine List.mem_append.2 (.inr ?_)
            rw [if_pos (by rcases hv2 with hv2 | hv2 | hv2; omega; rw [← hv2]; exact h9; exact .inl hv2), h8]
            exact List.mem_singleton.2 rfl
      by_cases h14 : (nth c t).op = 14
      · have hb := bcE_s h2 (x := nth c t) (by omega) (by omega)
        obtain ⟨g1, g2, g3⟩ := plB_kept ht hb
        rw [fixW_14 h14 (.inl h14)] at g3
        have hoe : outE (fixMv (becL (bcC A) c) c t (nth c t)) e' = e' := by rw [fixW_14 h14 (.inl h14)]; exact outE_no (by show (14 : Int) ≤ (nth c t).op; omega)
        have hd1 : d = (nth c t).a.toNat := by
          unfold nxtE nextsL at hd
          rw [if_neg h15, if_pos h14] at hd
          simpa using hd
        refine hgo hb (k := plB (bcC A) c (nth c t).a.toNat) ?_ (by rw [hd1]) (by rw [hoe, outE_no (by omega)]; exact hgr)
        have := nxt_jm (c := movedL (bcC A) c) (i := plB (bcC A) c t) (g := outE (fixMv (becL (bcC A) c) c t (nth c t)) e') (by rw [g3]; exact h14)
        rw [g3] at this
        simpa using this
      have hd1 : d = t + 1 := nxt_s h15 h14 hd
      have key : ∀ y : Ins, bcC A t (nth c t) = [y] → y.op ≠ 14 → y.op ≠ 15 → leL (outE (nth c t) (glbL e e')) (outE y e') → ∃ ed', L (plB (bcC A) c d) = some ed' ∧ leL (outE (nth c t) (glbL e e')) ed' := fun y hb n14 n15 hle => by
        obtain ⟨g1, g2, g3⟩ := plB_kept ht hb
        rw [fixW_no n14 n15] at g3
        refine hgo hb (k := plB (bcC A) c t + 1) (nxt_sm (by rw [g3]; exact n15) (by rw [g3]; exact n14)) (by rw [hd1, g1]) (by rw [fixW_no n14 n15]; exact hle)
      by_cases hs : 2 ≤ (nth c t).op ∧ (nth c t).op ≤ 7 ∧ (rkV (nth c t) e).s = 1
      · refine key _ (bcE_c h2 hs) (by show (1 : Int) ≠ 14; decide) (by show (1 : Int) ≠ 15; decide) ?_
        have e1 : outE (nth c t) (glbL e e') = (glbL e e').set (nth c t).a.toNat (rkV (nth c t) (glbL e e')) := by unfold outE; rw [if_pos ⟨by omega, hs.2.1⟩]
        have e2 : outE (⟨1, (nth c t).a, (rkV (nth c t) e).n, 0⟩ : Ins) e' = e'.set (nth c t).a.toNat ⟨1, (rkV (nth c t) e).n⟩ := by
          unfold outE rkV
          rw [if_pos ⟨by show (1 : Int) ≤ 1; decide, by show (1 : Int) ≤ 7; decide⟩]
          rfl
        rw [e1, e2]
        refine leL.set hgr (ok3.1.trans ok2.1.symm) ?_
        have h9 := rkV_mono (i := nth c t) hgl
        rwa [show rkV (nth c t) e = ⟨1, (rkV (nth c t) e).n⟩ from VV.ext' hs.2.2 rfl] at h9
      · exact key _ (bcE_s h2 hs (by omega)) h14 h15 (outE_mono hgr (ok3.1.trans ok2.1.symm))
  intro i e hi
  obtain ⟨g, h1, h2⟩ := hA.bel _ hQ i e hi
  simp only [hi] at h1
  cases hb : L (plB (bcC A) c i) with
  | none => rw [hb] at h1; cases h1
  | some e3 =>
    rw [hb] at h1
    obtain rfl := Option.some.inj h1
    exact ⟨e3, rfl, h2.trans (glbL_r (hA.clo.ok _ _ hi).2 (hL.clo.ok _ _ hb).2)⟩
theorem moved_id {B : Nat → Ins → List Ins} (hj : JumpsOK c) (h : ∀ i, i < c.length → B i (nth c i) = [nth c i]) : movedL B c = c := by
  have hp : ∀ i, i ≤ c.length → plB B c i = i := by
    intro i
    induction i with
    | zero => exact fun _ => plB_0
    | succ i ih => exact fun hi => by rw [(plB_kept (by omega) (h i (by omega))).1, ih (by omega)]
  apply ext_nth
  · rw [plB_len, hp _ (Nat.le_refl _)]
  · intro i hi
    rw [plB_len, hp _ (Nat.le_refl _)] at hi
    have h1 := (plB_kept hi (h i hi)).2.2
    rw [hp i (by omega)] at h1
    rw [h1]
    have hji := hj i hi
    by_cases h14 : (nth c i).op = 14
    · have := hji.1 h14
      rw [fixW_14 h14 (.inl h14), hp _ (by omega), show (((nth c i).a.toNat : Nat) : Int) = (nth c i).a by omega]
    by_cases h15 : (nth c i).op = 15
    · have := hji.2 h15
      rw [fixW_15 h15 h15, hp _ (by omega), show (((nth c i).b.toNat : Nat) : Int) = (nth c i).b by omega]
    exact fixW_no h14 h15
/-- A second time nothing changes. -/
theorem const_twice (hA : Least c R A) (hov : OkV c (R : Int)) (hj : JumpsOK c) (hL : Least (movedL (bcC A) c) R L) (hj' : JumpsOK (movedL (bcC A) c)) : movedL (bcC L) (movedL (bcC A) c) = movedL (bcC A) c := by
  refine moved_id hj' fun j hjl => ?_
  obtain ⟨i, y, hi, hb, rfl⟩ := plB_from (fun i => bcC_len A i (nth c i)) _ (Nat.le_refl _) j (by rw [← plB_len]; exact hjl)
  obtain ⟨_, g2, g3⟩ := plB_kept hi hb
  cases ha : A i with
  | none => unfold bcC at hb; rw [ha] at hb; cases hb
  | some e =>
    obtain ⟨e', h1, h2⟩ := const_low hA hov hj hL i e ha
    have hnz := least_nz hA hov ha
    have hu : ∀ v u : VV, leV v u → v.s ≠ 0 → v.s ≠ 1 → OkVV v → u.s = 2 := fun v u h9 h8 h7 h6 => by
      have h5 := h6.cases
      rcases h9 with h9 | h9 | h9
      · exact absurd h9 h8
      · rw [← h9]; omega
      · exact h9
    have hok := (hA.clo.ok _ _ ha).2
    rw [bcE ha] at hb
    rw [g3]
    split at hb
    · obtain rfl := (List.cons.inj hb).1.symm
      rw [fixW_no (by show (1 : Int) ≠ 14; decide) (by show (1 : Int) ≠ 15; decide)]
      exact bcE_s h1 (fun h9 => absurd h9.1 (by show ¬ (2 : Int) ≤ 1; decide)) (fun h9 => absurd h9.1 (by show (1 : Int) ≠ 15; decide))
    · rename_i hn1
      split at hb
      · rename_i hz
        split at hb
        · cases hb
        · obtain rfl := (List.cons.inj hb).1.symm
          rw [fixW_14 rfl (.inr hz.1)]
          exact bcE_s h1 (fun h9 => absurd h9.2.1 (by show ¬ (14 : Int) ≤ 7; decide)) (fun h9 => absurd h9.1 (by show (14 : Int) ≠ 15; decide))
      · rename_i hn2
        obtain rfl := (List.cons.inj hb).1.symm
        by_cases h14 : (nth c i).op = 14
        · rw [fixW_14 h14 (.inl h14)]
          exact bcE_s h1 (fun h9 => by have : (nth c i).op ≤ 7 := h9.2.1; omega) (fun h9 => by have : (nth c i).op = 15 := h9.1; omega)
        by_cases h15 : (nth c i).op = 15
        · rw [fixW_15 h15 h15]
          refine bcE_s h1 (fun h9 => by have : (nth c i).op ≤ 7 := h9.2.1; omega) (fun h9 => ?_)
          have ha2 := (hov i hi).2.2.2 (nth c i).a (by rw [rd_4W (.inl h15)]; simp)
          have := hu _ _ (h2 (nth c i).a.toNat) (hnz _ (by omega)) (fun h8 => hn2 ⟨h15, h8⟩) (hok.2 _)
          have h8 : (nth e' (nth c i).a.toNat).s = 1 := h9.2
          omega
        rw [fixW_no h14 h15]
        refine bcE_s h1 (fun h9 => ?_) (fun h9 => h15 h9.1)
        have h3 := rk_nz (x := nth c i) hnz ⟨by omega, h9.2.1⟩ (fun h8 => okv_b hov hi ⟨h8, h9.2.1⟩) (fun h8 => okv_c hov hi ⟨h8, h9.2.1⟩)
        have := hu _ _ (rkV_mono (i := nth c i) h2) h3 (fun h8 => hn1 ⟨h9.1, h9.2.1, h8⟩) (rkV_ok hok)
        omega
end
theorem constL_len (R : Nat) (c : List Ins) : (constL R c).length ≤ c.length := by
  unfold constL
  rw [plB_len]
  exact plB_id (fun i => bcC_len _ _ _) (Nat.le_refl _)
theorem deadL_len (c : List Ins) : (deadL c).length ≤ c.length := by
  unfold deadL
  rw [plB_len]
  exact plB_id (fun i => deadB_len _ _ _) (Nat.le_refl _)
theorem constL_twice {p : Pg} (hok : OkPg p) {t : Nat} (ht : t < p.code.length) : constL p.regs.toNat (constL p.regs.toNat (nth p.code t)) = constL p.regs.toNat (nth p.code t) := by
  have hc : nth (constPg p).code t = constL p.regs.toNat (nth p.code t) := nth_map' _ _ _ ht
  have hj' := jmpP (constPg_ok hok) (t := t) (by simpa [constPg] using ht)
  rw [hc] at hj'
  unfold constL at hj' ⊢
  exact const_twice (leastA_is (jmpP hok ht) _) (okvP hok ht) (jmpP hok ht) (leastA_is hj' _) hj'
end Go.Proofs.Ytmgikmjmdppfmaa
