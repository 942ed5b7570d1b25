/-
  Numbers put where they always are, and what nobody needs taken away: the same outcomes. Plain Lean.
-/
import Derived.Test.YtmgikmjmdppfmaaW3
namespace Go.Proofs.Ytmgikmjmdppfmaa
open Go.RowKit
set_option linter.unusedSimpArgs false
set_option linter.unusedVariables false

/-- Where a thread of both stands: registers that are live agree. -/
def RelD (c : List Ins) (R : Nat) (f : Nat → Nat → Bool) (px : Int) (rx : List Int) (py : Int) (ry : List Int) : Prop := ∃ i : Nat, i ≤ c.length ∧ px = (i : Int) ∧ py = ((plB (deadB f) c i : Nat) : Int) ∧ rx.length = R ∧ ry.length = R ∧ ∀ r, r < R → f r i = true → nth ry r = nth rx r
theorem nth_setW (l : List Int) (i k : Nat) (v : Int) (h : i ≠ k) : nth (l.set i v) k = nth l k := by
  rw [nth_set0, if_neg (fun h9 => h h9.1)]
theorem nth_setS (l m : List Int) (i k : Nat) (v : Int) (hl : l.length = m.length) (h : i ≠ k → nth l k = nth m k) : nth (l.set i v) k = nth (m.set i v) k := by
  rw [nth_set0, nth_set0, hl]
  by_cases e : i = k ∧ i < m.length
  · rw [if_pos e, if_pos e]
  · rw [if_neg e, if_neg e]
    by_cases e2 : i = k
    · subst e2
      have h1 : m.length ≤ i := Nat.le_of_not_lt fun h9 => e ⟨rfl, h9⟩
      simp only [nth, List.getD, List.getElem?_eq_none (show l.length ≤ i by omega), List.getElem?_eq_none h1]
    · exact h e2
section
variable {m : Int} {t : Nat} {c : List Ins} {R : Nat} {f : Nat → Nat → Bool}
theorem dead_next (hf : ∀ r j, f r j = true ↔ LiveI c r j) (hov : OkV c (R : Int)) (hj : JumpsOK c) {x y : TS} (hw : y.words = x.words) (ho : y.owner = x.owner) (hp : y.prints = x.prints) (hwt : y.wait = x.wait) (hxf : x.fell = false) (hyf : y.fell = false) (h : RelD c R f x.pc x.regs y.pc y.regs) :
    NextQ m t c (movedL (deadB f) c) (RelD c R f) (fun u => ((c.length : Int) - u).toNat) x y := by
  obtain ⟨i, hi, hx, hy, hxl, hyl, hr⟩ := h
  rcases Nat.lt_or_ge i c.length with hlt | hge
  case inr =>
    obtain rfl : i = c.length := by omega
    exact .over (by omega) (by rw [hy, plB_len]; exact Int.le_refl _)
  have hn : nextIns c x.pc = nth c i := by rw [hx, nextIns_t (by omega)]; simp
  have hop := (hov i hlt).1
  have hjo := hj i hlt
  have hsb : SameB { x with pc := x.pc + 1 } { y with pc := y.pc + 1 } := ⟨hw, ho, hp, hwt, by show y.fell = x.fell; rw [hxf, hyf]⟩
  have hrd : ∀ v ∈ rdG (nth c i), nth y.regs v.toNat = nth x.regs v.toNat := fun v hv => by
    have h9 := (hov i hlt).2.2.2 v hv
    refine hr _ (by omega) ((hf _ _).2 (.read i hlt ?_))
    rw [show ((v.toNat : Nat) : Int) = v by omega]; exact hv
  have hps : ∀ {i' : Nat}, (i' : Int) ∈ nextsL c i → ∀ r, r < R → wrG (nth c i) ≠ (r : Int) → f r i' = true → nth y.regs r = nth x.regs r := fun {i'} hi' r hrR hne hl =>
    hr r hrR ((hf _ _).2 (.pass i (i' : Int) hlt hne hi' (by rw [Int.toNat_natCast]; exact (hf _ _).1 hl)))
  by_cases hd : (nth c i).op ≤ 8 ∧ f (nth c i).a.toNat (i + 1) = false
  · have hb : deadB f i (nth c i) = [] := if_pos hd
    have hwa : wrG (nth c i) = (nth c i).a := wr_aW (by omega)
    have ha0 := (hov i hlt).2.1 (.inl hd.1)
    have h1 : (((i + 1 : Nat)) : Int) ∈ nextsL c i := by unfold nextsL; rw [if_neg (by omega), if_neg (by omega)]; simp
    have ex : ∃ v, execT m t (nextIns c x.pc) { x with pc := x.pc + 1 } = { x with pc := ((i + 1 : Nat) : Int), regs := x.regs.set (nth c i).a.toNat v } := by
      have e9 : x.pc + 1 = ((i + 1 : Nat) : Int) := by omega
      rw [hn, e9]
      by_cases h8 : (nth c i).op = 8
      · exact ⟨_, execT_8 h8⟩
      · exact ⟨_, exV ⟨hop.1, by omega⟩⟩
    obtain ⟨v, hv⟩ := ex
    refine .alone (by omega) (fun o n => by rw [hn]; unfold ableL; rw [if_neg (by omega), if_neg (by omega), if_neg (by omega)]) _ _ hv ?_ (by rw [hx]; omega)
    refine ⟨i + 1, hlt, rfl, by rw [hy, plB_gone hlt hb], by rw [List.length_set]; exact hxl, hyl, fun r hrR hl => ?_⟩
    have hne : (nth c i).a.toNat ≠ r := fun e => by rw [e, hl] at hd; exact absurd hd.2 (by decide)
    rw [nth_setW _ _ _ _ hne]
    exact hps h1 r hrR (by rw [hwa]; omega) hl
  have hb : deadB f i (nth c i) = [nth c i] := if_neg hd
  have hpl := plB_kept hlt hb
  have hlt2 : y.pc < ((movedL (deadB f) c).length : Int) := by rw [hy]; exact_mod_cast hpl.2.1
  have hsame : ∀ {i' : Nat} {py : Int}, (i' : Int) ∈ nextsL c i → py = ((plB (deadB f) c i' : Nat) : Int) → wrG (nth c i) = -1 → RelD c R f (i' : Int) x.regs py y.regs := fun {i' py} h1 h2 h3 =>
    ⟨i', by have := nextsV_ok hj hlt h1; omega, rfl, h2, hxl, hyl, fun r hrR hl => hps h1 r hrR (by rw [h3]; omega) hl⟩
  by_cases h15 : (nth c i).op = 15
  · have hnd : nextIns (movedL (deadB f) c) y.pc = { nth c i with b := ((plB (deadB f) c (nth c i).b.toNat : Nat) : Int) } := by rw [hy, plB_next hlt hb, fixW_15 h15 h15]
    have hra : nth y.regs (nth c i).a.toNat = nth x.regs (nth c i).a.toNat := hrd _ (by rw [rd_4W (.inl h15)]; simp)
    have hwn : wrG (nth c i) = -1 := wr_nW (by omega)
    by_cases hz : nth x.regs (nth c i).a.toNat = 0
    · have eX : execT m t (nextIns c x.pc) { x with pc := x.pc + 1 } = { x with pc := (nth c i).b } := by rw [hn, execT_15t (x := { x with pc := x.pc + 1 }) h15 hz]
      have eY : execT m t (nextIns (movedL (deadB f) c) y.pc) { y with pc := y.pc + 1 } = { y with pc := ((plB (deadB f) c (nth c i).b.toNat : Nat) : Int) } := by
        rw [hnd]; exact execT_zt h15 (by show nth y.regs _ = 0; rw [hra]; exact hz)
      refine .both ⟨by omega, hlt2, fun o n => by rw [hnd, hn]; unfold ableL; simp [h15], by rw [eX, eY]; exact hyf.trans hxf.symm, by rw [eX, eY]; exact hw, by rw [eX, eY]; exact ho, by rw [eX, eY]; exact hp, by rw [eX, eY]; exact hwt, fun _ => ?_⟩
      rw [eX, eY]
      have hbb := hjo.2 h15
      show RelD c R f (nth c i).b x.regs _ y.regs
      have h9 := hsame (i' := (nth c i).b.toNat) (py := ((plB (deadB f) c (nth c i).b.toNat : Nat) : Int)) (by unfold nextsL; rw [if_neg (by omega), if_pos h15, show (((nth c i).b.toNat : Nat) : Int) = (nth c i).b by omega]; simp) rfl hwn
      rw [show (((nth c i).b.toNat : Nat) : Int) = (nth c i).b by omega] at h9
      exact h9
    · have eX : execT m t (nextIns c x.pc) { x with pc := x.pc + 1 } = { x with pc := x.pc + 1 } := by rw [hn, execT_15f (x := { x with pc := x.pc + 1 }) h15 hz]
      have eY : execT m t (nextIns (movedL (deadB f) c) y.pc) { y with pc := y.pc + 1 } = { y with pc := y.pc + 1 } := by
        rw [hnd]; exact execT_zf h15 (by show nth y.regs _ ≠ 0; rw [hra]; exact hz)
      refine .both ⟨by omega, hlt2, fun o n => by rw [hnd, hn]; unfold ableL; simp [h15], by rw [eX, eY]; exact hyf.trans hxf.symm, by rw [eX, eY]; exact hw, by rw [eX, eY]; exact ho, by rw [eX, eY]; exact hp, by rw [eX, eY]; exact hwt, fun _ => ?_⟩
      rw [eX, eY]
      show RelD c R f (x.pc + 1) x.regs (y.pc + 1) y.regs
      rw [show x.pc + 1 = ((i + 1 : Nat) : Int) by omega]
      exact hsame (by unfold nextsL; rw [if_neg (by omega), if_pos h15]; simp) (by rw [hy, hpl.1]; simp) hwn
  by_cases h14 : (nth c i).op = 14
  · have hnd : nextIns (movedL (deadB f) c) y.pc = { nth c i with a := ((plB (deadB f) c (nth c i).a.toNat : Nat) : Int) } := by rw [hy, plB_next hlt hb, fixW_14 h14 (.inl h14)]
    have eX : execT m t (nextIns c x.pc) { x with pc := x.pc + 1 } = { x with pc := (nth c i).a } := by rw [hn, execT_14 h14]
    have eY : execT m t (nextIns (movedL (deadB f) c) y.pc) { y with pc := y.pc + 1 } = { y with pc := ((plB (deadB f) c (nth c i).a.toNat : Nat) : Int) } := by rw [hnd]; exact execT_jump h14
    refine .both ⟨by omega, hlt2, fun o n => by rw [hnd, hn]; unfold ableL; simp [h14], by rw [eX, eY]; exact hyf.trans hxf.symm, by rw [eX, eY]; exact hw, by rw [eX, eY]; exact ho, by rw [eX, eY]; exact hp, by rw [eX, eY]; exact hwt, fun _ => ?_⟩
    rw [eX, eY]
    have hbb := hjo.1 h14
    show RelD c R f (nth c i).a x.regs _ y.regs
    have h9 := hsame (i' := (nth c i).a.toNat) (py := ((plB (deadB f) c (nth c i).a.toNat : Nat) : Int)) (by unfold nextsL; rw [if_pos h14, show (((nth c i).a.toNat : Nat) : Int) = (nth c i).a by omega]; simp) rfl (wr_nW (by omega))
    rw [show (((nth c i).a.toNat : Nat) : Int) = (nth c i).a by omega] at h9
    exact h9
  have hn1 : (((i + 1 : Nat)) : Int) ∈ nextsL c i := by unfold nextsL; rw [if_neg h14, if_neg h15]; simp
  have hnd : nextIns (movedL (deadB f) c) y.pc = nth c i := by rw [hy, plB_next hlt hb, fixW_no h14 h15]
  obtain ⟨hS, hQ⟩ := exQ (m := m) (n := t) (i := nth c i) h14 h15 hop hsb (fun v hv => hrd v hv)
  obtain ⟨_, hpx⟩ := execT_pc m t (nth c i) { x with pc := x.pc + 1 } 0 h14 h15
  obtain ⟨_, hpy⟩ := execT_pc m t (nth c i) { y with pc := y.pc + 1 } 0 h14 h15
  refine .both ⟨by omega, hlt2, fun o n => by rw [hnd, hn], by rw [hnd, hn]; exact hS.f, by rw [hnd, hn]; exact hS.w, by rw [hnd, hn]; exact hS.o, by rw [hnd, hn]; exact hS.p, by rw [hnd, hn]; exact hS.wt, fun hfl => ?_⟩
  rw [hn] at hfl
  rw [hnd, hn, hpx, hpy]
  have e9 : x.pc + 1 = ((i + 1 : Nat) : Int) := by omega
  rcases hQ with ⟨h1, h2, h3⟩ | ⟨v, h0, h1, h2⟩
  · rw [h1, h2]
    show RelD c R f (x.pc + 1) x.regs (y.pc + 1) y.regs
    rw [e9]
    exact hsame hn1 (by rw [hy, hpl.1]; simp) (h3.resolve_right (by rw [hfl]; decide))
  · rw [h1, h2]
    show RelD c R f (x.pc + 1) (x.regs.set _ v) (y.pc + 1) (y.regs.set _ v)
    rw [e9]
    have h0' : 0 ≤ wrG (nth c i) := by
      by_cases h13 : (nth c i).op = 13
      · rw [wr_bW h13]; exact ((hov i hlt).2.2.2 _ (by rw [rd_2W (.inr h13)]; simp)).1
      · rw [wr_aW (by omega)]; exact (hov i hlt).2.1 (by omega)
    refine ⟨i + 1, hlt, rfl, by rw [hy, hpl.1]; simp, by rw [List.length_set]; exact hxl, by rw [List.length_set]; exact hyl, fun r hrR hl => ?_⟩
    exact nth_setS _ _ _ _ _ (hyl.trans hxl.symm) fun hne => hps hn1 r hrR (by omega) hl
end
/-- The programs that are made. -/
noncomputable def constPg (p : Pg) : Pg := { p with code := p.code.map (constL p.regs.toNat) }
noncomputable def deadPg (p : Pg) : Pg := { p with code := p.code.map deadL }
theorem ok_jumpW {p : Pg} {size a : Int} (hs : 0 ≤ size ∧ size ≤ 100000) (ha : 0 ≤ a ∧ a ≤ size) : OkIns p size ⟨14, a, 0, 0⟩ := by
  have k : kindsB (⟨14, a, 0, 0⟩ : Ins).op = ⟨[99].toArray⟩ := by show kindsB 14 = _; unfold kindsB; simp
  exact ⟨⟨show (1 : Int) ≤ 14 by decide, show (14 : Int) ≤ 18 by decide⟩, by rw [num0_iff k]; exact fit_c_mk hs ha, by rw [num_no (by rw [k]; decide)]; rfl, by rw [num_no (by rw [k]; decide)]; rfl⟩
section
variable {p : Pg}
/-- A program whose orders are made anew, one for one or none, may be. -/
theorem singles_ok (hok : OkPg p) {B : Nat → Nat → Ins → List Ins} (h1 : ∀ t i, (B t i (nth (nth p.code t) i)).length ≤ 1)
    (hB : ∀ t i y, t < p.code.length → i < (nth p.code t).length → B t i (nth (nth p.code t) i) = [y] → y = nth (nth p.code t) i ∨ (y.op = 1 ∧ y.c = 0 ∧ 0 ≤ y.a ∧ y.a < p.regs) ∨ ((nth (nth p.code t) i).op = 15 ∧ y = ⟨14, (nth (nth p.code t) i).b, 0, 0⟩))
    {q : Pg} (hq : q = { p with code := q.code }) (hql : q.code.length = p.code.length) (hqc : ∀ t, t < p.code.length → nth q.code t = movedL (B t) (nth p.code t)) : OkPg q := by
  have hw : q.words = p.words := by rw [hq]
  have hk : q.locks = p.locks := by rw [hq]
  have hr : q.regs = p.regs := by rw [hq]
  have hsz : ∀ t, t < p.code.length → (movedL (B t) (nth p.code t)).length ≤ 400 := fun t ht => by
    rw [plB_len]
    have := plB_id (c := nth p.code t) (h1 t) (Nat.le_refl _)
    have := hok.len t ht
    omega
  refine ⟨by rw [hql]; exact hok.code, by rw [hw]; exact hok.words, by rw [hk]; exact hok.locks, by rw [hr]; exact hok.regs, fun t ht => ?_, fun t j ht hj => ?_⟩
  · rw [hql] at ht
    rw [hqc t ht]; exact hsz t ht
  · rw [hql] at ht
    rw [hqc t ht] at hj ⊢
    have hsz := hsz t ht
    obtain ⟨i, y, hi, hb, rfl⟩ := plB_from (h1 t) _ (Nat.le_refl _) j (by rw [← plB_len]; exact hj)
    have hpl := plB_kept hi hb
    rw [hpl.2.2]
    have hoi := hok.ins t i ht hi
    have hjo := jmpP hok ht i hi
    have hle : ∀ k, k ≤ (nth p.code t).length → plB (B t) (nth p.code t) k ≤ (movedL (B t) (nth p.code t)).length := fun k hk => plB_le hk
    rcases hB t i y ht hi hb with rfl | ⟨g1, g2, g3, g4⟩ | ⟨g1, rfl⟩
    · by_cases h14 : (nth (nth p.code t) i).op = 14
      · rw [fixW_14 h14 (.inl h14)]
        exact OkIns.jump h14 hoi ⟨by omega, by omega⟩ ⟨by omega, by have := hle _ (show (nth (nth p.code t) i).a.toNat ≤ (nth p.code t).length by have := hjo.1 h14; omega); omega⟩
      by_cases h15 : (nth (nth p.code t) i).op = 15
      · rw [fixW_15 h15 h15]
        exact OkIns.zero hr (by rw [hw]) hk h15 hoi ⟨by omega, by omega⟩ ⟨by omega, by have := hle _ (show (nth (nth p.code t) i).b.toNat ≤ (nth p.code t).length by have := hjo.2 h15; omega); omega⟩
      rw [fixW_no h14 h15]
      exact OkIns.move hr (by rw [hw]) hk h14 h15 hoi
    · rw [fixW_no (by omega) (by omega)]
      obtain ⟨o, a, b, c⟩ := y
      simp only at g1 g2 g3 g4
      subst g1 g2
      exact ok_const ⟨g3, by rw [hr]; exact g4⟩
    · rw [fixW_14 rfl (.inr g1)]
      exact ok_jumpW ⟨by omega, by omega⟩ ⟨by omega, by have := hle _ (show (nth (nth p.code t) i).b.toNat ≤ (nth p.code t).length by have := hjo.2 g1; omega); show ((plB (B t) (nth p.code t) (nth (nth p.code t) i).b.toNat : Nat) : Int) ≤ _; omega⟩
theorem constPg_ok (hok : OkPg p) : OkPg (constPg p) := by
  refine singles_ok hok (B := fun t => bcC (leastA (nth p.code t) p.regs.toNat)) (fun t i => bcC_len _ _ _) ?_ rfl (by simp [constPg]) (fun t ht => nth_map' _ _ _ ht)
  intro t i y ht hi hb
  have hov := okvP hok ht i hi
  have hr := hok.regs
  unfold bcC at hb
  split at hb
  · cases hb
  · split at hb
    · rename_i h9
      obtain rfl := (List.cons.inj hb).1.symm
      refine .inr (.inl ⟨rfl, rfl, hov.2.1 (by omega), ?_⟩)
      have h8 := hov.2.2.1.2
      rw [wr_aW (by omega)] at h8
      show (nth (nth p.code t) i).a < _
      omega
    · split at hb
      · split at hb
        · cases hb
        · rename_i h9 _
          exact .inr (.inr ⟨h9.1, (List.cons.inj hb).1.symm⟩)
      · exact .inl (List.cons.inj hb).1.symm
theorem deadPg_ok (hok : OkPg p) : OkPg (deadPg p) := by
  refine singles_ok hok (B := fun t => deadB (liveC (nth p.code t))) (fun t i => deadB_len _ _ _) ?_ rfl (by simp [deadPg]) (fun t ht => nth_map' _ _ _ ht)
  intro t i y ht hi hb
  unfold deadB at hb
  split at hb
  · cases hb
  · exact .inl (List.cons.inj hb).1.symm
theorem const_outs (hok : OkPg p) (m : Int) (o : Outc) : Outs p m o ↔ Outs (constPg p) m o := by
  have hc : ∀ t, t < p.code.length → nth (constPg p).code t = constL p.regs.toNat (nth p.code t) := fun t ht => nth_map' _ _ _ ht
  refine simq_outs (R := fun t => RelC (nth p.code t) p.regs.toNat (leastA (nth p.code t) p.regs.toNat)) (mu := fun t u => (((nth p.code t).length : Int) - u).toNat) ⟨hok, constPg_ok hok, by simp [constPg], rfl, rfl, fun t ht => ?_, fun t ht x y hw ho hp hwt hxf hyf h => ?_⟩ o
  · have hA := leastA_is (jmpP hok ht) p.regs.toNat
    obtain ⟨e, h1, h2⟩ := hA.clo.first
    refine ⟨0, e, Nat.zero_le _, rfl, by rw [plB_0]; rfl, rfl, h1, Fits.up ⟨List.length_replicate, List.length_replicate, fun k hk => .inr ?_⟩ h2 (hA.clo.ok 0 e h1).2.1⟩
    constructor <;> simp [nth, firstE, hk]
  · rw [hc t ht]
    exact const_next (leastA_is (jmpP hok ht) _) (okvP hok ht) (jmpP hok ht) hw ho hp hwt hxf hyf h
theorem dead_outs (hok : OkPg p) (m : Int) (o : Outc) : Outs p m o ↔ Outs (deadPg p) m o := by
  have hc : ∀ t, t < p.code.length → nth (deadPg p).code t = deadL (nth p.code t) := fun t ht => nth_map' _ _ _ ht
  refine simq_outs (R := fun t => RelD (nth p.code t) p.regs.toNat (liveC (nth p.code t))) (mu := fun t u => (((nth p.code t).length : Int) - u).toNat) ⟨hok, deadPg_ok hok, by simp [deadPg], rfl, rfl, fun t ht => ?_, fun t ht x y hw ho hp hwt hxf hyf h => ?_⟩ o
  · exact ⟨0, Nat.zero_le _, rfl, by rw [plB_0]; rfl, List.length_replicate, List.length_replicate, fun _ _ _ => rfl⟩
  · rw [hc t ht]
    exact dead_next (fun r j => liveC_iff _ r j) (okvP hok ht) (jmpP hok ht) hw ho hp hwt hxf hyf h
end
end Go.Proofs.Ytmgikmjmdppfmaa
