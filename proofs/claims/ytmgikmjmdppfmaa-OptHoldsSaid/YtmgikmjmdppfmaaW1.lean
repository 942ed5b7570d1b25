/-
  Two programs whose threads do the same, but that one does some orders alone: the same outcomes. Plain Lean.
-/
import Derived.Test.YtmgikmjmdppfmaaL3
namespace Go.Proofs.Ytmgikmjmdppfmaa
open Go.RowKit
set_option linter.unusedSimpArgs false
set_option linter.unusedVariables false

/-- Two states that are the same but for where threads stand, and for their registers. -/
structure RelQ (n : Nat) (R : Nat → Int → List Int → Int → List Int → Prop) (s s' : MSt) : Prop where
  words : s'.words = s.words
  owner : s'.owner = s.owner
  prints : s'.prints = s.prints
  wait : ∀ t, t < n → (nth s'.ths t).wait = (nth s.ths t).wait
  reg : ∀ t, t < n → R t (nth s.ths t).pc (nth s.ths t).regs (nth s'.ths t).pc (nth s'.ths t).regs
/-- A thread of both does the same. -/
structure BothQ (m : Int) (t : Nat) (c d : List Ins) (R : Int → List Int → Int → List Int → Prop) (x y : TS) : Prop where
  h : x.pc < c.length
  h' : y.pc < d.length
  hab : ∀ o n, ableL o n (nextIns d y.pc) = ableL o n (nextIns c x.pc)
  hf : (execT m t (nextIns d y.pc) { y with pc := y.pc + 1 }).fell = (execT m t (nextIns c x.pc) { x with pc := x.pc + 1 }).fell
  hw : (execT m t (nextIns d y.pc) { y with pc := y.pc + 1 }).words = (execT m t (nextIns c x.pc) { x with pc := x.pc + 1 }).words
  ho : (execT m t (nextIns d y.pc) { y with pc := y.pc + 1 }).owner = (execT m t (nextIns c x.pc) { x with pc := x.pc + 1 }).owner
  hp : (execT m t (nextIns d y.pc) { y with pc := y.pc + 1 }).prints = (execT m t (nextIns c x.pc) { x with pc := x.pc + 1 }).prints
  hwt : (execT m t (nextIns d y.pc) { y with pc := y.pc + 1 }).wait = (execT m t (nextIns c x.pc) { x with pc := x.pc + 1 }).wait
  hR : (execT m t (nextIns c x.pc) { x with pc := x.pc + 1 }).fell = false → R (execT m t (nextIns c x.pc) { x with pc := x.pc + 1 }).pc (execT m t (nextIns c x.pc) { x with pc := x.pc + 1 }).regs (execT m t (nextIns d y.pc) { y with pc := y.pc + 1 }).pc (execT m t (nextIns d y.pc) { y with pc := y.pc + 1 }).regs
/-- What a thread of both can do next. -/
inductive NextQ (m : Int) (t : Nat) (c d : List Ins) (R : Int → List Int → Int → List Int → Prop) (mu : Int → Nat) (x y : TS) : Prop
  | over (h : (c.length : Int) ≤ x.pc) (h' : (d.length : Int) ≤ y.pc)
  | alone (h : x.pc < c.length) (hab : ∀ o n, ableL o n (nextIns c x.pc) = true) (u : Int) (r : List Int) (he : execT m t (nextIns c x.pc) { x with pc := x.pc + 1 } = { x with pc := u, regs := r }) (hR : R u r y.pc y.regs) (hmu : mu u < mu x.pc)
  | both (h : BothQ m t c d R x y)
structure SimQ (p q : Pg) (m : Int) (R : Nat → Int → List Int → Int → List Int → Prop) (mu : Nat → Int → Nat) : Prop where
  okp : OkPg p
  okq : OkPg q
  len : q.code.length = p.code.length
  words : q.words = p.words
  locks : q.locks = p.locks
  first : ∀ t, t < p.code.length → R t 0 (List.replicate p.regs.toNat 0) 0 (List.replicate q.regs.toNat 0)
  next : ∀ t, t < p.code.length → ∀ x y : TS, y.words = x.words → y.owner = x.owner → y.prints = x.prints → y.wait = x.wait → x.fell = false → y.fell = false → R t x.pc x.regs y.pc y.regs → NextQ m t (nth p.code t) (nth q.code t) (R t) (mu t) x y
section
variable {p q : Pg} {m : Int} {R : Nat → Int → List Int → Int → List Int → Prop} {mu : Nat → Int → Nat} {s s' : MSt} {t : Nat}
theorem RelQ.begin (H : SimQ p q m R mu) : RelQ p.code.length R (begin_ p) (begin_ q) := by
  have e : ∀ (p : Pg) t, t < p.code.length → nth (begin_ p).ths t = ⟨0, List.replicate p.regs.toNat 0, []⟩ := fun p t ht => nth_map' _ _ _ ht
  have hl := H.len
  refine ⟨H.words, by unfold begin_; rw [H.locks], rfl, fun t ht => ?_, fun t ht => ?_⟩
  · rw [e p t ht, e q t (by omega)]
  · rw [e p t ht, e q t (by omega)]; exact H.first t ht
theorem RelQ.put (h : RelQ p.code.length R s s') (hl : t < s.ths.length) (hl' : t < s'.ths.length) {x y : TS} (hw : y.words = x.words) (ho : y.owner = x.owner) (hp : y.prints = x.prints) (hwt : y.wait = x.wait) (hR : R t x.pc x.regs y.pc y.regs) : RelQ p.code.length R (s.putT t x) (s'.putT t y) := by
  refine ⟨hw, ho, hp, fun v hv => ?_, fun v hv => ?_⟩
  · rw [putT_th hl, putT_th hl']; split
    · exact hwt
    · exact h.wait v hv
  · rw [putT_th hl, putT_th hl']; split
    · rename_i e; subst e; exact hR
    · exact h.reg v hv
theorem RelQ.left (h : RelQ p.code.length R s s') (hl : t < s.ths.length) {u : Int} {r : List Int} (hR : R t u r (nth s'.ths t).pc (nth s'.ths t).regs) : RelQ p.code.length R (s.putT t { s.view t with pc := u, regs := r }) s' := by
  refine ⟨h.words, h.owner, h.prints, fun v hv => ?_, fun v hv => ?_⟩
  · rw [putT_th hl]; split
    · rename_i e; subst e; exact h.wait t hv
    · exact h.wait v hv
  · rw [putT_th hl]; split
    · rename_i e; subst e; exact hR
    · exact h.reg v hv
theorem RelQ.nx (H : SimQ p q m R mu) (h : RelQ p.code.length R s s') (ht : t < p.code.length) : NextQ m t (nth p.code t) (nth q.code t) (R t) (mu t) (s.view t) (s'.view t) :=
  H.next t ht _ _ h.words h.owner h.prints (h.wait t ht) rfl rfl (h.reg t ht)
/-- What waits is done alike. -/
theorem RelQ.waits (H : SimQ p q m R mu) (hr : Reach p m s) (hr' : Reach q m s') (h : RelQ p.code.length R s s') (ht : t < p.code.length) {k : Nat} (hk : 0 < k) :
    mvOK m (nth q.code t) (s'.view t) k = mvOK m (nth p.code t) (s.view t) k ∧ (stepT p m s t k).fell = false ∧ (stepT q m s' t k).fell = false ∧ RelQ p.code.length R (s.putT t (stepT p m s t k)) (s'.putT t (stepT q m s' t k)) := by
  have hl := hr.len H.okp ht
  have hl' := hr'.len H.okq (t := t) (by rw [H.len]; exact ht)
  have hwt : (s'.view t).wait = (s.view t).wait := h.wait t ht
  have hw : (s'.view t).words = (s.view t).words := h.words
  have ho : (s'.view t).owner = (s.view t).owner := h.owner
  have e : ∀ (p : Pg) (s : MSt), stepT p m s t k = { (s.view t).done (nth (s.view t).wait (k - 1)) with wait := (s.view t).wait.eraseIdx (k - 1) } := fun p s => by
    unfold stepT doT; rw [if_pos hk]
  refine ⟨?_, by rw [e]; rfl, by rw [e]; rfl, ?_⟩
  · unfold mvOK
    rw [if_neg (by omega), if_neg (by omega), hwt]
  · rw [e p s, e q s']
    refine h.put hl hl' ?_ ?_ h.prints ?_ (h.reg t ht)
    · show (TS.done _ _).words = (TS.done _ _).words
      unfold TS.done
      rw [hwt]; simp only [hw]
    · show (TS.done _ _).owner = (TS.done _ _).owner
      unfold TS.done
      rw [hwt]; simp only [ho]
    · show List.eraseIdx _ _ = List.eraseIdx _ _
      rw [hwt]
theorem sq_able {m : Int} {c : List Ins} {x : TS} (h : x.pc < c.length) : mvOK m c x 0 = ableL x.owner x.wait.length (nextIns c x.pc) := by
  unfold mvOK ableV
  rw [if_pos rfl, decide_eq_true h]; rfl
theorem sq_over {m : Int} {c : List Ins} {x : TS} (h : (c.length : Int) ≤ x.pc) : mvOK m c x 0 = false := by
  unfold mvOK ableV
  rw [if_pos rfl, decide_eq_false (by omega)]; rfl
/-- One order of the first program. -/
theorem simq_fwd (H : SimQ p q m R mu) : ∀ o, Outs p m o → Outs q m o := by
  refine sim_outs (RelQ p.code.length R) ⟨_, .start, RelQ.begin H⟩ ?_ ?_ ?_
  · intro s s' t k hr hr' h ht hk
    have ht' : t < q.code.length := by rw [H.len]; exact ht
    have hl := hr.len H.okp ht
    have hl' := hr'.len H.okq ht'
    by_cases hk0 : 0 < k
    · obtain ⟨h1, h2, h3, h4⟩ := h.waits H hr hr' ht hk0
      rw [if_neg (by rw [h2]; decide)]
      exact ⟨_, .step hr' ht' (by rw [h1]; exact hk) h3, h4⟩
    obtain rfl : k = 0 := by omega
    rcases h.nx H ht with ⟨h1, h2⟩ | ⟨h1, hab, u, r, he, hR, hmu⟩ | ⟨⟨h1, h2, hab, hf, hw, ho, hp, hwt, hR⟩⟩
    · rw [sq_over h1] at hk; cases hk
    · have e : stepT p m s t 0 = { s.view t with pc := u, regs := r } := by rw [stepT_e]; exact he
      rw [if_neg (by rw [e]; exact Bool.false_ne_true)]
      exact ⟨s', hr', by rw [e]; exact h.left hl hR⟩
    · have hk' : mvOK m (nth q.code t) (s'.view t) 0 = true := by
        rw [sq_able h2, hab]
        rw [sq_able h1] at hk
        have e1 : (s'.view t).owner = (s.view t).owner := h.owner
        have e2 : (s'.view t).wait = (s.view t).wait := h.wait t ht
        rw [e1, e2]; exact hk
      rw [← stepT_e, ← stepT_e] at hf hw ho hp hwt hR
      split
      · rename_i hfl
        have := Outs.fell hr' ht' hk' (by rw [hf]; exact hfl)
        rw [hp] at this; exact this
      · rename_i hfl
        have hfl : (stepT p m s t 0).fell = false := by simpa using hfl
        exact ⟨_, .step hr' ht' hk' (by rw [hf]; exact hfl), h.put hl hl' hw ho hp hwt (hR hfl)⟩
  · intro s s' hr hr' h he
    have := Outs.done hr' (ended_iff.2 fun t ht' => by
      have ht : t < p.code.length := by rw [H.len] at ht'; exact ht'
      obtain ⟨h1, h2⟩ := ended_iff.1 he t ht
      rcases h.nx H ht with ⟨_, h3⟩ | ⟨h3, _⟩ | ⟨⟨h3, _⟩⟩
      · exact ⟨by have h4 : (s'.view t).pc = (nth s'.ths t).pc := rfl; omega, by rw [h.wait t ht]; exact h2⟩
      · exact absurd h3 h1
      · exact absurd h3 h1)
    rw [h.words, h.prints] at this; exact this
  · intro s s' hr hr' h he hst
    obtain ⟨t, ht, h1⟩ := ended_false he
    have hn : ∀ t, t < p.code.length → ((s.view t).pc < ((nth p.code t).length : Int) ↔ (s'.view t).pc < ((nth q.code t).length : Int)) ∧ mvOK m (nth q.code t) (s'.view t) 0 = false := fun t ht => by
      have h9 := hst t 0 ht
      rcases h.nx H ht with ⟨h2, h3⟩ | ⟨h2, hab, _⟩ | ⟨⟨h2, h3, hab, _⟩⟩
      · exact ⟨by omega, sq_over h3⟩
      · rw [sq_able h2, hab] at h9; cases h9
      · refine ⟨⟨fun _ => h3, fun _ => h2⟩, ?_⟩
        rw [sq_able h3, hab]
        rw [sq_able h2] at h9
        have e1 : (s'.view t).owner = (s.view t).owner := h.owner
        have e2 : (s'.view t).wait = (s.view t).wait := h.wait t ht
        rw [e1, e2]; exact h9
    have he' : ended q s' = false := by
      refine Bool.eq_false_iff.2 fun he' => ?_
      obtain ⟨g1, g2⟩ := ended_iff.1 he' t (by rw [H.len]; exact ht)
      rcases h1 with h1 | h1
      · exact g1 ((hn t ht).1.1 h1)
      · rw [h.wait t ht] at g2; exact h1 g2
    have := Outs.stuck hr' he' (fun t k ht' => by
      have ht : t < p.code.length := by rw [H.len] at ht'; exact ht'
      by_cases hk0 : 0 < k
      · rw [(h.waits H hr hr' ht hk0).1]; exact hst t k ht
      · obtain rfl : k = 0 := by omega
        exact (hn t ht).2)
    rw [h.words, h.prints] at this; exact this
/-- Nothing is left that the first does alone. -/
def Synced (p q : Pg) (m : Int) (R : Nat → Int → List Int → Int → List Int → Prop) (s s' : MSt) (t : Nat) : Prop := (((nth p.code t).length : Int) ≤ (s.view t).pc ∧ ((nth q.code t).length : Int) ≤ (s'.view t).pc) ∨ BothQ m t (nth p.code t) (nth q.code t) (R t) (s.view t) (s'.view t)
/-- The first program does in a thread what it does alone. -/
theorem simq_flush1 (H : SimQ p q m R mu) (ht : t < p.code.length) : ∀ (n : Nat) (s : MSt), Reach p m s → RelQ p.code.length R s s' → mu t (s.view t).pc < n →
    ∃ s2, Reach p m s2 ∧ RelQ p.code.length R s2 s' ∧ (∀ u, u ≠ t → nth s2.ths u = nth s.ths u) ∧ Synced p q m R s2 s' t
  | 0, s, _, _, hn => absurd hn (Nat.not_lt_zero _)
  | n + 1, s, hr, h, hn => by
    have hl := hr.len H.okp ht
    rcases h.nx H ht with ⟨h1, h2⟩ | ⟨h1, hab, u, r, he, hR, hmu⟩ | h1
    · exact ⟨s, hr, h, fun _ _ => rfl, .inl ⟨h1, h2⟩⟩
    · have e : stepT p m s t 0 = { s.view t with pc := u, regs := r } := by rw [stepT_e]; exact he
      have h2 := h.left hl hR
      rw [← e] at h2
      have hpc : ((s.putT t (stepT p m s t 0)).view t).pc = u := by rw [putT_view hl, e]
      obtain ⟨s2, k1, k2, k3, k4⟩ := simq_flush1 H ht n _ (.step hr ht (by rw [sq_able h1]; exact hab _ _) (by rw [e]; rfl)) h2 (by rw [hpc]; omega)
      exact ⟨s2, k1, k2, fun v hv => (k3 v hv).trans (by rw [putT_th hl, if_neg (fun e => hv e.symm)]), k4⟩
    · exact ⟨s, hr, h, fun _ _ => rfl, .inr h1⟩
theorem simq_flush (H : SimQ p q m R mu) (hr : Reach p m s) (h : RelQ p.code.length R s s') : ∀ n, n ≤ p.code.length → ∃ s2, Reach p m s2 ∧ RelQ p.code.length R s2 s' ∧ ∀ t, t < n → Synced p q m R s2 s' t
  | 0, _ => ⟨s, hr, h, fun t ht => absurd ht (Nat.not_lt_zero _)⟩
  | n + 1, hn => by
    obtain ⟨s2, h1, h2, h3⟩ := simq_flush H hr h n (by omega)
    obtain ⟨s3, k1, k2, k3, k4⟩ := simq_flush1 H (t := n) (by omega) (mu n (s2.view n).pc + 1) s2 h1 h2 (by omega)
    refine ⟨s3, k1, k2, fun t ht => ?_⟩
    rcases Nat.lt_or_ge t n with h9 | h9
    · have e : s3.view t = s2.view t := by
        unfold MSt.view
        rw [k3 t (by omega), ← k2.words, ← k2.owner, ← k2.prints, h2.words, h2.owner, h2.prints]
      have := h3 t h9
      unfold Synced at this ⊢
      rw [e]; exact this
    · obtain rfl : t = n := by omega
      exact k4
theorem Synced.pc (h : Synced p q m R s s' t) : (s.view t).pc < ((nth p.code t).length : Int) ↔ (s'.view t).pc < ((nth q.code t).length : Int) := by
  rcases h with ⟨h1, h2⟩ | h
  · omega
  · exact ⟨fun _ => h.h', fun _ => h.h⟩
theorem Synced.able (hs : Synced p q m R s s' t) (h : RelQ p.code.length R s s') (ht : t < p.code.length) : mvOK m (nth q.code t) (s'.view t) 0 = mvOK m (nth p.code t) (s.view t) 0 := by
  rcases hs with ⟨h1, h2⟩ | hb
  · rw [sq_over h1, sq_over h2]
  · have e1 : (s'.view t).owner = (s.view t).owner := h.owner
    have e2 : (s'.view t).wait = (s.view t).wait := h.wait t ht
    rw [sq_able hb.h, sq_able hb.h', hb.hab, e1, e2]
theorem simq_bwd (H : SimQ p q m R mu) : ∀ o, Outs q m o → Outs p m o := by
  refine sim_outs (fun s' s => RelQ p.code.length R s s') ⟨_, .start, RelQ.begin H⟩ ?_ ?_ ?_
  · intro s' s t k hr' hr h ht' hk
    have ht : t < p.code.length := by rw [H.len] at ht'; exact ht'
    by_cases hk0 : 0 < k
    · obtain ⟨h1, h2, h3, h4⟩ := h.waits H hr hr' ht hk0
      rw [if_neg (by rw [h3]; decide)]
      exact ⟨_, .step hr ht (by rw [← h1]; exact hk) h2, h4⟩
    obtain rfl : k = 0 := by omega
    obtain ⟨s2, k1, k2, _, k4⟩ := simq_flush1 H ht (mu t (s.view t).pc + 1) s hr h (by omega)
    have hl := k1.len H.okp ht
    have hl' := hr'.len H.okq ht'
    have hk2 := k4.able k2 ht
    rw [hk] at hk2
    rcases k4 with ⟨h1, h2⟩ | ⟨h1, h2, hab, hf, hw, ho, hp, hwt, hR⟩
    · rw [sq_over h2] at hk; cases hk
    · rw [← stepT_e, ← stepT_e] at hf hw ho hp hwt hR
      split
      · rename_i hfl
        have := Outs.fell k1 ht hk2.symm (by rw [← hf]; exact hfl)
        rw [← hp] at this; exact this
      · rename_i hfl
        have hfl2 : (stepT p m s2 t 0).fell = false := by rw [← hf]; simpa using hfl
        exact ⟨_, .step k1 ht hk2.symm hfl2, k2.put hl hl' hw ho hp hwt (hR hfl2)⟩
  · intro s' s hr' hr h he
    obtain ⟨s2, k1, k2, k3⟩ := simq_flush H hr h _ (Nat.le_refl _)
    have := Outs.done k1 (ended_iff.2 fun t ht => by
      obtain ⟨h1, h2⟩ := ended_iff.1 he t (by rw [H.len]; exact ht)
      exact ⟨fun h9 => h1 ((k3 t ht).pc.1 h9), by rw [← k2.wait t ht]; exact h2⟩)
    rw [← k2.words, ← k2.prints] at this; exact this
  · intro s' s hr' hr h he hst
    obtain ⟨s2, k1, k2, k3⟩ := simq_flush H hr h _ (Nat.le_refl _)
    obtain ⟨t, ht', h1⟩ := ended_false he
    have ht : t < p.code.length := by rw [H.len] at ht'; exact ht'
    have he' : ended p s2 = false := by
      refine Bool.eq_false_iff.2 fun he' => ?_
      obtain ⟨g1, g2⟩ := ended_iff.1 he' t ht
      rcases h1 with h1 | h1
      · exact g1 ((k3 t ht).pc.2 h1)
      · rw [k2.wait t ht] at h1; exact h1 g2
    have := Outs.stuck k1 he' (fun t k ht => by
      have ht' : t < q.code.length := by rw [H.len]; exact ht
      by_cases hk0 : 0 < k
      · rw [← (k2.waits H k1 hr' ht hk0).1]; exact hst t k ht'
      · obtain rfl : k = 0 := by omega
        rw [← (k3 t ht).able k2 ht]; exact hst t 0 ht')
    rw [← k2.words, ← k2.prints] at this; exact this
theorem simq_outs (H : SimQ p q m R mu) (o : Outc) : Outs p m o ↔ Outs q m o := ⟨simq_fwd H o, simq_bwd H o⟩
end
end Go.Proofs.Ytmgikmjmdppfmaa
