/-
  What always is one number, in plain Lean: the program's list of work and the document's rounds come to the least.
-/
import Derived.Test.YtmgikmjmdppfmaaE1
namespace Go.Proofs.Ytmgikmjmdppfmaa
open Go.RowKit
set_option linter.unusedSimpArgs false
set_option linter.unusedVariables false

def endV (code : List Ins) (t : Nat) (e : List VV) : List VV := outE (nth code t) e
/-- One comes to an order: what is ahead, the work. -/
def leadF (A : AF) (wk : List Nat) (d : Nat) (env : List VV) : AF × List Nat := if A d = some (mtA A d env) then (A, wk) else (updA A d (mtA A d env), wk ++ [d])
section
variable {code : List Ins} {R : Nat} {A B : AF} {wk : List Nat} {t d : Nat} {e env : List VV} {ds : List Nat}
/-- All that is ahead is so by the least. -/
structure LowA (code : List Ins) (R : Nat) (A : AF) : Prop where
  ok : OkA R code.length A
  bel : ∀ Q, Clo code R Q → Bel A Q
theorem low_upd (h : LowA code R A) (he : OkEn R env) (hd : d ≤ code.length) (hq : ∀ Q, Clo code R Q → ∃ e', Q d = some e' ∧ leL env e') : LowA code R (updA A d (mtA A d env)) :=
  ⟨updA_ok h.ok he hd, fun Q hQ t e ht => by
    by_cases h2 : t = d
    · subst h2
      rw [updA_self] at ht
      obtain rfl := Option.some.inj ht
      obtain ⟨q, h3, h4⟩ := hq Q hQ
      refine ⟨q, h3, mtA_le h.ok he h4 fun was hw => ?_⟩
      obtain ⟨q2, h5, h6⟩ := h.bel Q hQ t was hw
      rw [h3] at h5
      rw [Option.some.inj h5]; exact h6
    · rw [updA_ne h2] at ht; exact h.bel Q hQ t e ht⟩
/-- Where an order leads is led to by what is closed, too. -/
theorem low_to (h : LowA code R A) (ht : t < code.length) (ha : A t = some e) (hd : d ∈ nxtE code t (endV code t e)) : ∀ Q, Clo code R Q → ∃ e', Q d = some e' ∧ leL (endV code t e) e' := by
  intro Q hQ
  obtain ⟨q, h1, h2⟩ := h.bel Q hQ t e ha
  have hl : e.length = q.length := (h.ok t e ha).2.1.trans (hQ.ok t q h1).2.1.symm
  have h3 := outE_mono (i := nth code t) h2 hl
  obtain ⟨e', h4, h5⟩ := hQ.all t ht q h1 d (nxtE_mono h3 d hd)
  exact ⟨e', h4, h3.trans h5⟩
-- ---------------------------------------------------------------- the list of work
structure WkI (code : List Ins) (R : Nat) (A : AF) (wk : List Nat) : Prop where
  low : LowA code R A
  first : ∃ e, A 0 = some e ∧ leL (firstE R) e
  clo : ∀ t, t < code.length → t ∈ wk ∨ CloAt code A t
  wk : ∀ t ∈ wk, A t ≠ none
/-- While an order is gone on from: those that it leads to so far. -/
structure MidI (code : List Ins) (R : Nat) (A : AF) (wk : List Nat) (t : Nat) (e : List VV) (dn : List Nat) : Prop where
  low : LowA code R A
  first : ∃ e, A 0 = some e ∧ leL (firstE R) e
  clo : ∀ u, u < code.length → u ≠ t → u ∈ wk ∨ CloAt code A u
  at_ : t ∈ wk ∨ A t = some e
  dn : ∀ d ∈ dn, CloT code A t e d
  wk : ∀ t ∈ wk, A t ≠ none
  tl : ∀ d ∈ nxtE code t (endV code t e), ∀ Q, Clo code R Q → ∃ e', Q d = some e' ∧ leL (endV code t e) e'
  oe : OkEn R e
theorem WkI.pop (h : WkI code R A (wk ++ [t])) (ht : t < code.length) (ha : A t = some e) : MidI code R A wk t e [] :=
  ⟨h.low, h.first, fun u hu hne => (h.clo u hu).imp (fun h9 => (List.mem_append.1 h9).elim id fun h8 => absurd (List.mem_singleton.1 h8) hne) id, .inr ha, fun _ hd => (by cases hd), fun u hu => h.wk u (List.mem_append.2 (.inl hu)), fun d hd => low_to h.low ht ha hd, (h.low.ok t e ha).2⟩
theorem WkI.popEnd (h : WkI code R A (wk ++ [t])) (ht : code.length ≤ t) : WkI code R A wk :=
  ⟨h.low, h.first, fun u hu => (h.clo u hu).imp (fun h9 => (List.mem_append.1 h9).elim id fun h8 => absurd (List.mem_singleton.1 h8) (by omega)) id, fun u hu => h.wk u (List.mem_append.2 (.inl hu))⟩
theorem MidI.lead (h : MidI code R A wk t e ds) (hd : d ∈ nxtE code t (endV code t e)) (hdl : d ≤ code.length) : MidI code R (leadF A wk d (endV code t e)).1 (leadF A wk d (endV code t e)).2 t e (ds ++ [d]) := by
  have he : OkEn R (endV code t e) := outE_ok h.oe
  have hb : Bel A (updA A d (mtA A d (endV code t e))) := bel_upd h.low.ok he
  unfold leadF
  split
  · rename_i hs
    refine ⟨h.low, h.first, h.clo, h.at_, fun x hx => ?_, h.wk, h.tl, h.oe⟩
    rcases List.mem_append.1 hx with hx | hx
    · exact h.dn x hx
    · obtain rfl := List.mem_singleton.1 hx
      exact ⟨_, hs, mtA_env h.low.ok he⟩
  · show MidI code R (updA A d (mtA A d (endV code t e))) (wk ++ [d]) t e (ds ++ [d])
    refine ⟨low_upd h.low he hdl (h.tl d hd), ?_, fun u hu hne => ?_, ?_, fun x hx => ?_, fun u hu => ?_, h.tl, h.oe⟩
    · obtain ⟨e0, h1, h2⟩ := h.first
      obtain ⟨e1, h3, h4⟩ := hb _ _ h1
      exact ⟨e1, h3, h2.trans h4⟩
    · by_cases h9 : u = d
      · exact .inl (List.mem_append.2 (.inr (by rw [h9]; exact List.mem_singleton.2 rfl)))
      · rcases h.clo u hu hne with h8 | h8
        · exact .inl (List.mem_append.2 (.inl h8))
        · exact .inr fun e2 h7 x hx => by
            rw [show updA A d _ u = A u from updA_ne h9] at h7
            exact (h8 e2 h7 x hx).up hb
    · by_cases h9 : t = d
      · exact .inl (List.mem_append.2 (.inr (by rw [h9]; exact List.mem_singleton.2 rfl)))
      · exact h.at_.imp (fun h8 => List.mem_append.2 (.inl h8)) fun h8 => by rw [show updA A d _ t = A t from updA_ne h9]; exact h8
    · rcases List.mem_append.1 hx with hx | hx
      · exact (h.dn x hx).up hb
      · obtain rfl := List.mem_singleton.1 hx
        exact ⟨_, updA_self, mtA_env h.low.ok he⟩
    · by_cases h9 : u = d
      · rw [h9, show updA A d _ d = some _ from updA_self]; exact fun h8 => (by cases h8)
      · rw [show updA A d _ u = A u from updA_ne h9]
        rcases List.mem_append.1 hu with hu | hu
        · exact h.wk u hu
        · exact absurd (List.mem_singleton.1 hu) h9
theorem MidI.fin (h : MidI code R A wk t e ds) (hd : ∀ d ∈ nxtE code t (endV code t e), d ∈ ds) : WkI code R A wk :=
  ⟨h.low, h.first, fun u hu => by
    by_cases hne : u = t
    · subst hne
      rcases h.at_ with h9 | h9
      · exact .inl h9
      · refine .inr fun e2 h8 x hx => ?_
        rw [h9] at h8
        obtain rfl := Option.some.inj h8
        exact h.dn x (hd x hx)
    · exact h.clo u hu hne, h.wk⟩
theorem WkI.least (h : WkI code R A []) : Least code R A := ⟨⟨h.low.ok, h.first, fun t ht => (h.clo t ht).resolve_left (by simp)⟩, h.low.bel⟩
theorem first_ok : OkEn R (firstE R) := ⟨List.length_replicate, fun r => by
  rcases Nat.lt_or_ge r R with h | h
  · rw [show nth (firstE R) r = ⟨1, 0⟩ by simp [nth, firstE, h]]; exact .inr (.inl rfl)
  · rw [nth_outE _ _ (by rw [firstE, List.length_replicate]; exact h)]; exact .inl rfl⟩
def noneA : AF := fun _ => none
theorem low_first : LowA code R (updA noneA 0 (firstE R)) := ⟨fun t e h => by
    unfold updA noneA at h
    split at h
    · obtain rfl := Option.some.inj h; exact ⟨by omega, first_ok⟩
    · exact absurd h (by simp), fun Q hQ t e h => by
    unfold updA noneA at h
    split at h
    · rename_i h0
      obtain rfl := Option.some.inj h
      rw [h0]; exact hQ.first
    · cases h⟩
theorem WkI.start : WkI code R (updA noneA 0 (firstE R)) [0] := ⟨low_first, ⟨_, updA_self, .refl _⟩, fun t ht => by
    by_cases h : t = 0
    · exact .inl (by rw [h]; exact List.mem_singleton.2 rfl)
    · exact .inr fun e he => by rw [show updA noneA 0 _ t = noneA t from updA_ne h] at he; exact absurd he (by simp [noneA]), fun t ht => by
    rw [List.mem_singleton.1 ht, show updA noneA 0 _ 0 = some _ from updA_self]; exact fun h => (by cases h)⟩
theorem lead_start : leadF noneA [] 0 (firstE R) = (updA noneA 0 (firstE R), [0]) := by
  unfold leadF
  rw [if_neg (by unfold noneA; simp)]
  rfl
/-- What is left to do. -/
theorem lead_mu (hA : OkA R code.length A) (he : OkEn R env) (hd : d ≤ code.length) : (leadF A wk d env).2.length + muA R (leadF A wk d env).1 (code.length + 1) ≤ wk.length + muA R A (code.length + 1) := by
  unfold leadF
  split
  · exact Nat.le_refl _
  · rename_i h
    have := mu_upd hA he hd h
    show (wk ++ [d]).length + _ ≤ _
    rw [List.length_append]
    simp only [List.length_cons, List.length_nil]
    omega
-- ---------------------------------------------------------------- rounds
/-- While a round goes on: unless something rose, those up to here are closed. -/
structure RdI (code : List Ins) (R : Nat) (A0 A : AF) (more : Bool) (k : Nat) : Prop where
  low : LowA code R A
  first : ∃ e, A 0 = some e ∧ leL (firstE R) e
  clo : more = false → ∀ t, t < k → CloAt code A t
  mu : more = true → muA R A (code.length + 1) < muA R A0 (code.length + 1)
/-- While an order is gone on from, in a round. -/
structure RdM (code : List Ins) (R : Nat) (A0 A : AF) (more : Bool) (k : Nat) (e : List VV) (dn : List Nat) : Prop where
  rd : RdI code R A0 A more k
  at_ : more = false → A k = some e
  dn : more = false → ∀ d ∈ dn, CloT code A k e d
  tl : ∀ d ∈ nxtE code k (endV code k e), ∀ Q, Clo code R Q → ∃ e', Q d = some e' ∧ leL (endV code k e) e'
  oe : OkEn R e
  le : more = false → A = A0
def leadR (A : AF) (more : Bool) (d : Nat) (env : List VV) : AF × Bool := if A d = some (mtA A d env) then (A, more) else (updA A d (mtA A d env), true)
theorem RdI.go {A0 : AF} {more : Bool} {k : Nat} (h : RdI code R A0 A more k) (h0 : more = false → A = A0) (hk : k < code.length) (ha : A k = some e) : RdM code R A0 A more k e [] :=
  ⟨h, fun _ => ha, fun _ _ hd => (by cases hd), fun d hd => low_to h.low hk ha hd, (h.low.ok k e ha).2, h0⟩
theorem RdM.lead {A0 : AF} {more : Bool} {k : Nat} (h : RdM code R A0 A more k e ds) (hA0 : more = true → muA R A (code.length + 1) < muA R A0 (code.length + 1)) (hd : d ∈ nxtE code k (endV code k e)) (hdl : d ≤ code.length) :
    RdM code R A0 (leadR A more d (endV code k e)).1 (leadR A more d (endV code k e)).2 k e (ds ++ [d]) := by
  have he : OkEn R (endV code k e) := outE_ok h.oe
  have hb : Bel A (updA A d (mtA A d (endV code k e))) := bel_upd h.rd.low.ok he
  unfold leadR
  split
  · rename_i hs
    refine ⟨h.rd, h.at_, fun hm x hx => ?_, h.tl, h.oe, h.le⟩
    rcases List.mem_append.1 hx with hx | hx
    · exact h.dn hm x hx
    · obtain rfl := List.mem_singleton.1 hx
      exact ⟨_, hs, mtA_env h.rd.low.ok he⟩
  · rename_i hs
    refine ⟨⟨low_upd h.rd.low he hdl (h.tl d hd), ?_, fun h9 => (by cases h9), fun _ => ?_⟩, fun h9 => (by cases h9), fun h9 => (by cases h9), h.tl, h.oe, fun h9 => (by cases h9)⟩
    · obtain ⟨e0, h1, h2⟩ := h.rd.first
      obtain ⟨e1, h3, h4⟩ := hb _ _ h1
      exact ⟨e1, h3, h2.trans h4⟩
    · have h1 := mu_upd h.rd.low.ok he hdl hs
      cases hm : more with
      | false => rw [← h.le hm]; exact h1
      | true => exact Nat.lt_trans h1 (h.rd.mu hm)
theorem RdM.fin {A0 : AF} {more : Bool} {k : Nat} (h : RdM code R A0 A more k e ds) (hd : ∀ d ∈ nxtE code k (endV code k e), d ∈ ds) : RdI code R A0 A more (k + 1) :=
  ⟨h.rd.low, h.rd.first, fun hm t ht => by
    by_cases h2 : t = k
    · subst h2
      intro e2 h8 x hx
      rw [h.at_ hm] at h8
      obtain rfl := Option.some.inj h8
      exact h.dn hm x (hd x hx)
    · exact h.rd.clo hm t (by omega), h.rd.mu⟩
theorem RdI.skip {A0 : AF} {more : Bool} {k : Nat} (h : RdI code R A0 A more k) (ha : A k = none) : RdI code R A0 A more (k + 1) :=
  ⟨h.low, h.first, fun hm t ht => by
    by_cases h2 : t = k
    · subst h2
      intro e2 h8
      rw [ha] at h8; cases h8
    · exact h.clo hm t (by omega), h.mu⟩
theorem RdI.least {A0 : AF} {k : Nat} (h : RdI code R A0 A false k) (hk : code.length ≤ k) : Least code R A := ⟨⟨h.low.ok, h.first, fun t ht => h.clo rfl t (by omega)⟩, h.low.bel⟩
end
end Go.Proofs.Ytmgikmjmdppfmaa
