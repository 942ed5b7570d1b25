/-
  What could have been could have been with less, and in another order: plain Lean.
-/
import Derived.Test.YtanhbpofhebbaaaX42
namespace Go.Proofs.Ytanhbpofhebbaaa
open Go.RowKit
set_option linter.unusedSimpArgs false
set_option linter.unusedVariables false

def evOkB (n : Nat) (e : Ins) : Bool := decide (0 ≤ e.op) && decide (e.op < 4) && decide (0 ≤ e.a) && decide (e.a < n) && (decide (e.b = 1) || decide (e.b = 2))
theorem evOk_of {n : Nat} {e : Ins} (h : evOkB n e = true) : EvOk n e := by
  simp only [evOkB, Bool.and_eq_true, Bool.or_eq_true, decide_eq_true_eq] at h
  obtain ⟨⟨⟨⟨h1, h2⟩, h3⟩, h4⟩, h5⟩ := h
  exact ⟨h1, h2, h3, h4, h5⟩
theorem okH_of {ws : List Int} {es : List Ins} (h : (decide (ws.length ≤ 64) && decide (es.length ≤ 12) && es.all (evOkB ws.length)) = true) : OkH ws es := by
  simp only [Bool.and_eq_true, decide_eq_true_eq] at h
  exact ⟨h.1.1, h.1.2, fun i hi => evOk_of (List.all_eq_true.1 h.2 _ (nth_mem _ _ hi))⟩
theorem okH_mem {ws : List Int} {es es2 : List Ins} (h : OkH ws es) (hl : es2.length ≤ 12) (hm : ∀ e ∈ es2, e ∈ es) : OkH ws es2 := by
  refine ⟨h.words, hl, fun i hi => ?_⟩
  obtain ⟨j, hj, e⟩ := List.mem_iff_getElem.1 (hm _ (nth_mem _ _ hi))
  have := h.ok j hj
  rw [nth_lt _ _ hj, e] at this
  exact this
theorem thrE_len (es : List Ins) : (thrE es).length = 4 := by simp [thrE]
theorem thrE_nth (es : List Ins) {t : Nat} (h : t < 4) : nth (thrE es) t = rowE es t := by
  unfold thrE
  rw [nth_map' _ _ _ (by simpa using h)]
  simp [nth, h]
/-! ### The other way round -/
theorem swap_form : ∀ (es : List Ins) (q : Nat), q + 1 < es.length → ∃ A B, es = A ++ nth es q :: nth es (q + 1) :: B ∧ (es.set q (nth es (q + 1))).set (q + 1) (nth es q) = A ++ nth es (q + 1) :: nth es q :: B
  | [], _, h => by simp at h
  | [_], _, h => by simp at h
  | a :: b :: r, 0, _ => ⟨[], r, rfl, rfl⟩
  | a :: b :: r, q + 1, h => by
    obtain ⟨A, B, h1, h2⟩ := swap_form (b :: r) q (by simpa using h)
    have e1 : nth (a :: b :: r) (q + 1) = nth (b :: r) q := by simp [nth]
    have e2 : nth (a :: b :: r) (q + 1 + 1) = nth (b :: r) (q + 1) := by simp [nth]
    refine ⟨a :: A, B, ?_, ?_⟩
    · rw [e1, e2, List.cons_append, ← h1]
    · rw [e1, e2, List.cons_append, ← h2]
      rfl
theorem swap_mem {es : List Ins} {q : Nat} (h : q + 1 < es.length) : ∀ e ∈ (es.set q (nth es (q + 1))).set (q + 1) (nth es q), e ∈ es := by
  intro e he
  rcases List.mem_or_eq_of_mem_set he with he | rfl
  · rcases List.mem_or_eq_of_mem_set he with he | rfl
    · exact he
    · exact nth_mem _ _ h
  · exact nth_mem _ _ (by omega)
theorem may_swap {ws : List Int} {es : List Ins} {q : Nat} (h : q + 1 < es.length) (hne : (nth es q).op ≠ (nth es (q + 1)).op) : mayB ws ((es.set q (nth es (q + 1))).set (q + 1) (nth es q)) = mayB ws es := by
  obtain ⟨A, B, h1, h2⟩ := swap_form es q h
  have key : thrE ((es.set q (nth es (q + 1))).set (q + 1) (nth es q)) = thrE es := by
    unfold thrE
    apply List.map_congr_left
    intro t _
    rw [h2]
    conv => rhs; rw [h1]
    unfold rowE
    rw [List.filter_append, List.filter_append]
    congr 1
    simp only [List.filter_cons]
    by_cases e1 : (nth es q).op = (t : Int)
    · have e2 : ¬ (nth es (q + 1)).op = (t : Int) := fun e => hne (e1.trans e.symm)
      simp [e1, e2]
    · by_cases e2 : (nth es (q + 1)).op = (t : Int)
      · simp [e1, e2]
      · simp [e1, e2]
  unfold mayB
  rw [key]
/-! ### Without the last event -/
section
variable {T T' : List (List Ins)} {t0 : Nat} {e : Ins}
def cutP (n0 t0 : Nat) (p : List Nat) : List Nat := p.set t0 (min (nth p t0) n0)
theorem can_cut (hl : T'.length = T.length) (ht0 : t0 < T.length) (h0 : nth T t0 = nth T' t0 ++ [e]) (hne : ∀ t, t ≠ t0 → nth T t = nth T' t) (he : e.b ≠ 2) {p : List Nat} {ws : List Int} (h : Can T p ws) : p.length = T.length → (∀ t, t < T.length → nth p t ≤ (nth T t).length) → Can T' (cutP (nth T' t0).length t0 p) ws := by
  have hn0 : (nth T t0).length = (nth T' t0).length + 1 := by rw [h0]; simp
  have cut_ne : ∀ (p : List Nat) t, t ≠ t0 → nth (cutP (nth T' t0).length t0 p) t = nth p t := fun p t h => by unfold cutP; rw [nth_setN, if_neg (fun e => h e.1.symm)]
  have cut_t0 : ∀ (p : List Nat), p.length = T.length → nth (cutP (nth T' t0).length t0 p) t0 = min (nth p t0) (nth T' t0).length := fun p h => by unfold cutP; rw [nth_setN, if_pos ⟨rfl, by omega⟩]
  have same : ∀ (p : List Nat) t, p.length = T.length → t < T.length → nth p t < (nth T t).length → (t = t0 → nth p t < (nth T' t0).length) →
      nth (cutP (nth T' t0).length t0 p) t = nth p t ∧ nth p t < (nth T' t).length ∧ nth (nth T' t) (nth p t) = nth (nth T t) (nth p t) ∧ (cutP (nth T' t0).length t0 p).set t (nth p t + 1) = cutP (nth T' t0).length t0 (p.set t (nth p t + 1)) := by
    intro p t hp ht hlt hx
    by_cases e0 : t = t0
    · subst e0
      have hx := hx rfl
      refine ⟨by rw [cut_t0 p hp]; omega, hx, ?_, ?_⟩
      · rw [h0, nth_append, if_pos hx]
      · unfold cutP
        rw [List.set_set, List.set_set, nth_setN, if_pos ⟨rfl, by omega⟩]
        congr 1
        omega
    · refine ⟨cut_ne p t e0, by rw [← hne t e0]; exact hlt, by rw [hne t e0], ?_⟩
      unfold cutP
      rw [nth_setN, if_neg (fun e => e0 e.1)]
      exact List.set_comm _ _ (fun e => e0 e.symm)
  have up : ∀ (p : List Nat) t, p.length = T.length → t < T.length → nth p t < (nth T t).length → (∀ t, t < T.length → nth p t ≤ (nth T t).length) → ∀ q, q < T.length → nth (p.set t (nth p t + 1)) q ≤ (nth T q).length := by
    intro p t hp ht hlt hle q hq
    rw [nth_setN]
    split
    · rename_i e; obtain ⟨rfl, _⟩ := e; omega
    · exact hle q hq
  induction h with
  | done p ws hd =>
    intro hp hle
    refine .done _ _ fun t ht => ?_
    rw [hl] at ht
    by_cases e0 : t = t0
    · subst e0
      rw [cut_t0 p hp, hd t ht]
      omega
    · rw [cut_ne p t e0, hd t ht, hne t e0]
  | store p ws t ht hlt h2 _ ih =>
    intro hp hle
    have hx : t = t0 → nth p t < (nth T' t0).length := by
      rintro rfl
      rcases Nat.lt_or_ge (nth p t) (nth T' t).length with h9 | h9
      · exact h9
      · exfalso
        have e9 : nth p t = (nth T' t).length := by omega
        rw [h0, e9, nth_lt _ _ (by simp)] at h2
        simp at h2
        exact he h2
    obtain ⟨s1, s2, s3, s4⟩ := same p t hp ht hlt hx
    have := ih (by rw [List.length_set]; exact hp) (up p t hp ht hlt hle)
    rw [← s4, ← s3] at this
    exact .store _ _ t (by omega) (by rw [s1]; exact s2) (by rw [s1, s3]; exact h2) (by rw [s1]; exact this)
  | load p ws t ht hlt h2 h3 _ ih =>
    intro hp hle
    have ih := ih (by rw [List.length_set]; exact hp) (up p t hp ht hlt hle)
    by_cases hx : t = t0 → nth p t < (nth T' t0).length
    · obtain ⟨s1, s2, s3, s4⟩ := same p t hp ht hlt hx
      rw [← s4] at ih
      exact .load _ _ t (by omega) (by rw [s1]; exact s2) (by rw [s1, s3]; exact h2) (by rw [s1, s3]; exact h3) (by rw [s1]; exact ih)
    · have e0 : t = t0 := Classical.byContradiction fun h9 => hx fun h8 => absurd h8 h9
      subst e0
      have e1 : nth p t = (nth T' t).length := by
        have : ¬ nth p t < (nth T' t).length := fun h9 => hx fun _ => h9
        omega
      have : cutP (nth T' t).length t (p.set t (nth p t + 1)) = cutP (nth T' t).length t p := by
        unfold cutP
        rw [List.set_set, nth_setN, if_pos ⟨rfl, by omega⟩]
        congr 1
        omega
      rw [this] at ih
      exact ih
end
theorem may_less {ws : List Int} {es : List Ins} (hok : OkH ws es) (hn : 0 < es.length) (hb : (nth es (es.length - 1)).b = 1) (h : mayB ws es = true) : mayB ws (es.take (es.length - 1)) = true := by
  have hlast := hok.ok (es.length - 1) (by omega)
  have hs : es = es.take (es.length - 1) ++ [nth es (es.length - 1)] := by
    have := take_stepE (es := es) (i := es.length - 1) (by omega)
    rw [show es.length - 1 + 1 = es.length by omega, List.take_length] at this
    exact this
  have hrow : ∀ t : Nat, rowE es t = rowE (es.take (es.length - 1)) t ++ if (nth es (es.length - 1)).op = (t : Int) then [nth es (es.length - 1)] else [] := fun t => by
    have := rowE_step (es := es) (i := es.length - 1) (t := t) (by omega)
    rw [show es.length - 1 + 1 = es.length by omega, List.take_length] at this
    exact this
  have h4 : (nth es (es.length - 1)).op.toNat < 4 := by have := hlast.1; have := hlast.2.1; omega
  unfold mayB at h ⊢
  have h1 := (can_iff _ rfl (by rw [thrE_len]; rfl)).1 h
  have h2 := can_cut (T := thrE es) (T' := thrE (es.take (es.length - 1))) (t0 := (nth es (es.length - 1)).op.toNat) (e := nth es (es.length - 1)) (by rw [thrE_len, thrE_len]) (by rw [thrE_len]; exact h4)
    (by rw [thrE_nth _ h4, thrE_nth _ h4, hrow, if_pos (by have := hlast.1; omega)])
    (fun t ht => by
      rcases Nat.lt_or_ge t 4 with h9 | h9
      · rw [thrE_nth _ h9, thrE_nth _ h9, hrow, if_neg (fun e => ht (by omega)), List.append_nil]
      · have : ∀ es : List Ins, nth (thrE es) t = [] := fun es => by simp [nth, List.getD, thrE_len, List.getElem?_eq_none, h9]; rfl
        rw [this, this])
    (by rw [hb]; decide) h1 (by rw [thrE_len]; rfl) (fun t ht => by rw [thrE_len] at ht; rcases (by omega : t = 0 ∨ t = 1 ∨ t = 2 ∨ t = 3) with rfl | rfl | rfl | rfl <;> exact Nat.zero_le _)
  have e : cutP (nth (thrE (es.take (es.length - 1))) (nth es (es.length - 1)).op.toNat).length (nth es (es.length - 1)).op.toNat [0, 0, 0, 0] = [0, 0, 0, 0] := by
    unfold cutP
    have : ∀ t, t < 4 → nth [0, 0, 0, 0] t = 0 := fun t ht => by rcases (by omega : t = 0 ∨ t = 1 ∨ t = 2 ∨ t = 3) with rfl | rfl | rfl | rfl <;> rfl
    rw [this _ h4, Nat.zero_min]
    rcases (by omega : (nth es (es.length - 1)).op.toNat = 0 ∨ (nth es (es.length - 1)).op.toNat = 1 ∨ (nth es (es.length - 1)).op.toNat = 2 ∨ (nth es (es.length - 1)).op.toNat = 3) with h9 | h9 | h9 | h9 <;> rw [h9] <;> rfl
  rw [e] at h2
  exact (can_iff _ rfl (by rw [thrE_len]; rfl)).2 h2
end Go.Proofs.Ytanhbpofhebbaaa
