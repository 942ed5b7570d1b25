/-
  What a search for outcomes keeps, step by step, in plain Lean; what data of a state say. No program is in sight.
-/
import Derived.Test.YtfpaahkleienoaaL1
import Derived.Test.YtfpaahkleienoaaLS
namespace Go.Proofs.Ytfpaahkleienoaa
open Go.RowKit
set_option linter.unusedSimpArgs false
set_option linter.unusedVariables false

section
variable {p : Pg} {m : Int} {S : List MSt} {E : List Outc} {full : Bool} {i : Nat}
theorem Inv.addOut (h : Inv p m S E full i) {o : Outc} {E' : List Outc} (ho : Outs p m o) (hs : Sorted_ E') (hm : ∀ y, y ∈ E' ↔ y ∈ E ∨ y = o) : Inv p m S E' full i :=
  ⟨h.start, h.reach, h.pr, h.len, h.hfull, fun y hy => ((hm y).1 hy).elim (h.sound y) (fun e => e ▸ ho), hs, fun hf j hj => (h.done hf j hj).mono (fun _ h => h) fun y hy => (hm y).2 (.inl hy)⟩
theorem Inv.next (h : Inv p m S E full i) (hx : full = false → Expanded p m S E (nth S i)) : Inv p m S E full (i + 1) :=
  ⟨h.start, h.reach, h.pr, h.len, h.hfull, h.sound, h.sorted, fun hf j hj => by
    rcases Nat.lt_or_ge j i with h1 | h1
    · exact h.done hf j h1
    · obtain rfl : j = i := by omega
      exact hx hf⟩
theorem Inv.first (s : MSt) (hs : s = begin_ p) : Inv p m [s] [] (false || decide (4000 < 0 + 1)) 0 := by
  subst hs
  refine ⟨by simp, fun x hx => ?_, fun j hj => ?_, by simp, by simp, fun o ho => ?_, List.Pairwise.nil, fun _ j hj => absurd hj (by omega)⟩
  · obtain rfl : x = begin_ p := by simpa using hx
    exact .start
  · simp at hj; subst hj; exact Nat.zero_le _
  · cases ho
theorem ended_no {s : MSt} (he : ended p s = true) : ∀ t k, t < p.code.length → mvOK m (nth p.code t) (s.view t) k = false := by
  intro t k ht
  have h1 := (List.all_eq_true.1 he) t (by simpa using ht)
  simp only [Bool.and_eq_true, decide_eq_true_eq] at h1
  cases hk : mvOK m (nth p.code t) (s.view t) k with
  | false => rfl
  | true =>
    rcases mvOK_k hk with ⟨rfl, h2, _⟩ | ⟨h2, h3, _⟩
    · exact absurd h2 h1.1
    · have : (s.view t).wait.length = 0 := h1.2
      omega
theorem Inv.ended (h : Inv p m S E full i) (hi : i < S.length) (he : ended p (nth S i) = true) {E' : List Outc} (hs : Sorted_ E') (hm : ∀ y, y ∈ E' ↔ y ∈ E ∨ y = ⟨0, (nth S i).words, (nth S i).prints⟩) : Inv p m S E' full (i + 1) := by
  have h1 := h.addOut (.done (h.reach _ (nth_mem _ _ hi)) he) hs hm
  refine h1.next fun _ => ⟨fun _ => (hm _).2 (.inr rfl), fun e => ?_, fun t k ht hk => ?_⟩
  · rw [he] at e; cases e
  · rw [ended_no he t k ht] at hk; cases hk
theorem stuck_of {s : MSt} (hm : moves p m s = []) : Stuck_ p m s := by
  intro t k ht
  cases hk : mvOK m (nth p.code t) (s.view t) k with
  | false => rfl
  | true =>
    have : ((8 * t + k : Nat) : Int) ∈ moves p m s := mem_moves.2 ⟨t, k, ht, hk, rfl⟩
    rw [hm] at this; cases this
theorem Inv.stuck (h : Inv p m S E full i) (hi : i < S.length) (he : Go.Proofs.Ytfpaahkleienoaa.ended p (nth S i) = false) (hmv : moves p m (nth S i) = []) {E' : List Outc} (hs : Sorted_ E') (hm : ∀ y, y ∈ E' ↔ y ∈ E ∨ y = ⟨2, (nth S i).words, (nth S i).prints⟩) : Inv p m S E' full (i + 1) := by
  have hst := stuck_of hmv
  have h1 := h.addOut (.stuck (h.reach _ (nth_mem _ _ hi)) he hst) hs hm
  refine h1.next fun _ => ⟨fun e => ?_, fun _ _ => (hm _).2 (.inr rfl), fun t k ht hk => ?_⟩
  · rw [he] at e; cases e
  · rw [hst t k ht] at hk; cases hk
/-- A move, by its number, is seen to. -/
def HandM (p : Pg) (m : Int) (S : List MSt) (E : List Outc) (s : MSt) (v : Int) : Prop := ∀ t k, v = ((8 * t + k : Nat) : Int) → k ≤ 3 → Handled p m S E s t k
theorem HandM.mono {s : MSt} {v : Int} {S' : List MSt} {E' : List Outc} (h : HandM p m S E s v) (hS : ∀ x ∈ S, x ∈ S') (hE : ∀ x ∈ E, x ∈ E') : HandM p m S' E' s v := fun t k e hk => (h t k e hk).mono hS hE
theorem HandM.of {s : MSt} {v : Int} {t k : Nat} (hv : v = ((8 * t + k : Nat) : Int)) (hk : k ≤ 3) (h : Handled p m S E s t k) : HandM p m S E s v := by
  intro t' k' e hk'
  rw [hv] at e
  have e' : 8 * t + k = 8 * t' + k' := by omega
  obtain rfl : t = t' := by omega
  obtain rfl : k = k' := by omega
  exact h
end

end Go.Proofs.Ytfpaahkleienoaa
