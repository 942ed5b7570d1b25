/-
  Scripts that tell nothing more; runs of one thread. Plain Lean.
-/
import Derived.Test.YtfpaahkleienoaaM2
namespace Go.Proofs.Ytfpaahkleienoaa
open Go.RowKit
set_option linter.unusedSimpArgs false
set_option linter.unusedVariables false

section
variable {p : Pg} {m : Int} {script : List Int} {nx nx' l : Nat}
theorem nth_ahead {i : Nat} (h : script.length ≤ i) : nth (script ++ [0, 0]) i = 0 := by
  rw [nth_append, if_neg (by omega)]
  rcases i - script.length with _ | _ | q <;> rfl
theorem pick_ahead (h : nx' = nx ∨ (script.length ≤ nx ∧ script.length ≤ nx')) : pickM (script ++ [0, 0]) nx' l = pickM script nx l ∧ (nextM (script ++ [0, 0]) nx' l = nextM script nx l ∨ (script.length ≤ nextM script nx l ∧ script.length ≤ nextM (script ++ [0, 0]) nx' l)) := by
  have hlen : (script ++ [0, 0]).length = script.length + 2 := by simp
  by_cases hn : nx < script.length
  · obtain rfl : nx' = nx := by omega
    have e : nth (script ++ [0, 0]) nx' = nth script nx' := by rw [nth_append, if_pos hn]
    unfold pickM nextM
    rw [hlen, e]
    by_cases h1 : 1 < l
    · rw [if_pos ⟨h1, by omega⟩, if_pos ⟨h1, hn⟩, if_pos ⟨h1, by omega⟩, if_pos ⟨h1, hn⟩]
      exact ⟨rfl, .inl rfl⟩
    · rw [if_neg (by omega), if_neg (by omega), if_neg (by omega), if_neg (by omega)]
      exact ⟨rfl, .inl rfl⟩
  · have h2 : script.length ≤ nx' := by omega
    have e0 := nth_ahead (script := script) h2
    unfold pickM nextM
    rw [if_neg (c := 1 < l ∧ nx < script.length) (by omega), if_neg (c := 1 < l ∧ nx < script.length) (by omega), e0]
    refine ⟨?_, .inr ⟨by omega, ?_⟩⟩
    · split <;> simp
    · split <;> omega
theorem goM_ahead : ∀ (n nx nx' : Nat) (s : MSt) (k : Nat), (nx' = nx ∨ (script.length ≤ nx ∧ script.length ≤ nx')) → goM p m (script ++ [0, 0]) n nx' s k = goM p m script n nx s k
  | 0, nx, nx', s, k, h => by rw [goM, goM]
  | n + 1, nx, nx', s, k, h => by
    obtain ⟨h1, h2⟩ := pick_ahead (l := (moves p m s).length) h
    have e : mvM p m s (script ++ [0, 0]) nx' = mvM p m s script nx := by unfold mvM; rw [h1]
    rw [goM, goM, e, goM_ahead n _ _ _ _ h2]
theorem runM_ahead : runM p m (script ++ [0, 0]) = runM p m script := goM_ahead _ _ _ _ _ (.inl rfl)
theorem doT_wait0 {n k : Nat} {c : List Ins} {x : TS} (h : x.wait = []) : (doT 0 n c k x).wait = [] := by
  unfold doT
  split
  · show (x.wait.eraseIdx _) = []
    rw [h]; rfl
  · refine execT_elim (Q := fun y => y.wait = []) (x := { x with pc := x.pc + 1 }) h (fun _ _ => h) (fun w _ => ?_) h (fun _ _ => h) (fun _ => h) (fun _ => h) (fun _ => h)
    unfold TS.store
    rw [if_neg (by decide)]
    exact h
theorem put_wait0 {s : MSt} {t : Nat} {y : TS} (h : ∀ u, (s.view u).wait = []) (hy : y.wait = []) (u : Nat) : ((s.putT t y).view u).wait = [] := by
  by_cases e : t = u
  · subst e
    rcases Nat.lt_or_ge t s.ths.length with hl | hl
    · rw [putT_view hl]; exact hy
    · show (nth (s.ths.set t _) t).wait = []
      rw [List.set_eq_of_length_le hl]
      exact h t
  · rw [putT_other e]
    exact h u
theorem moves_one {s : MSt} (h1 : p.code.length = 1) (h : ∀ u, (s.view u).wait = []) : (moves p 0 s).length ≤ 1 := by
  unfold moves
  rw [h1]
  show (List.flatMap _ [0]).length ≤ 1
  rw [List.flatMap_cons, List.flatMap_nil, List.append_nil]
  unfold mvs
  rw [h 0]
  have : ∀ c : Bool, (if c = true then [((8 * 0 : Nat) : Int)] else []).length ≤ 1 := fun c => by cases c <;> simp
  simpa using this _
theorem pick_one (h : l ≤ 1) (script : List Int) (nx : Nat) : pickM script nx l = 0 := by unfold pickM; rw [if_neg (by omega)]
theorem goM_one (h1 : p.code.length = 1) (script script' : List Int) : ∀ (n nx nx' : Nat) (s : MSt) (k : Nat), (∀ u, (s.view u).wait = []) → goM p 0 script n nx s k = goM p 0 script' n nx' s k
  | 0, nx, nx', s, k, h => by rw [goM, goM]
  | n + 1, nx, nx', s, k, h => by
    have hl := moves_one h1 h
    have e : mvM p 0 s script nx = mvM p 0 s script' nx' := by unfold mvM; rw [pick_one hl, pick_one hl]
    have h9 : ∀ u, ((s.putT (mvM p 0 s script' nx' / 8) (stepT p 0 s (mvM p 0 s script' nx' / 8) (mvM p 0 s script' nx' % 8))).view u).wait = [] := put_wait0 h (by unfold stepT; exact doT_wait0 (h _))
    rw [goM, goM, e, goM_one h1 script script' n (nextM script nx (moves p 0 s).length) (nextM script' nx' (moves p 0 s).length) _ _ h9]
theorem runM_one (h1 : p.code.length = 1) (script script' : List Int) : runM p 0 script = runM p 0 script' := goM_one h1 _ _ _ _ _ _ _ fun u => by
  show (nth (begin_ p).ths u).wait = []
  unfold begin_
  rcases Nat.lt_or_ge u p.code.length with h | h
  · rw [nth_map' _ _ _ h]
  · simp [nth, List.getD, h]; rfl
end
end Go.Proofs.Ytfpaahkleienoaa
