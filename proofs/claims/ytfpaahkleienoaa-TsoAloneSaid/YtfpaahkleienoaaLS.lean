/-
  What data of a state say. No program is in sight.
-/
import Derived.Test.YtfpaahkleienoaaL0
namespace Go.Proofs.Ytfpaahkleienoaa
open Go.RowKit
set_option linter.unusedSimpArgs false
set_option linter.unusedVariables false

/-! ### Data of states -/
theorem flatMap_congr' {α β : Type} {f g : α → List β} : ∀ {l : List α}, (∀ x ∈ l, f x = g x) → l.flatMap f = l.flatMap g
  | [], _ => rfl
  | x :: l, h => by simp only [List.flatMap_cons]; rw [h x (by simp), flatMap_congr' fun y hy => h y (by simp [hy])]
theorem all_congr' {α : Type} {f g : α → Bool} : ∀ {l : List α}, (∀ x ∈ l, f x = g x) → l.all f = l.all g
  | [], _ => rfl
  | x :: l, h => by simp only [List.all_cons]; rw [h x (by simp), all_congr' fun y hy => h y (by simp [hy])]
section
variable {code : Ls (Ls Ins)} {words : Ls Int} {Lk R : Nat} {mode : Int} {x : SD}
abbrev pgN (code : Ls (Ls Ins)) (words : Ls Int) (Lk R : Nat) : Pg := pgOf code words (Lk : Int) (R : Int)
theorem pgN_len : (pgN code words Lk R).code.length = code.l.length := by simp [pgN, pgOf]
theorem pgN_code {t : Nat} (ht : t < code.l.length) : nth (pgN code words Lk R).code t = (nth code.l t).l := nth_map' _ _ _ ht
structure WfX (code : Ls (Ls Ins)) (words : Ls Int) (Lk R : Nat) (x : SD) : Prop where
  thl : x.thr.l.length = code.l.length
  pc : ∀ t, t < code.l.length → 0 ≤ (nth x.thr.l t).pc ∧ (nth x.thr.l t).pc ≤ (nth code.l t).l.length
  regs : ∀ t, t < x.thr.l.length → (nth x.thr.l t).regs.l.length = R
  wait : ∀ t, t < x.thr.l.length → (nth x.thr.l t).wait.l.length ≤ 3
  wt : ∀ t, t < x.thr.l.length → ∀ j, j < (nth x.thr.l t).wait.l.length → if (nth (nth x.thr.l t).wait.l j).lock = true then 0 ≤ (nth (nth x.thr.l t).wait.l j).wh ∧ (nth (nth x.thr.l t).wait.l j).wh < x.owner.l.length else 0 ≤ (nth (nth x.thr.l t).wait.l j).wh ∧ (nth (nth x.thr.l t).wait.l j).wh < x.words.l.length
  words : x.words.l.length = words.l.length
  owner : x.owner.l.length = Lk
theorem insR_N (hok : OkPg (pgN code words Lk R)) {t : Nat} (ht : t < code.l.length) {pc : Int} (h0 : 0 ≤ pc) (h1 : pc < (nth code.l t).l.length) : InsR R words.l.length Lk (nextIns (nth code.l t).l pc) := by
  have h := (hok.insR (t := t) (i := pc.toNat) (by rw [pgN_len]; exact ht) (by rw [pgN_code ht]; omega)).1
  rw [pgN_code ht] at h
  rw [nextIns_t h1]
  simpa [pgN, pgOf] using h
theorem lock_N (hok : OkPg (pgN code words Lk R)) {t i : Nat} (ht : t < code.l.length) (hi : i < (nth code.l t).l.length) (h17 : (nth (nth code.l t).l i).op = 17) : 0 ≤ (nth (nth code.l t).l i).a ∧ (nth (nth code.l t).l i).a < (Lk : Int) := by
  have h := (hok.insR (t := t) (i := i) (by rw [pgN_len]; exact ht) (by rw [pgN_code ht]; exact hi)).1
  rw [pgN_code ht] at h
  have := h.o17 (.inl h17)
  simpa [pgN, pgOf] using this
end
end Go.Proofs.Ytfpaahkleienoaa
