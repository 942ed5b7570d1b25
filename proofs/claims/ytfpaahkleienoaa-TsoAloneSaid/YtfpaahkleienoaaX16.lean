/-
  Contracts of functions of this program and of the references, each walked once.
-/
import Derived.Test.YtfpaahkleienoaaX0
import Derived.Test.YtfpaahkleienoaaX2
import Derived.Test.YtfpaahkleienoaaS7
import Derived.Test.YtfpaahkleienoaaS8
section
namespace Go.Proofs.Ytfpaahkleienoaa
open Go.RowKit
set_option linter.unusedSimpArgs false
set_option linter.unusedVariables false


theorem and_t' {p : Prop} [Decidable p] {b c : Bool} (h : p) (e : b = c) : b = (decide p && c) := by rw [decide_eq_true h, e]; rfl
theorem and_f' {p : Prop} [Decidable p] {c : Bool} (h : ¬ p) : false = (decide p && c) := by rw [decide_eq_false h]; rfl
end Go.Proofs.Ytfpaahkleienoaa
end
namespace Go.Proofs.Ytfpaahkleienoaa
open Go.RowKit
set_option linter.unusedSimpArgs false
set_option linter.unusedVariables false


theorem findsL_some {l : List Wt} {words : List Int} {w : Int} {i : Nat} (hi : i < l.length) (h1 : (nth l i).lock = false) (h2 : (nth l i).wh = w) (ha : ∀ j, i < j → j < l.length → ¬ ((nth l j).lock = false ∧ (nth l j).wh = w)) : findsL l words w = (nth l i).what := by
  have e : l.reverse.find? (fun x => !x.lock && decide (x.wh = w)) = some (nth l i) := by
    have hs : l = l.take i ++ nth l i :: l.drop (i + 1) := by
      have := List.take_append_drop i l
      rw [List.drop_eq_getElem_cons hi] at this
      rw [show nth l i = l[i] from by simp [nth, hi]]
      exact this.symm
    rw [hs, List.reverse_append, List.reverse_cons, List.find?_append, List.find?_append]
    have hn : (l.drop (i + 1)).reverse.find? (fun x => !x.lock && decide (x.wh = w)) = none := by
      rw [List.find?_eq_none]
      intro x hx
      rw [List.mem_reverse] at hx
      obtain ⟨k, hk, rfl⟩ := List.mem_iff_getElem.1 hx
      have hk2 : i + 1 + k < l.length := by simpa [Nat.lt_sub_iff_add_lt, Nat.add_comm] using hk
      have := ha (i + 1 + k) (by omega) hk2
      rw [show nth l (i + 1 + k) = (l.drop (i + 1))[k] from by simp [nth, hk2]] at this
      intro hc
      simp only [Bool.and_eq_true, Bool.not_eq_true', decide_eq_true_eq] at hc
      exact this hc
    rw [← hs, hn]
    simp [h1, h2]
  unfold findsL
  rw [e]
theorem findsL_none {l : List Wt} {words : List Int} {w : Int} (ha : ∀ j, j < l.length → ¬ ((nth l j).lock = false ∧ (nth l j).wh = w)) : findsL l words w = nth words w.toNat := by
  have e : l.reverse.find? (fun x => !x.lock && decide (x.wh = w)) = none := by
    rw [List.find?_eq_none]
    intro x hx
    rw [List.mem_reverse] at hx
    obtain ⟨k, hk, rfl⟩ := List.mem_iff_getElem.1 hx
    have := ha k hk
    rw [show nth l k = l[k] from by simp [nth, hk]] at this
    intro hc
    simp only [Bool.and_eq_true, Bool.not_eq_true', decide_eq_true_eq] at hc
    exact this hc
  unfold findsL
  rw [e]

end Go.Proofs.Ytfpaahkleienoaa
