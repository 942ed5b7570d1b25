import Derived.Test.YtfpaahkleienoaaRows
import Derived.Test.YtfpaahkleienoaaBase
namespace Go.Proofs.Ytfpaahkleienoaa
open Go.RowKit
set_option linter.unusedSimpArgs false
set_option linter.unusedVariables false

def vastN (p : PR) (t : Nat) : Int := p.code.l.length + p.words.l.length + ((p.code.l.take t).map fun s => (s.l.length : Int)).sum
theorem vastN_succ (p : PR) (t : Nat) (h : t < p.code.l.length) : vastN p (t + 1) = vastN p t + (nth p.code.l t).l.length := by
  simp only [vastN]
  rw [List.take_add_one, getElem?_nth _ _ h]
  simp [Int.add_assoc]
theorem vastN_bound (p : PR) (w : World) (h : p.At w) (t : Nat) (ht : t ≤ p.code.l.length) : 0 ≤ vastN p t ∧ vastN p t ≤ (t + 2) * 140737488355328 := by
  induction t with
  | zero =>
    have := h.code.len
    have := h.words.len
    simp [vastN]
    omega
  | succ t ih =>
    have := ih (by omega)
    rw [vastN_succ p t (by omega)]
    have := (h.code.inner t (by omega)).len
    omega
def isVast (p : PR) : Bool := decide (vastN p (min p.code.l.length 100) > 5000) || decide ((p.code.l.length : Int) > 100)

set_option maxHeartbeats 1000000 in
theorem vast_any (p : PR) (w : World) (h : p.At w) :
    Calls Try.prog 18 #[p.val] w fun e w' => e = .returned (.bool (isVast p)) ∧ Below w.heap.size w w' := by
  have hc := h.code
  have hno := hc.noHead
  have hcl := hc.len
  have hwl := h.words.len
  unfold PR.val
  go_enter Try.func18, Try.ntmps18
  go_wp2
  go_loop [3, 4] (fun n i => ∃ t : Nat, t ≤ p.code.l.length ∧ t ≤ 100 ∧ i = .int .i64 t ∧ n = .int .i64 (vastN p t)) (fun _ i => 100 - (intOf i).toNat)
  case atStart => exact ⟨0, by omega, by omega, rfl, by simp [vastN]⟩
  case round =>
    obtain ⟨t, ht1, ht2, rfl, rfl⟩ := hrel
    have hb1 := vastN_bound p w h t ht1
    have hlt : t < p.code.l.length → (nth p.code.l t).l.length ≤ 140737488355328 := fun hh => (h.code.inner t hh).len
    by_cases h1 : t < p.code.l.length
    · by_cases h2 : t < 100
      · have hl := hlt h1
        have Hs := hid (vastN_succ p t h1)
        clear hlt
        go_wp2
        go_round
        case rel => exact ⟨t + 1, by omega, by omega, by go_num, by rw [Hs.out]⟩
        case measure => simp [intOf]; omega
      · have e : min p.code.l.length 100 = t := by omega
        have Hv := hid (show isVast p = (decide (vastN p t > 5000) || decide ((p.code.l.length : Int) > 100)) by rw [isVast, e])
        clear e hlt
        go_wp2
        all_goals
          go_ret
          refine ⟨?_, (Below.refl _ _).alloc (Nat.le_refl _) _⟩
          rw [Hv.out]
          simp [*]
          try omega
    · have e : min p.code.l.length 100 = t := by omega
      have Hv := hid (show isVast p = (decide (vastN p t > 5000) || decide ((p.code.l.length : Int) > 100)) by rw [isVast, e])
      clear e hlt
      go_wp2
      all_goals
        go_ret
        refine ⟨?_, (Below.refl _ _).alloc (Nat.le_refl _) _⟩
        rw [Hv.out]
        simp [*]
        try omega
end Go.Proofs.Ytfpaahkleienoaa
