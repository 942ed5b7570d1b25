/-
  Contracts of functions of this program and of the references, each walked once.
-/
import Derived.Test.YtmgikmjmdppfmaaX3
section
namespace Go.Proofs.Ytmgikmjmdppfmaa
open Go.RowKit
set_option linter.unusedSimpArgs false
set_option linter.unusedVariables false


theorem ok_thread {code : Ls (Ls Ins)} {words : Ls Int} {locks regs : Int} (h : OkPg (pgOf code words locks regs)) (t : Nat) (ht : t < code.l.length) : (nth code.l t).l.length ≤ 400 ∧ JumpsOK (nth code.l t).l := by
  have e : nth (pgOf code words locks regs).code t = (nth code.l t).l := nth_map' _ _ _ ht
  have ht' : t < (pgOf code words locks regs).code.length := by simpa [pgOf] using ht
  refine ⟨by rw [← e]; exact h.len t ht', fun i hi => ?_⟩
  have hi2 := h.ins t i ht' (by rw [e]; exact hi)
  rw [e] at hi2
  have hw : wrap64 (((nth code.l t).l.length : Int) + 1) = ((nth code.l t).l.length : Int) + 1 := by
    have hlen := h.len t ht'
    rw [e] at hlen
    exact IntWalk.wrap64_in _ ⟨by omega, by omega⟩
  refine ⟨fun h14 => ?_, fun h15 => ?_⟩
  · have h0 := hi2.n0
    unfold okNumG at h0
    rw [h14] at h0
    have hk : kindsB 14 = ⟨#[99]⟩ := by unfold kindsB; simp
    rw [hk] at h0
    simp only [show (0 : Nat) < (⟨#[99]⟩ : ByteArray).size from by decide, dif_pos] at h0
    have : fitsG (pgOf code words locks regs) (nth code.l t).l.length 99 (nth (nth code.l t).l i).a = true := h0
    unfold fitsG at this
    simp only [Int.reduceEq, if_false, if_true, hw, Bool.and_eq_true, decide_eq_true_eq] at this
    omega
  · have h0 := hi2.n1
    unfold okNumG at h0
    rw [h15] at h0
    have hk : kindsB 15 = ⟨#[114, 99]⟩ := by unfold kindsB; simp
    rw [hk] at h0
    simp only [show (1 : Nat) < (⟨#[114, 99]⟩ : ByteArray).size from by decide, dif_pos] at h0
    have : fitsG (pgOf code words locks regs) (nth code.l t).l.length 99 (nth (nth code.l t).l i).b = true := h0
    unfold fitsG at this
    simp only [Int.reduceEq, if_false, if_true, hw, Bool.and_eq_true, decide_eq_true_eq] at this
    omega
theorem ok_len {code : Ls (Ls Ins)} {words : Ls Int} {locks regs : Int} (h : OkPg (pgOf code words locks regs)) : 1 ≤ code.l.length ∧ code.l.length ≤ 4 ∧ words.l.length ≤ 64 ∧ 0 ≤ locks ∧ locks ≤ 4 ∧ 1 ≤ regs ∧ regs ≤ 200 := by
  have h1 := h.code
  have h2 := h.words
  have h3 := h.locks
  have h4 := h.regs
  simp only [pgOf, List.length_map] at h1 h2 h3 h4
  omega

end Go.Proofs.Ytmgikmjmdppfmaa
end
namespace Go.Proofs.Ytmgikmjmdppfmaa
open Go.RowKit
set_option linter.unusedSimpArgs false
set_option linter.unusedVariables false


def Asn.tt : Asn := ⟨fun _ => False, fun _ => False, fun _ => True, fun _ _ _ _ => trivial, fun _ _ _ h => by rcases h with h | h <;> exact h.elim⟩
end Go.Proofs.Ytmgikmjmdppfmaa
