import Derived.Test.YtjiidjlfcjamfaaT6
import Derived.Test.YtjiidjlfcjamfaaT2
namespace Go.Proofs.Ytjiidjlfcjamfaa
open Go.RowKit
set_option linter.unusedSimpArgs false
set_option linter.unusedVariables false

set_option maxRecDepth 100000 in
set_option maxHeartbeats 2000000 in
theorem asmChecks_any (p : PR) (w : World) (h : p.At w) :
    Calls Try.prog 4 #[p.val] w fun e w' => e = .returned (.bool true) ∧ Below w.heap.size w w' := by
  cases hv : isVast p
  · unfold PR.val
    go_enter Try.func4, Try.ntmps4
    go_wp2_with fail
    refine (vast_any p _ (h.alloc _)).mono ?_
    rintro e w1 ⟨rfl, hb1⟩
    obtain ⟨hc1, hf1⟩ := bcell hb1
    rw [hv]
    have h1 := (h.alloc _).below' hb1
    have hs1 := hb1.size
    rw [World.size_alloc] at hs1
    have hl1 : w.heap.size < w1.heap.size := by omega
    go_wp2_with fail
    refine (asmCheck_any p _ h1).mono ?_
    rintro e w2 ⟨rfl, hb2⟩
    obtain ⟨hc2, hf2⟩ := bcell hb2
    have h2 := h1.below' hb2
    have hs2 := hb2.size
    have hl2 : w.heap.size < w2.heap.size := by omega
    unfold Flt.val
    go_wp2_with fail
    refine (refCheck_any p _ (h2.alloc _)).mono ?_
    rintro e w3 ⟨rfl, hb3⟩
    obtain ⟨hc3, hf3⟩ := bcell hb3
    have hs3 := hb3.size
    rw [World.size_alloc] at hs3
    have hl3 : w2.heap.size < w3.heap.size := by omega
    unfold Flt.val
    go_wp2
    go_ret
    refine ⟨by simp, ?_⟩
    have hA : Below w.heap.size w w1 := bstep (by repeat (first | assumption | exact Below.refl _ _ | refine bset ?_ (by first | omega | (simp; done) | (simp; omega)) _ | refine Below.alloc ?_ (by first | omega | (simp; done) | (simp; omega)) _ | refine Below.drew ?_)) hb1 (by simp)
    have hB := bstep hA hb2 hA.size
    have hC : Below w.heap.size w w3 := bstep (hB.alloc (by omega) _) hb3 (by simp; omega)
    exact (by repeat (first | assumption | exact Below.refl _ _ | refine bset ?_ (by first | omega | (simp; done) | (simp; omega)) _ | refine Below.alloc ?_ (by first | omega | (simp; done) | (simp; omega)) _ | refine Below.drew ?_))
  · unfold PR.val
    go_enter Try.func4, Try.ntmps4
    go_wp2_with fail
    refine (vast_any p _ (h.alloc _)).mono ?_
    rintro e w1 ⟨rfl, hb1⟩
    rw [hv]
    go_wp2
    go_ret
    exact ⟨rfl, bstep (by repeat (first | assumption | exact Below.refl _ _ | refine bset ?_ (by first | omega | (simp; done) | (simp; omega)) _ | refine Below.alloc ?_ (by first | omega | (simp; done) | (simp; omega)) _ | refine Below.drew ?_)) hb1 (by simp)⟩
end Go.Proofs.Ytjiidjlfcjamfaa
