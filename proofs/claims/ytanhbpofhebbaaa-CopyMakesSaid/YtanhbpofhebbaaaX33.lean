/-
  Contracts of functions of this program and of the references, each walked once.
-/
import Derived.Test.YtanhbpofhebbaaaC3
import Derived.Test.YtanhbpofhebbaaaV1
namespace Go.Proofs.Ytanhbpofhebbaaa
open Go.RowKit
set_option linter.unusedSimpArgs false
set_option linter.unusedVariables false


def kAt (s : ByteArray) (k : Nat) : Int := if h : k < s.size then ((s[k]'h).toNat : Int) else 0
theorem kAt_at {s : ByteArray} {k : Nat} (h : k < s.size) : kAt s k = ((s[k]'h).toNat : Int) := dif_pos h
theorem kinds_small (op : Int) : (kindsB op).size ≤ 3 ∧ ∀ k (h : k < (kindsB op).size), ((kindsB op)[k]'h).toNat < 128 := by
  by_cases h : 1 ≤ op ∧ op ≤ 18
  · rcases cases18 op h with h | h | h | h | h | h | h | h | h | h | h | h | h | h | h | h | h | h <;> subst h <;> decide +kernel
  · rw [kindsB_none op h]
    exact ⟨by decide +kernel, fun k hk => absurd hk (Nat.not_lt_zero k)⟩
set_option maxRecDepth 100000 in
set_option maxHeartbeats 1000000 in
theorem kinds_c (op : Int) (W : World) :
    Rets Try.prog 114 [.int .i64 op] W (fun v w' => v = .string (kindsB op) ∧ Sh0 W w' []) := by
 refine x_enter (N := 7) Try.func114 rfl Try.ntmps114 (Nat.le_of_ble_eq_true rfl) fun a1 hf1 => ?_
 have h1 : St 7 (fun _ => False) W a1 W [(0, .int .i64 op)] [] := ⟨hf1.sub ⟨rfl, trivial⟩, Sh0.start W⟩
 clear hf1
 refine wp_seq_k fun K2 hK2 => wp_region_lit ?_
 refine wms 1 h1 rfl fun a3 h3 => ?_; clear h1
 refine wpList_nil (hK2 _ _ ?_)
 refine wp_seq_k fun K4 hK4 => wp_region_lit ?_
 refine wl_ex (x_call h3 bd_51 rfl rfl rfl rfl rfl (shapes_c _)) (wanted_none rfl _) ?_
 rintro a5 w5 ⟨_, ⟨g5, rfl, hs5⟩, hf5⟩
 have h5 := (⟨hf5, h3.sh.call hs5 (by intro A hA b hb; first | (simp at hA; done) | (simp at hA; subst hA; first | exact Flat.noRd hb | exact (hb : False).elim) | (simp at hA; rcases hA with rfl | rfl <;> first | exact Flat.noRd hb | exact (hb : False).elim))⟩ : St 7 (fun _ => False) W a5 w5 _ _)
 clear hf5 hs5
 clear h3
 refine wms 1 h5 rfl fun a6 h6 => ?_; clear h5
 refine wv h6 (r_lookShp (i := 0) rfl rfl rfl rfl) rfl rfl fun a7 h7 => ?_; clear h6
 refine wv h7 (r_fieldK rfl rfl) rfl rfl fun a8 h8 => ?_; clear h7
 refine wms 1 h8 rfl fun a9 h9 => ?_; clear h8
 refine wpList_nil (hK4 _ _ ?_)
 refine wp_ret ?_
 try simp only [Exit.then, Exit.inBlock]
 refine x_ret1 (fn := Try.f114) (t := 2) rfl h9 rfl ?_
 exact ⟨rfl, (h9.sh.sel [] (by decide) trivial)⟩

end Go.Proofs.Ytanhbpofhebbaaa
