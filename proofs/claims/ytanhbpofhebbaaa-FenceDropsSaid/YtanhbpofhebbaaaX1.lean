/-
  Contracts of functions of this program and of the references, each walked once.
-/
import Derived.Test.YtanhbpofhebbaaaX0
namespace Go.Proofs.Ytanhbpofhebbaaa
open Go.RowKit
set_option linter.unusedSimpArgs false
set_option linter.unusedVariables false


def waitsB (op : Int) : Bool := decide (op = 9 ∨ op = 11 ∨ op = 18)

set_option maxRecDepth 100000 in
set_option maxHeartbeats 1000000 in
theorem waits_c (op : Int) (W : World) :
    Rets Try.prog 66 [.int .i64 op] W (fun v w' => v = .bool (waitsB op) ∧ Sh0 W w' []) := by
 refine x_enter (N := 13) Try.func66 rfl Try.ntmps66 (Nat.le_of_ble_eq_true rfl) fun a1 hf1 => ?_
 have h1 : St 13 (fun _ => False) W a1 W [(0, .int .i64 op)] [] := ⟨hf1.sub ⟨rfl, trivial⟩, Sh0.start _⟩
 clear hf1
 refine wp_seq_k fun K2 hK2 => wp_region_lit ?_
 refine wms 1 h1 rfl fun a3 h3 => ?_; clear h1
 refine wpList_nil (hK2 _ _ ?_)
 refine wp_seq_k fun K4 hK4 => wp_region_lit ?_
 refine wms 1 h3 rfl fun a5 h5 => ?_; clear h3
 refine wv h5 (r_eqlI (p := op) (q := 9) rfl rfl rfl) rfl rfl fun a6 h6 => ?_; clear h5
 refine wms 1 h6 rfl fun a7 h7 => ?_; clear h6
 rcases Bool.eq_false_or_eq_true (decide (op = 9)) with hb8 | hb8
 ·
  have hp8 : op = 9 := of_decide_eq_true hb8
  refine wl_skip h7 (wanted_no h7.fr rfl rfl rfl rfl hb8) rfl rfl fun a9 h9 => ?_; clear h7
  refine wl_skip h9 (wanted_no h9.fr rfl rfl rfl rfl hb8) rfl rfl fun a10 h10 => ?_; clear h9
  refine wv h10 (r_pickT rfl rfl hb8 rfl) rfl rfl fun a11 h11 => ?_; clear h10
  refine wms 1 h11 rfl fun a12 h12 => ?_; clear h11
  refine wl_skip h12 (wanted_no h12.fr rfl rfl rfl rfl rfl) rfl rfl fun a13 h13 => ?_; clear h12
  refine wl_skip h13 (wanted_no h13.fr rfl rfl rfl rfl rfl) rfl rfl fun a14 h14 => ?_; clear h13
  refine wv h14 (r_pickT rfl rfl rfl rfl) rfl rfl fun a15 h15 => ?_; clear h14
  refine wms 1 h15 rfl fun a16 h16 => ?_; clear h15
  refine wpList_nil (hK4 _ _ ?_)
  refine wp_ret ?_
  try simp only [Exit.then, Exit.inBlock]
  refine x_ret1 (fn := Try.f66) (t := 2) rfl h16 rfl ?_
  refine ⟨?_, (h16.sh.sel [] (by decide) trivial)⟩
  congr 1; unfold waitsB; simp_all
 have hp8 : ¬ (op = 9) := of_decide_eq_false hb8
 refine wl_val h7 (r_move rfl rfl) (wanted_yes h7.fr rfl rfl rfl rfl hb8) rfl rfl fun a17 h17 => ?_; clear h7
 refine wl_val h17 (r_eqlI (p := op) (q := 11) rfl rfl rfl) (wanted_yes h17.fr rfl rfl rfl rfl hb8) rfl rfl fun a18 h18 => ?_; clear h17
 refine wv h18 (r_pickF rfl rfl hb8 rfl) rfl rfl fun a19 h19 => ?_; clear h18
 refine wms 1 h19 rfl fun a20 h20 => ?_; clear h19
 rcases Bool.eq_false_or_eq_true (decide (op = 11)) with hb21 | hb21
 ·
  have hp21 : op = 11 := of_decide_eq_true hb21
  refine wl_skip h20 (wanted_no h20.fr rfl rfl rfl rfl hb21) rfl rfl fun a22 h22 => ?_; clear h20
  refine wl_skip h22 (wanted_no h22.fr rfl rfl rfl rfl hb21) rfl rfl fun a23 h23 => ?_; clear h22
  refine wv h23 (r_pickT rfl rfl hb21 rfl) rfl rfl fun a24 h24 => ?_; clear h23
  refine wms 1 h24 rfl fun a25 h25 => ?_; clear h24
  refine wpList_nil (hK4 _ _ ?_)
  refine wp_ret ?_
  try simp only [Exit.then, Exit.inBlock]
  refine x_ret1 (fn := Try.f66) (t := 2) rfl h25 rfl ?_
  refine ⟨?_, (h25.sh.sel [] (by decide) trivial)⟩
  congr 1; unfold waitsB; simp_all
 have hp21 : ¬ (op = 11) := of_decide_eq_false hb21
 refine wl_val h20 (r_move rfl rfl) (wanted_yes h20.fr rfl rfl rfl rfl hb21) rfl rfl fun a26 h26 => ?_; clear h20
 refine wl_val h26 (r_eqlI (p := op) (q := 18) rfl rfl rfl) (wanted_yes h26.fr rfl rfl rfl rfl hb21) rfl rfl fun a27 h27 => ?_; clear h26
 refine wv h27 (r_pickF rfl rfl hb21 rfl) rfl rfl fun a28 h28 => ?_; clear h27
 refine wms 1 h28 rfl fun a29 h29 => ?_; clear h28
 refine wpList_nil (hK4 _ _ ?_)
 refine wp_ret ?_
 try simp only [Exit.then, Exit.inBlock]
 refine x_ret1 (fn := Try.f66) (t := 2) rfl h29 rfl ?_
 refine ⟨?_, (h29.sh.sel [] (by decide) trivial)⟩
 congr 1; unfold waitsB; simp_all

end Go.Proofs.Ytanhbpofhebbaaa
