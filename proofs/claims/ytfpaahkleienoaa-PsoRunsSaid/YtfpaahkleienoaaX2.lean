/-
  Contracts of functions of this program and of the references, each walked once.
-/
import Derived.Test.YtfpaahkleienoaaX0
import Derived.Test.YtfpaahkleienoaaC1
namespace Go.Proofs.Ytfpaahkleienoaa
open Go.RowKit
set_option linter.unusedSimpArgs false
set_option linter.unusedVariables false


theorem take_succ_nth {α : Type} [Inhabited α] (l : List α) (k : Nat) (h : k < l.length) : l.take (k + 1) = l.take k ++ [nth l k] := by
  rw [List.take_succ_eq_append_getElem h, nth_lt l k h]
theorem ext_nth {α : Type} [Inhabited α] (l m : List α) (hl : l.length = m.length) (h : ∀ i, i < l.length → nth l i = nth m i) : l = m := by
  apply List.ext_getElem hl
  intro i h1 h2
  have := h i h1
  rwa [nth_lt l i h1, nth_lt m i h2] at this

instance : DecidableEq Pg := fun p q => by
  rcases p with ⟨a, b, c, d⟩; rcases q with ⟨a', b', c', d'⟩
  exact decidable_of_iff (a = a' ∧ b = b' ∧ c = c' ∧ d = d') (by simp)
section
variable {code code2 : Ls (Ls Ins)} {words words2 : Ls Int} {locks regs locks2 regs2 : Int}
end
set_option maxRecDepth 100000 in
set_option maxHeartbeats 1000000 in
theorem ints_c (x y : Ls Int) (W : World) (hx : x.At W) (hy : y.At W) :
    Rets Try.prog 62 [x.v, y.v] W (fun v w' => v = .bool (decide (x.l = y.l)) ∧ Sh0 W w' []) := by
 refine x_enter (N := 26) Try.func62 rfl Try.ntmps62 (Nat.le_of_ble_eq_true rfl) fun a1 hf1 => ?_
 have h1 : St 26 (fun _ => False) W a1 W [(0, x.v), (1, y.v)] [.at_ x, .at_ y] := ⟨hf1.sub ⟨rfl, rfl, trivial⟩, Sh0.ext2 hx hy⟩
 clear hf1
 refine wp_seq_k fun K2 hK2 => wp_region_lit <| wms 1 h1 rfl fun a3 h3 => wpList_nil <| hK2 _ _ <| wp_seq_k fun K4 hK4 => wp_seq_k fun K5 hK5 => wp_region_lit <| wms 1 h3 rfl fun a6 h6 => ?_; clear h1 h3
 have hl7 : x.l.length ≤ 140737488355328 := (h6.sh.at 0 rfl).len
 refine wv h6 (r_len (s := x) (n := x.l.length) sl_23 rfl rfl (fun w h => (h.at 0 rfl)) rfl) rfl rfl fun a8 h8 => wms 1 h8 rfl fun a9 h9 => ?_; clear h6 h8
 have hl10 : y.l.length ≤ 140737488355328 := (h9.sh.at 1 rfl).len
 refine wv h9 (r_len (s := y) (n := y.l.length) sl_23 rfl rfl (fun w h => (h.at 1 rfl)) rfl) rfl rfl fun a11 h11 => wv h11 (r_neqN (p := x.l.length) (q := y.l.length) rfl rfl rfl) rfl rfl fun a12 h12 => wpList_nil <| hK5 _ _ <| x_cond h12 rfl (fun hb13 => ?_) (fun hb13 => ?_); clear h9 h11
 ·have hp13 : x.l.length ≠ y.l.length := of_decide_eq_true hb13
  refine wp_seq_k fun K14 hK14 => wp_region_lit <| wms 1 h12 rfl fun a15 h15 => wpList_nil <| hK14 _ _ <| wp_ret ?_; clear h12
  try simp only [Exit.then, Exit.inBlock]
  refine x_ret1 (fn := Try.f62) (t := 4) rfl h15 rfl <| ⟨?_, (h15.sh.sel [] (by decide) trivial)⟩
  congr 1
  first | (exact (decide_eq_true (ext_nth _ _ (by omega) fun i hi => hall i (by omega))).symm) | (refine (decide_eq_false fun e => ?_).symm; simp_all)
 have hp13 : ¬ (x.l.length ≠ y.l.length) := of_decide_eq_false hb13
 refine wp_skip <| hK4 _ _ <| wp_seq_k fun K16 hK16 => wp_seq_k fun K17 hK17 => wp_region_lit <| wms 1 h12 rfl fun a18 h18 => wpList_nil <| hK17 _ _ <| wp_block <| x_loop (fun m a w => ∃ (k : Nat), (k ≤ x.l.length) ∧ (∀ j, j < k → nth x.l j = nth y.l j) ∧ St 26 (fun _ => False) W a w [(0, x.v), (1, y.v), (5, .int .i64 ((k : Nat) : Int))] [.at_ x, .at_ y] ∧ m = x.l.length - k) ⟨_, 0, (by omega), (fun j hj => absurd hj (by omega)), h18.nrm ⟨rfl, rfl, rfl, trivial⟩ [0, 1] (by decide) ⟨rfl, rfl, trivial⟩, rfl⟩ ?_; clear h12
 clear h18
 rintro m19 a19 w19 ⟨k, hk, hall, h19, hm19⟩
 refine wp_seq_k fun K20 hK20 => wp_seq_k fun K21 hK21 => wp_region_lit <| wms 2 h19 rfl fun a22 h22 => wv h22 (r_len (s := x) (n := x.l.length) sl_23 rfl rfl (fun w h => (h.at 0 rfl)) rfl) rfl rfl fun a23 h23 => wv h23 (r_lssN (p := k) (q := x.l.length) rfl rfl rfl) rfl rfl fun a24 h24 => wpList_nil <| hK21 _ _ <| x_cond h24 rfl (fun hb25 => ?_) (fun hb25 => ?_); clear h19 h22 h23
 ·have hp25 : k < x.l.length := of_decide_eq_true hb25
  refine wp_skip <| hK20 _ _ <| wp_seq_k fun K26 hK26 => wp_block <| wp_seq_k fun K27 hK27 => x_quiet (by kernel_rfl) (by kernel_rfl) h24 fun Z28 hZ28 => ?_
  have hq28 := h24.fr
  refine wq_val hq28 (r_move rfl rfl) (wanted_none rfl _) rfl rfl fun a29 hq29 => wq_val hq29 (r_move rfl rfl) (wanted_none rfl _) rfl rfl fun a30 hq30 => wq_val hq30 (r_ixN (s := x) (q := k) sl_23 ti_3 rfl rfl rfl (fun w h => (h.at 0 rfl)) (show k < x.l.length from (by omega))) (wanted_none rfl _) rfl rfl fun a31 hq31 => wq_val hq31 (r_lde (s := x) (i := k) (v := .int .i64 (nth x.l k)) ti_3 rfl rfl rfl (fun w h => (h.at 0 rfl)) (show k < x.l.length from (by omega)) (Nat.le_of_ble_eq_true rfl) rfl) (wanted_none rfl _) rfl rfl fun a32 hq32 => wq_val hq32 (r_move rfl rfl) (wanted_none rfl _) rfl rfl fun a33 hq33 => wq_val hq33 (r_move rfl rfl) (wanted_none rfl _) rfl rfl fun a34 hq34 => wq_val hq34 (r_ixN (s := y) (q := k) sl_23 ti_3 rfl rfl rfl (fun w h => (h.at 1 rfl)) (show k < y.l.length from (by omega))) (wanted_none rfl _) rfl rfl fun a35 hq35 => wq_val hq35 (r_lde (s := y) (i := k) (v := .int .i64 (nth y.l k)) ti_3 rfl rfl rfl (fun w h => (h.at 1 rfl)) (show k < y.l.length from (by omega)) (Nat.le_of_ble_eq_true rfl) rfl) (wanted_none rfl _) rfl rfl fun a36 hq36 => wq_val hq36 (r_neqI (p := nth x.l k) (q := nth y.l k) rfl rfl rfl) (wanted_none rfl _) rfl rfl fun a37 hq37 => wpQuiet_nil (hZ28 _ fun w38 hw38 => ?_); clear hq28 hq29 hq30 hq31 hq32 hq33 hq34 hq35 hq36
  have h38 : St 26 (fun _ => False) W a37 w38 _ _ := ⟨hq37, hw38⟩
  clear hq37 hw38 h24
  refine hK27 _ _ <| x_cond h38 rfl (fun hb39 => ?_) (fun hb39 => ?_)
  ·have hp39 : nth x.l k ≠ nth y.l k := of_decide_eq_true hb39
   refine wp_seq_k fun K40 hK40 => wp_region_lit <| wms 1 h38 rfl fun a41 h41 => wpList_nil <| hK40 _ _ <| wp_ret ?_; clear h38
   try simp only [Exit.then, Exit.inBlock]
   refine x_ret1 (fn := Try.f62) (t := 4) rfl h41 rfl <| ⟨?_, (h41.sh.sel [] (by decide) trivial)⟩
   congr 1
   first | (exact (decide_eq_true (ext_nth _ _ (by omega) fun i hi => hall i (by omega))).symm) | (refine (decide_eq_false fun e => ?_).symm; simp_all)
  have hp39 : ¬ (nth x.l k ≠ nth y.l k) := of_decide_eq_false hb39
  refine wp_skip <| hK26 _ _ <| wp_region_lit <| wms 1 h38 rfl fun a42 h42 => wv h42 (r_addN (p := k) (q := 1) rfl rfl rfl (show k + 1 < 9223372036854775808 from (by omega))) rfl rfl fun a43 h43 => wms 1 h43 rfl fun a44 h44 => wpList_nil <| x_again ⟨_, ?_, k + 1, ?_, ?_, h44.nrm ⟨rfl, rfl, rfl, trivial⟩ [0, 1] (by decide) ⟨rfl, rfl, trivial⟩, rfl⟩; clear h38 h42 h43
  · rw [hm19]; first | omega | (simp only [lens9]; omega)
  · omega
  · intro j hj; rcases Nat.lt_or_ge j k with h | h; exact hall j h; obtain rfl : j = k := (by omega); simp_all
 have hp25 : ¬ (k < x.l.length) := of_decide_eq_false hb25
 refine wp_exit <| hK16 _ _ <| wp_seq_k fun K45 hK45 => wp_region_lit <| wms 1 h24 rfl fun a46 h46 => wpList_nil <| hK45 _ _ <| wp_ret ?_; clear h24
 try simp only [Exit.then, Exit.inBlock]
 refine x_ret1 (fn := Try.f62) (t := 4) rfl h46 rfl <| ⟨?_, (h46.sh.sel [] (by decide) trivial)⟩
 congr 1
 first | (exact (decide_eq_true (ext_nth _ _ (by omega) fun i hi => hall i (by omega))).symm) | (refine (decide_eq_false fun e => ?_).symm; simp_all)

end Go.Proofs.Ytfpaahkleienoaa
