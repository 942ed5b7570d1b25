/-
  Contracts of functions of this program and of the references, each walked once.
-/
import Derived.Test.YtfpaahkleienoaaX2
import Derived.Test.YtfpaahkleienoaaS12
namespace Go.Proofs.Ytfpaahkleienoaa
open Go.RowKit
set_option linter.unusedSimpArgs false
set_option linter.unusedVariables false

theorem ar_101 : arI Try.prog 101 = some (200, 4) := by kernel_rfl

/-- Which ones are. -/
def listB (l : List Bool) : List Int := ((List.range l.length).filter fun i => nth l i).map fun (i : Nat) => (i : Int)
def listTo (l : List Bool) (n : Nat) : List Int := ((List.range n).filter fun i => nth l i).map fun (i : Nat) => (i : Int)
theorem listTo_succ (l : List Bool) (n : Nat) : listTo l (n + 1) = listTo l n ++ if nth l n = true then [(n : Int)] else [] := by
  unfold listTo
  rw [List.range_succ, List.filter_append, List.map_append]
  congr 1
  simp only [List.filter_cons, List.filter_nil]
  split <;> rfl
set_option maxRecDepth 100000 in
set_option maxHeartbeats 1000000 in
theorem list_c (l : List Bool) (W : World) (hl : l.length = 200) :
    Rets Try.prog 133 [.agg (l.map Value.bool).toArray] W (fun v w' => ∃ s : Ls Int, v = s.v ∧ s.l = listB l ∧ Sh0 W w' [.own 3 s]) := by
 refine x_enter (N := 18) Try.func133 rfl Try.ntmps133 (Nat.le_of_ble_eq_true rfl) fun a1 hf1 => ?_
 have h1 : St 18 (fun _ => False) W a1 W [(0, .agg (l.map Value.bool).toArray)] [] := ⟨hf1.sub ⟨rfl, trivial⟩, Sh0.start W⟩
 clear hf1
 refine wp_seq_k fun K2 hK2 => wp_region_lit <| wl_ex (x_boxAr (l := l) h1 rfl rfl rfl rfl) (wanted_none rfl _) ?_
 rintro a3 w3 ⟨b3, h3⟩; clear h1
 refine wms 1 h3 rfl fun a4 h4 => wpList_nil <| hK2 _ _ <| wp_seq_k fun K5 hK5 => wp_region_lit <| wms 1 h4 rfl fun a6 h6 => wpList_nil <| hK5 _ _ <| wp_seq_k fun K7 hK7 => wp_seq_k fun K8 hK8 => wp_region_lit <| wv h6 (r_ldwAr (i := 0) (l := l) ti_101 rfl rfl rfl (by first | assumption | (simp only [lens9]; done) | (simp only [lens9]; first | assumption | omega) | rfl)) rfl rfl fun a9 h9 => wms 1 h9 rfl fun a10 h10 => wpList_nil ?_; clear h3 h4 h6 h9
 refine hK8 _ _ <| wp_block ?_
 have h12 := h10.nil (α := Int) 3
 clear h10
 refine x_loop (fun m a w => ∃ (i : Nat) (ol : List Int) (vo : Value), (i ≤ 200) ∧ (ol = listTo l i) ∧ (ol.length ≤ i) ∧ St 18 (fun _ => False) W a w [(3, vo), (6, .agg (l.map Value.bool).toArray), (7, .int .i64 ((i : Nat) : Int))] [.blk b3 101 (l.map Value.bool), .own 3 (⟨vo, ol⟩ : Ls Int)] ∧ m = 200 - i) ⟨_, 0, [], (.slice none 0 0), (by omega), (rfl), (Nat.le_refl _), h12.nrm ⟨rfl, rfl, rfl, trivial⟩ [1, 0] (by decide) ⟨rfl, rfl, trivial⟩, rfl⟩ ?_
 clear h12
 rintro m11 a11 w11 ⟨i, ol, vo, hi, hol, hoi, h11, hm11⟩
 refine wp_seq_k fun K13 hK13 => wp_region_lit <| wv h11 (r_lssN (p := i) (q := 200) rfl rfl rfl) rfl rfl fun a14 h14 => wpList_nil <| hK13 _ _ <| wp_seq_k fun K15 hK15 => x_cond h14 rfl (fun hb16 => ?_) (fun hb16 => ?_); clear h11
 ·have hp16 : i < 200 := of_decide_eq_true hb16
  refine wp_skip <| hK15 _ _ <| wp_seq_k fun K17 hK17 => wp_block <| wp_seq_k fun K18 hK18 => wp_region_lit <| wms 1 h14 rfl fun a19 h19 => wv h19 (r_ixV (cs := l.map Value.bool) (q := i) ar_101 ti_4 rfl rfl rfl (show i < 200 from (by omega)) (nth_bool (by rw [show l.length = 200 from (by first | assumption | (simp only [lens9]; done) | (simp only [lens9]; first | assumption | omega) | rfl)]; omega))) rfl rfl fun a20 h20 => wms 2 h20 rfl fun a21 h21 => wpList_nil <| hK18 _ _ <| wp_seq_k fun K22 hK22 => wp_region_lit <| wms 1 h21 rfl fun a23 h23 => ?_; clear h14 h19 h20 h21
  refine wpList_nil <| hK22 _ _ <| x_cond h23 rfl (fun hb24 => ?_) (fun hb24 => ?_)
  ·skip
   refine wp_region_lit <| wms 2 h23 rfl fun a25 h25 => wl_ex (x_lit (n := 1) (cs := [.int .i64 ((i : Nat) : Int)]) ([((i : Nat) : Int)] : List Int) h25 sl_23 ti_3 rfl rfl rfl (by decide) rfl (by kernel_rfl) rfl (fun q hq w h => Flat.inner _ _) (fun q hq b hb => (Flat.on _ _ hb).elim) rfl rfl) (wanted_none rfl _) ?_; clear h23
   rintro a26 w26 ⟨v26, h26⟩; clear h25
   refine wl_ex (x_app (r := 2) (rm := 0) (s := (⟨vo, ol⟩ : Ls Int)) (m := (⟨v26, [((i : Nat) : Int)]⟩ : Ls Int)) h26 sl_23 ti_3 rfl rfl rfl rfl rfl rfl rfl (fun w h => (h.own 0 rfl)) (fun b hb => own_on (h26.sh.ok _ (List.mem_of_getElem? (i := 0) rfl)) hb) (fun q hq b hb => ⟨q, hq, hb⟩) rfl rfl rfl inferInstance (show (ol.length + ([((i : Nat) : Int)]).length) * 8 ≤ 140737488355328 ∧ ol.length + ([((i : Nat) : Int)]).length ≤ 140737488355328 from (by first | omega | (simp only [lens9]; omega))) rfl rfl) (wanted_none rfl _) ?_
   rintro a27 w27 ⟨v27, h27⟩; clear h26
   refine wms 1 h27 rfl fun a28 h28 => wpList_nil <| hK17 _ _ <| wp_region_lit <| wv h28 (r_addN (p := i) (q := 1) rfl rfl rfl (show i + 1 < 9223372036854775808 from (by omega))) rfl rfl fun a29 h29 => wms 1 h29 rfl fun a30 h30 => wpList_nil <| x_again ⟨_, ?_, i + 1, ol ++ ([((i : Nat) : Int)]), v27, ?_, ?_, ?_, h30.nrm ⟨rfl, rfl, rfl, trivial⟩ [1, 2] (by decide) ⟨rfl, rfl, trivial⟩, rfl⟩; clear h27 h28 h29
   · rw [hm11]; first | omega | (simp only [lens9]; omega)
   · omega
   · rw [listTo_succ, ← hol]; first | rw [if_pos (by assumption)] | rw [if_neg (by first | assumption | simp_all), List.append_nil]
   · first | omega | (simp; omega)
  refine wp_skip <| hK17 _ _ <| wp_region_lit <| wv h23 (r_addN (p := i) (q := 1) rfl rfl rfl (show i + 1 < 9223372036854775808 from (by omega))) rfl rfl fun a31 h31 => wms 1 h31 rfl fun a32 h32 => wpList_nil <| x_again ⟨_, ?_, i + 1, ol, vo, ?_, ?_, ?_, h32.nrm ⟨rfl, rfl, rfl, trivial⟩ [0, 1] (by decide) ⟨rfl, rfl, trivial⟩, rfl⟩; clear h23 h31
  · rw [hm11]; first | omega | (simp only [lens9]; omega)
  · omega
  · rw [listTo_succ, ← hol]; first | rw [if_pos (by assumption)] | rw [if_neg (by first | assumption | simp_all), List.append_nil]
  · first | omega | (simp; omega)
 have hp16 : ¬ (i < 200) := of_decide_eq_false hb16
 refine wp_exit <| hK7 _ _ <| wp_seq_k fun K33 hK33 => wp_region_lit <| wms 2 h14 rfl fun a34 h34 => wpList_nil <| hK33 _ _ <| wp_ret ?_; clear h14
 try simp only [Exit.then, Exit.inBlock]
 refine x_ret1 (fn := Try.f133) (t := 2) rfl h34 rfl <| ⟨⟨vo, ol⟩, rfl, ?_, (h34.sh.sel (L' := [.own 3 (⟨vo, ol⟩ : Ls Int)]) [1] (by decide) ⟨rfl, trivial⟩)⟩
 show ol = _
 rw [hol, listB]; unfold listTo; rw [show i = l.length by omega]

end Go.Proofs.Ytfpaahkleienoaa
