/-
  Contracts of functions of this program and of the references, each walked once.
-/
import Derived.Test.YtanhbpofhebbaaaX2
import Derived.Test.YtanhbpofhebbaaaS12
namespace Go.Proofs.Ytanhbpofhebbaaa
open Go.RowKit
set_option linter.unusedSimpArgs false
set_option linter.unusedVariables false

theorem ar_121 : arI Try.prog 121 = some (200, 4) := by kernel_rfl

/-- Which ones are. -/
def listB (l : List Bool) : List Int := ((List.range l.length).filter fun i => nth l i).map fun (i : Nat) => (i : Int)
def listTo (l : List Bool) (n : Nat) : List Int := ((List.range n).filter fun i => nth l i).map fun (i : Nat) => (i : Int)
theorem listTo_succ (l : List Bool) (n : Nat) : listTo l (n + 1) = listTo l n ++ if nth l n = true then [(n : Int)] else [] := by
  unfold listTo
  rw [List.range_succ, List.filter_append, List.map_append]
  congr 1
  simp only [List.filter_cons, List.filter_nil]
  split <;> rfl
theorem listTo_len (l : List Bool) (n : Nat) : (listTo l n).length ≤ n := by
  unfold listTo
  rw [List.length_map]
  exact Nat.le_trans (List.length_filter_le _ _) (by simp)

set_option maxRecDepth 100000 in
set_option maxHeartbeats 1000000 in
theorem rList_c (x : Ls Bool) (W : World) (hx : x.At W) (hxl : x.l.length ≤ 100000) :
    Rets Try.prog 40 [x.v] W (fun v w' => ∃ s : Ls Int, v = s.v ∧ s.l = listB x.l ∧ Sh0 W w' [.own 3 s]) := by
 refine x_enter (N := 20) Try.func40 rfl Try.ntmps40 (Nat.le_of_ble_eq_true rfl) fun a1 hf1 => ?_
 have h1 : St 20 (fun _ => False) W a1 W [(0, x.v)] [.at_ x] := ⟨hf1.sub ⟨rfl, trivial⟩, Sh0.ext1 hx⟩
 clear hf1
 refine wp_seq_k fun K2 hK2 => wp_region_lit <| wms 1 h1 rfl fun a3 h3 => wpList_nil <| hK2 _ _ <| wp_seq_k fun K4 hK4 => wp_region_lit <| wms 1 h3 rfl fun a5 h5 => wpList_nil <| hK4 _ _ <| wp_seq_k fun K6 hK6 => wp_seq_k fun K7 hK7 => wp_region_lit <| wms 1 h5 rfl fun a8 h8 => ?_; clear h1 h3 h5
 refine wpList_nil <| hK7 _ _ <| wp_block ?_
 have h10 := h8.nil (α := Int) 3
 clear h8
 refine x_loop (fun m a w => ∃ (i : Nat) (ol : List Int) (vo : Value), (i ≤ x.l.length) ∧ (ol = listTo x.l i) ∧ (ol.length ≤ i) ∧ St 20 (fun _ => False) W a w [(0, x.v), (3, vo), (4, .int .i64 ((i : Nat) : Int))] [.at_ x, .own 3 (⟨vo, ol⟩ : Ls Int)] ∧ m = x.l.length - i) ⟨_, 0, [], (.slice none 0 0), (by omega), (rfl), (Nat.le_refl _), h10.nrm ⟨rfl, rfl, rfl, trivial⟩ [1, 0] (by decide) ⟨rfl, rfl, trivial⟩, rfl⟩ ?_
 clear h10
 rintro m9 a9 w9 ⟨i, ol, vo, hi, hol, hoi, h9, hm9⟩
 refine wp_seq_k fun K11 hK11 => wp_seq_k fun K12 hK12 => wp_region_lit <| wms 2 h9 rfl fun a13 h13 => ?_; clear h9
 have hl14 : x.l.length ≤ 140737488355328 := (h13.sh.at 0 rfl).len
 refine wv h13 (r_len (s := x) (n := x.l.length) sl_66 rfl rfl (fun w h => (h.at 0 rfl)) rfl) rfl rfl fun a15 h15 => wv h15 (r_lssN (p := i) (q := x.l.length) rfl rfl rfl) rfl rfl fun a16 h16 => wpList_nil <| hK12 _ _ <| x_cond h16 rfl (fun hb17 => ?_) (fun hb17 => ?_); clear h13 h15
 ·
  have hp17 : i < x.l.length := of_decide_eq_true hb17
  refine wp_skip <| hK11 _ _ <| wp_seq_k fun K18 hK18 => wp_block <| wp_seq_k fun K19 hK19 => wp_region_lit <| wms 2 h16 rfl fun a20 h20 => wv h20 (r_ixN (s := x) (q := i) sl_66 ti_4 rfl rfl rfl (fun w h => (h.at 0 rfl)) (show i < x.l.length from (by omega))) rfl rfl fun a21 h21 => wv h21 (r_lde (s := x) (i := i) (v := .bool (nth x.l i)) ti_4 rfl rfl rfl (fun w h => (h.at 0 rfl)) (show i < x.l.length from (by omega)) (Nat.le_of_ble_eq_true rfl) rfl) rfl rfl fun a22 h22 => wpList_nil <| hK19 _ _ <| x_cond h22 rfl (fun hb23 => ?_) (fun hb23 => ?_); clear h16 h20 h21
  ·
   skip
   refine wp_region_lit <| wms 2 h22 rfl fun a24 h24 => wl_ex (x_lit (n := 1) (cs := [.int .i64 ((i : Nat) : Int)]) ([((i : Nat) : Int)] : List Int) h24 sl_24 ti_3 rfl rfl rfl (by decide) rfl (by kernel_rfl) rfl (fun q hq w h => Flat.inner _ _) (fun q hq b hb => (Flat.on _ _ hb).elim) rfl rfl) (wanted_none rfl _) ?_; clear h22
   rintro a25 w25 ⟨v25, h25⟩; clear h24
   refine wl_ex (x_app (r := 2) (rm := 0) (s := (⟨vo, ol⟩ : Ls Int)) (m := (⟨v25, [((i : Nat) : Int)]⟩ : Ls Int)) h25 sl_24 ti_3 rfl rfl rfl rfl rfl rfl rfl (fun w h => (h.own 0 rfl)) (fun b hb => own_on (h25.sh.ok _ (List.mem_of_getElem? (i := 0) rfl)) hb) (fun q hq b hb => ⟨q, hq, hb⟩) rfl rfl rfl inferInstance (show (ol.length + ([((i : Nat) : Int)]).length) * 8 ≤ 140737488355328 ∧ ol.length + ([((i : Nat) : Int)]).length ≤ 140737488355328 from (by first | omega | (simp only [lens9]; omega))) rfl rfl) (wanted_none rfl _) ?_
   rintro a26 w26 ⟨v26, h26⟩; clear h25
   refine wms 1 h26 rfl fun a27 h27 => wpList_nil <| hK18 _ _ <| wp_region_lit <| wms 1 h27 rfl fun a28 h28 => wv h28 (r_addN (p := i) (q := 1) rfl rfl rfl (show i + 1 < 9223372036854775808 from (by omega))) rfl rfl fun a29 h29 => wms 1 h29 rfl fun a30 h30 => wpList_nil <| x_again ⟨_, ?_, i + 1, ol ++ ([((i : Nat) : Int)]), v26, ?_, ?_, ?_, h30.nrm ⟨rfl, rfl, rfl, trivial⟩ [1, 2] (by decide) ⟨rfl, rfl, trivial⟩, rfl⟩; clear h26 h27 h28 h29
   · rw [hm9]; first | omega | (simp only [lens9]; omega)
   · omega
   · rw [listTo_succ, ← hol]; first | rw [if_pos (by assumption)] | rw [if_neg (by first | assumption | simp_all), List.append_nil]
   · first | omega | (simp; omega)
  refine wp_skip <| hK18 _ _ <| wp_region_lit <| wms 1 h22 rfl fun a31 h31 => wv h31 (r_addN (p := i) (q := 1) rfl rfl rfl (show i + 1 < 9223372036854775808 from (by omega))) rfl rfl fun a32 h32 => wms 1 h32 rfl fun a33 h33 => wpList_nil <| x_again ⟨_, ?_, i + 1, ol, vo, ?_, ?_, ?_, h33.nrm ⟨rfl, rfl, rfl, trivial⟩ [0, 1] (by decide) ⟨rfl, rfl, trivial⟩, rfl⟩; clear h22 h31 h32
  · rw [hm9]; first | omega | (simp only [lens9]; omega)
  · omega
  · rw [listTo_succ, ← hol]; first | rw [if_pos (by assumption)] | rw [if_neg (by first | assumption | simp_all), List.append_nil]
  · first | omega | (simp; omega)
 have hp17 : ¬ (i < x.l.length) := of_decide_eq_false hb17
 refine wp_exit <| hK6 _ _ <| wp_seq_k fun K34 hK34 => wp_region_lit <| wms 2 h16 rfl fun a35 h35 => wpList_nil <| hK34 _ _ <| wp_ret ?_; clear h16
 try simp only [Exit.then, Exit.inBlock]
 refine x_ret1 (fn := Try.f40) (t := 2) rfl h35 rfl <| ⟨⟨vo, ol⟩, rfl, ?_, (h35.sh.sel (L' := [.own 3 (⟨vo, ol⟩ : Ls Int)]) [1] (by decide) ⟨rfl, trivial⟩)⟩
 show ol = _
 rw [hol, listB]; unfold listTo; rw [show i = x.l.length by omega]

set_option maxRecDepth 100000 in
set_option maxHeartbeats 1000000 in
theorem list_c (l : List Bool) (W : World) (hl : l.length = 200) :
    Rets Try.prog 79 [.agg (l.map Value.bool).toArray] W (fun v w' => ∃ s : Ls Int, v = s.v ∧ s.l = listB l ∧ Sh0 W w' [.own 3 s]) := by
 refine x_enter (N := 18) Try.func79 rfl Try.ntmps79 (Nat.le_of_ble_eq_true rfl) fun a1 hf1 => ?_
 have h1 : St 18 (fun _ => False) W a1 W [(0, .agg (l.map Value.bool).toArray)] [] := ⟨hf1.sub ⟨rfl, trivial⟩, Sh0.start W⟩
 clear hf1
 refine wp_seq_k fun K2 hK2 => wp_region_lit <| wl_ex (x_boxAr (l := l) h1 rfl rfl rfl rfl) (wanted_none rfl _) ?_
 rintro a3 w3 ⟨b3, h3⟩; clear h1
 refine wms 1 h3 rfl fun a4 h4 => wpList_nil <| hK2 _ _ <| wp_seq_k fun K5 hK5 => wp_region_lit <| wms 1 h4 rfl fun a6 h6 => wpList_nil <| hK5 _ _ <| wp_seq_k fun K7 hK7 => wp_seq_k fun K8 hK8 => wp_region_lit <| wv h6 (r_ldwAr (i := 0) (l := l) ti_121 rfl rfl rfl (by first | assumption | (simp only [lens9]; done) | (simp only [lens9]; first | assumption | omega) | rfl)) rfl rfl fun a9 h9 => wms 1 h9 rfl fun a10 h10 => wpList_nil ?_; clear h3 h4 h6 h9
 refine hK8 _ _ <| wp_block ?_
 have h12 := h10.nil (α := Int) 3
 clear h10
 refine x_loop (fun m a w => ∃ (i : Nat) (ol : List Int) (vo : Value), (i ≤ 200) ∧ (ol = listTo l i) ∧ (ol.length ≤ i) ∧ St 18 (fun _ => False) W a w [(3, vo), (6, .agg (l.map Value.bool).toArray), (7, .int .i64 ((i : Nat) : Int))] [.blk b3 121 (l.map Value.bool), .own 3 (⟨vo, ol⟩ : Ls Int)] ∧ m = 200 - i) ⟨_, 0, [], (.slice none 0 0), (by omega), (rfl), (Nat.le_refl _), h12.nrm ⟨rfl, rfl, rfl, trivial⟩ [1, 0] (by decide) ⟨rfl, rfl, trivial⟩, rfl⟩ ?_
 clear h12
 rintro m11 a11 w11 ⟨i, ol, vo, hi, hol, hoi, h11, hm11⟩
 refine wp_seq_k fun K13 hK13 => wp_region_lit <| wv h11 (r_lssN (p := i) (q := 200) rfl rfl rfl) rfl rfl fun a14 h14 => wpList_nil <| hK13 _ _ <| wp_seq_k fun K15 hK15 => x_cond h14 rfl (fun hb16 => ?_) (fun hb16 => ?_); clear h11
 ·
  have hp16 : i < 200 := of_decide_eq_true hb16
  refine wp_skip <| hK15 _ _ <| wp_seq_k fun K17 hK17 => wp_block <| wp_seq_k fun K18 hK18 => wp_region_lit <| wms 1 h14 rfl fun a19 h19 => wv h19 (r_ixV (cs := l.map Value.bool) (q := i) ar_121 ti_4 rfl rfl rfl (show i < 200 from (by omega)) (nth_bool (by rw [show l.length = 200 from (by first | assumption | (simp only [lens9]; done) | (simp only [lens9]; first | assumption | omega) | rfl)]; omega))) rfl rfl fun a20 h20 => wms 2 h20 rfl fun a21 h21 => wpList_nil <| hK18 _ _ <| wp_seq_k fun K22 hK22 => wp_region_lit <| wms 1 h21 rfl fun a23 h23 => ?_; clear h14 h19 h20 h21
  refine wpList_nil <| hK22 _ _ <| x_cond h23 rfl (fun hb24 => ?_) (fun hb24 => ?_)
  ·
   skip
   refine wp_region_lit <| wms 2 h23 rfl fun a25 h25 => wl_ex (x_lit (n := 1) (cs := [.int .i64 ((i : Nat) : Int)]) ([((i : Nat) : Int)] : List Int) h25 sl_24 ti_3 rfl rfl rfl (by decide) rfl (by kernel_rfl) rfl (fun q hq w h => Flat.inner _ _) (fun q hq b hb => (Flat.on _ _ hb).elim) rfl rfl) (wanted_none rfl _) ?_; clear h23
   rintro a26 w26 ⟨v26, h26⟩; clear h25
   refine wl_ex (x_app (r := 2) (rm := 0) (s := (⟨vo, ol⟩ : Ls Int)) (m := (⟨v26, [((i : Nat) : Int)]⟩ : Ls Int)) h26 sl_24 ti_3 rfl rfl rfl rfl rfl rfl rfl (fun w h => (h.own 0 rfl)) (fun b hb => own_on (h26.sh.ok _ (List.mem_of_getElem? (i := 0) rfl)) hb) (fun q hq b hb => ⟨q, hq, hb⟩) rfl rfl rfl inferInstance (show (ol.length + ([((i : Nat) : Int)]).length) * 8 ≤ 140737488355328 ∧ ol.length + ([((i : Nat) : Int)]).length ≤ 140737488355328 from (by first | omega | (simp only [lens9]; omega))) rfl rfl) (wanted_none rfl _) ?_
   rintro a27 w27 ⟨v27, h27⟩; clear h26
   refine wms 1 h27 rfl fun a28 h28 => wpList_nil <| hK17 _ _ <| wp_region_lit <| wv h28 (r_addN (p := i) (q := 1) rfl rfl rfl (show i + 1 < 9223372036854775808 from (by omega))) rfl rfl fun a29 h29 => wms 1 h29 rfl fun a30 h30 => wpList_nil <| x_again ⟨_, ?_, i + 1, ol ++ ([((i : Nat) : Int)]), v27, ?_, ?_, ?_, h30.nrm ⟨rfl, rfl, rfl, trivial⟩ [1, 2] (by decide) ⟨rfl, rfl, trivial⟩, rfl⟩; clear h27 h28 h29
   · rw [hm11]; first | omega | (simp only [lens9]; omega)
   · omega
   · rw [listTo_succ, ← hol]; first | rw [if_pos (by assumption)] | rw [if_neg (by first | assumption | simp_all), List.append_nil]
   · first | omega | (simp; omega)
  refine wp_skip <| hK17 _ _ <| wp_region_lit <| wv h23 (r_addN (p := i) (q := 1) rfl rfl rfl (show i + 1 < 9223372036854775808 from (by omega))) rfl rfl fun a31 h31 => wms 1 h31 rfl fun a32 h32 => wpList_nil <| x_again ⟨_, ?_, i + 1, ol, vo, ?_, ?_, ?_, h32.nrm ⟨rfl, rfl, rfl, trivial⟩ [0, 1] (by decide) ⟨rfl, rfl, trivial⟩, rfl⟩; clear h23 h31
  · rw [hm11]; first | omega | (simp only [lens9]; omega)
  · omega
  · rw [listTo_succ, ← hol]; first | rw [if_pos (by assumption)] | rw [if_neg (by first | assumption | simp_all), List.append_nil]
  · first | omega | (simp; omega)
 have hp16 : ¬ (i < 200) := of_decide_eq_false hb16
 refine wp_exit <| hK7 _ _ <| wp_seq_k fun K33 hK33 => wp_region_lit <| wms 2 h14 rfl fun a34 h34 => wpList_nil <| hK33 _ _ <| wp_ret ?_; clear h14
 try simp only [Exit.then, Exit.inBlock]
 refine x_ret1 (fn := Try.f79) (t := 2) rfl h34 rfl <| ⟨⟨vo, ol⟩, rfl, ?_, (h34.sh.sel (L' := [.own 3 (⟨vo, ol⟩ : Ls Int)]) [1] (by decide) ⟨rfl, trivial⟩)⟩
 show ol = _
 rw [hol, listB]; unfold listTo; rw [show i = l.length by omega]

end Go.Proofs.Ytanhbpofhebbaaa
