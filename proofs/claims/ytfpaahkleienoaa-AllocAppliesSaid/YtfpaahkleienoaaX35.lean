/-
  Contracts of functions of this program and of the references, each walked once.
-/
import Derived.Test.YtfpaahkleienoaaX33
namespace Go.Proofs.Ytfpaahkleienoaa
open Go.RowKit
set_option linter.unusedSimpArgs false
set_option linter.unusedVariables false


theorem fit114 {p : Pg} {size : Int} {x : Ins} {k : Nat} (h : okNumG p size x k = true) (hk : kAt (kindsB x.op) k = 114) : 0 ≤ x.num k ∧ x.num k < p.regs := by
  unfold okNumG at h
  unfold kAt at hk
  split at h
  · rename_i hlt
    rw [dif_pos hlt] at hk
    rw [hk] at h
    unfold fitsG at h
    simp only [Int.reduceEq, if_false, if_true, Bool.and_eq_true, decide_eq_true_eq] at h
    exact h
  · rename_i hlt
    rw [dif_neg hlt] at hk
    cases hk
theorem kAt_a (op : Int) (h : 1 ≤ op ∧ op ≤ 18) (h2 : op ≤ 8 ∨ op = 10) (h3 : op ≠ 9) : kAt (kindsB op) 0 = 114 := by
  rcases cases18 op h with h | h | h | h | h | h | h | h | h | h | h | h | h | h | h | h | h | h <;> subst h <;> first | decide +kernel | (exfalso; omega)
theorem kAt_b : kAt (kindsB 13) 1 = 114 := by decide +kernel
theorem okV_ins {p : Pg} {size : Int} {x : Ins} (hr : 1 ≤ p.regs) (h : OkIns p size x) : (1 ≤ x.op ∧ x.op ≤ 18) ∧ (x.op ≤ 8 ∨ x.op = 10 → 0 ≤ x.a) ∧ (-1 ≤ wrG x ∧ wrG x < p.regs) ∧ ∀ v ∈ rdG x, 0 ≤ v ∧ v < p.regs := by
  have ha : x.op ≤ 8 ∨ x.op = 10 → 0 ≤ x.a ∧ x.a < p.regs := fun e => fit114 (k := 0) h.n0 (kAt_a _ h.op e (by omega))
  refine ⟨h.op, fun e => (ha e).1, ?_, fun v hv => ?_⟩
  · unfold wrG
    split
    · rename_i e
      have := fit114 (k := 1) h.n1 (by rw [e]; exact kAt_b)
      have e2 : x.num 1 = x.b := rfl
      omega
    · split
      · rename_i e; have := ha (by omega); omega
      · omega
  · rw [← rdTo_all x h.op fun e => (ha e).1] at hv
    unfold rdTo at hv
    obtain ⟨k, hk, hv⟩ := List.mem_flatMap.1 hv
    split at hv
    · rename_i hd
      have hv : v = nth [x.a, x.b, x.c] k := by simpa using hv
      subst hv
      have hk3 : k < 3 := by have := (kinds_small x.op).1; have := List.mem_range.1 hk; omega
      unfold rdK at hd
      have hd := of_decide_eq_true ((Bool.and_eq_true _ _).mp hd).1
      rcases (by omega : k = 0 ∨ k = 1 ∨ k = 2) with rfl | rfl | rfl
      · exact fit114 (k := 0) h.n0 hd
      · exact fit114 (k := 1) h.n1 hd
      · exact fit114 (k := 2) h.n2 hd
    · cases hv
theorem okV_of {code : Ls (Ls Ins)} {words : Ls Int} {locks regs : Int} (h : OkPg (pgOf code words locks regs)) (t : Nat) (ht : t < code.l.length) : OkV (nth code.l t).l regs := by
  intro i hi
  have ht2 : t < (pgOf code words locks regs).code.length := by show t < (code.l.map (·.l)).length; simpa using ht
  have e : nth (pgOf code words locks regs).code t = (nth code.l t).l := nth_map' _ _ _ ht
  have := okV_ins h.regs.1 (h.ins t i ht2 (by rw [e]; exact hi))
  rw [e] at this
  exact this

set_option maxRecDepth 100000 in
set_option maxHeartbeats 4000000 in
theorem sets_c (x : Ls Ins) (rg : Int) (f : Nat → Nat → Bool) (W : World) (hx : x.At W) (hl : x.l.length ≤ 5000) (hj : JumpsOK x.l) (hok : OkV x.l rg) (hf : ∀ r j, (f r j = true ↔ LiveI x.l r j)) (hrg : 0 ≤ rg ∧ rg ≤ 200) :
    Rets Try.prog 68 [x.v] W (fun v w' => ∃ s : Ls BArr, v = s.v ∧ s.l = liveA f x.l.length ∧ Sh0 W w' [.own 101 s]) := by
 refine x_enter (N := 85) Try.func68 rfl Try.ntmps68 (Nat.le_of_ble_eq_true rfl) fun a1 hf1 => ?_
 have h1 : St 85 (fun _ => False) W a1 W [(0, x.v)] [.at_ x] := ⟨hf1.sub ⟨rfl, trivial⟩, Sh0.ext1 hx⟩
 clear hf1
 refine wp_seq_k fun K2 hK2 => wp_region_lit <| wms 1 h1 rfl fun a3 h3 => wpList_nil <| hK2 _ _ <| wp_seq_k fun K4 hK4 => wp_region_lit <| wms 1 h3 rfl fun a5 h5 => ?_; clear h1 h3
 have hl6 : x.l.length ≤ 140737488355328 := (h5.sh.at 0 rfl).len
 refine wv h5 (r_len (s := x) (n := x.l.length) sl_33 rfl rfl (fun w h => (h.at 0 rfl)) rfl) rfl rfl fun a7 h7 => wv h7 (r_addN (p := x.l.length) (q := 1) rfl rfl rfl (show x.l.length + 1 < 9223372036854775808 from (by omega))) rfl rfl fun a8 h8 => wl_ex (x_makeAr (n := x.l.length + 1) h8 sl_98 ti_101 (by kernel_rfl) rfl rfl rfl (show 200 * (x.l.length + 1) ≤ 140737488355328 ∧ x.l.length + 1 ≤ 140737488355328 from (by omega)) rfl rfl) (wanted_none rfl _) ?_; clear h5 h7
 rintro a9 w9 ⟨v9, h9⟩; clear h8
 refine wms 1 h9 rfl fun a10 h10 => wpList_nil <| hK4 _ _ <| wp_seq_k fun K11 hK11 => wp_seq_k fun K12 hK12 => wp_region_lit <| wms 1 h10 rfl fun a13 h13 => wpList_nil <| hK12 _ _ <| wp_block <| x_loop (fun m a w => ∃ (a1 : List BArr) (ag : Bool), (AI x.l a1) ∧ (ag = false → ∀ i, i < x.l.length → ClA x.l a1 i) ∧ St 85 (fun _ => False) W a w [(0, x.v), (3, v9), (4, .bool ag)] [.own 101 (⟨v9, a1⟩ : Ls BArr), .at_ x] ∧ m = (bif ag then 1 else 0) + 2 * (200 * (x.l.length + 1) - cntA a1)) ⟨_, List.replicate (x.l.length + 1) ⟨List.replicate 200 false⟩, true, (AI.start x.l), (fun h => by cases h), h13.nrm ⟨rfl, rfl, rfl, trivial⟩ [0, 1] (by decide) ⟨rfl, rfl, trivial⟩, rfl⟩ ?_; clear h9 h10
 clear h13
 rintro m14 a14 w14 ⟨a1, ag, hai, hcl, h14, hm14⟩
 have hd1 := hai.l1
 refine wp_seq_k fun K15 hK15 => wp_seq_k fun K16 hK16 => wp_region_lit <| wms 1 h14 rfl fun a17 h17 => wpList_nil <| hK16 _ _ <| x_cond h17 rfl (fun hb18 => ?_) (fun hb18 => ?_); clear h14
 ·skip
  refine wp_skip <| hK15 _ _ <| wp_block <| wp_seq_k fun K19 hK19 => wp_region_lit <| wms 1 h17 rfl fun a20 h20 => wpList_nil <| hK19 _ _ <| wp_seq_k fun K21 hK21 => wp_region_lit <| wms 1 h20 rfl fun a22 h22 => wv h22 (r_len (s := x) (n := x.l.length) sl_33 rfl rfl (fun w h => (h.at 1 rfl)) rfl) rfl rfl fun a23 h23 => wv h23 (r_subI (p := ((x.l.length : Nat) : Int)) (q := 1) rfl rfl rfl (show -9223372036854775808 ≤ ((x.l.length : Nat) : Int) - 1 ∧ ((x.l.length : Nat) : Int) - 1 < 9223372036854775808 from (by omega))) rfl rfl fun a24 h24 => wms 1 h24 rfl fun a25 h25 => ?_; clear h17 h20 h22 h23 h24
  refine wpList_nil <| hK21 _ _ <| wp_block <| x_loop (fun m a w => ∃ (k : Nat) (a2 : List BArr) (ag2 : Bool), (k ≤ x.l.length) ∧ (AI x.l a2) ∧ (ag2 = false → a2 = a1 ∧ ∀ i, k ≤ i → i < x.l.length → ClA x.l a2 i) ∧ (ag2 = true → cntA a1 < cntA a2) ∧ St 85 (fun _ => False) W a w [(0, x.v), (3, v9), (4, .bool ag2), (5, .int .i64 (((k : Nat) : Int) - 1))] [.own 101 (⟨v9, a2⟩ : Ls BArr), .at_ x] ∧ m = k) ⟨_, x.l.length, a1, false, (by omega), (hai), (fun _ => ⟨rfl, fun i hi hi2 => absurd hi (by omega)⟩), (fun h => by cases h), h25.nrm ⟨rfl, rfl, rfl, rfl, trivial⟩ [0, 1] (by decide) ⟨rfl, rfl, trivial⟩, rfl⟩ ?_
  clear h25
  rintro m26 a26 w26 ⟨k, a2, ag2, hk, hai2, h20, h21, h26, hm26⟩
  have hd3 := hai2.l1
  refine wp_seq_k fun K27 hK27 => wp_seq_k fun K28 hK28 => wp_region_lit <| wms 1 h26 rfl fun a29 h29 => wv h29 (r_geqI (p := ((k : Nat) : Int) - 1) (q := 0) rfl rfl rfl) rfl rfl fun a30 h30 => wpList_nil <| hK28 _ _ <| x_cond h30 rfl (fun hb31 => ?_) (fun hb31 => ?_); clear h26 h29
  ·have hp31 : 0 ≤ ((k : Nat) : Int) - 1 := of_decide_eq_true hb31
   obtain ⟨j, rfl⟩ : ∃ j, k = j + 1 := ⟨k - 1, by omega⟩
   have h32 : St 85 (fun _ => False) W a30 w26 [(0, x.v), (3, v9), (4, .bool ag2), (5, .int .i64 ((j : Nat) : Int)), (22, .int .i64 ((j : Nat) : Int))] [.own 101 (⟨v9, a2⟩ : Ls BArr), .at_ x] := (h30.sub (F' := [(0, x.v), (3, v9), (4, .bool ag2), (5, .int .i64 (((j + 1 : Nat) : Int) - 1)), (22, .int .i64 (((j + 1 : Nat) : Int) - 1))]) ⟨rfl, rfl, rfl, rfl, rfl, trivial⟩).cg (by simp only [show (((j + 1 : Nat) : Int) - 1) = ((j : Nat) : Int) by omega])
   clear h30
   refine wp_skip <| hK27 _ _ <| wp_seq_k fun K33 hK33 => wp_block <| wp_seq_k fun K34 hK34 => wp_region_lit <| wl_ex (x_allocAr (k := 200) h32 ti_101 (by kernel_rfl) rfl rfl rfl) (wanted_none rfl _) ?_
   rintro a35 w35 ⟨b35, h35⟩; clear h32
   refine wpList_nil <| hK34 _ _ <| wp_seq_k fun K36 hK36 => wp_seq_k fun K37 hK37 => wp_region_lit <| wms 2 h35 rfl fun a38 h38 => wl_ex (x_call h38 bd_96 rfl rfl rfl rfl rfl (nexts_c x j _ (h38.sh.at 2 rfl) (by omega) (by omega))) (wanted_none rfl _) ?_; clear h35
   rintro a39 w39 ⟨_, ⟨s39, rfl, hs39⟩, hf39⟩
   have h39 := (⟨hf39, h38.sh.call hs39 (by intro A hA b hb; first | (simp at hA; done) | (simp at hA; subst hA; first | exact Flat.noRd hb | exact (hb : False).elim) | (simp at hA; rcases hA with rfl | rfl <;> first | exact Flat.noRd hb | exact (hb : False).elim))⟩ : St 85 (fun _ => False) W a39 w39 _ _)
   clear hf39 hs39
   clear h38
   have hl40 : (nextsL x.l j).length ≤ 140737488355328 := (h39.sh.own 0 rfl).len
   refine wv h39 (r_len (s := (⟨s39.v, nextsL x.l j⟩ : Ls Int)) (n := (nextsL x.l j).length) sl_23 rfl rfl (fun w h => (h.own 0 rfl)) rfl) rfl rfl fun a41 h41 => wms 1 h41 rfl fun a42 h42 => wpList_nil <| hK37 _ _ <| wp_block ?_; clear h39 h41
   have hnl9 := nextsV_len x.l j
   refine x_loop (fun m a w => ∃ (q : Nat) (nw : List Bool), (q ≤ (nextsL x.l j).length) ∧ (nw.length = 200) ∧ (∀ b, b < 200 → nth nw b = ((nextsL x.l j).take q).any fun y => col a2 b y.toNat) ∧ St 85 (fun _ => False) W a w [(0, x.v), (3, v9), (4, .bool ag2), (5, .int .i64 ((j : Nat) : Int)), (6, .pointer (some ⟨b35, 0, none⟩)), (28, s39.v), (29, .int .i64 (((nextsL x.l j).length : Nat) : Int)), (30, .int .i64 ((q : Nat) : Int))] [.own 3 (⟨s39.v, nextsL x.l j⟩ : Ls Int), .blk b35 101 (nw.map Value.bool), .own 101 (⟨v9, a2⟩ : Ls BArr), .at_ x] ∧ m = (nextsL x.l j).length - q) ⟨_, 0, List.replicate 200 false, (by omega), (List.length_replicate), (fun b _ => by rw [zerosV, any_zero]), h42.nrm ⟨rfl, rfl, rfl, rfl, rfl, rfl, rfl, rfl, trivial⟩ [0, 1, 2, 3] (by decide) ⟨rfl, rfl, rfl, rfl, trivial⟩, rfl⟩ ?_
   clear h42
   rintro m43 a43 w43 ⟨q, nw, hq, hnl, hnw, h43, hm43⟩
   refine wp_seq_k fun K44 hK44 => wp_region_lit <| wv h43 (r_lssN (p := q) (q := (nextsL x.l j).length) rfl rfl rfl) rfl rfl fun a45 h45 => wpList_nil <| hK44 _ _ <| wp_seq_k fun K46 hK46 => x_cond h45 rfl (fun hb47 => ?_) (fun hb47 => ?_); clear h43
   ·have hp47 : q < (nextsL x.l j).length := of_decide_eq_true hb47
    refine wp_skip <| hK46 _ _ <| wp_seq_k fun K48 hK48 => wp_block <| wp_seq_k fun K49 hK49 => wp_region_lit <| wv h45 (r_ixN (s := (⟨s39.v, nextsL x.l j⟩ : Ls Int)) (q := q) sl_23 ti_3 rfl rfl rfl (fun w h => (h.own 0 rfl)) (show q < (nextsL x.l j).length from (by omega))) rfl rfl fun a50 h50 => wv h50 (r_lde (s := (⟨s39.v, nextsL x.l j⟩ : Ls Int)) (i := q) (v := .int .i64 (nth (nextsL x.l j) q)) ti_3 rfl rfl rfl (fun w h => (h.own 0 rfl)) (show q < (nextsL x.l j).length from (by omega)) (Nat.le_of_ble_eq_true rfl) rfl) rfl rfl fun a51 h51 => wms 1 h51 rfl fun a52 h52 => wpList_nil <| hK49 _ _ ?_; clear h45 h50 h51
    have hmm : nth (nextsL x.l j) q ∈ nextsL x.l j := nth_mem _ _ (by omega)
    have hnx := nextsV_ok hj (by omega) hmm
    have hA2 : (nth a2 (nth (nextsL x.l j) q).toNat).l.length = 200 := hai2.l2 _ (by omega)
    refine wp_seq_k fun K53 hK53 => wp_region_lit <| wms 2 h52 rfl fun a54 h54 => ?_; clear h52
    have hl55 : a2.length ≤ 140737488355328 := (h54.sh.own 2 rfl).len
    refine wv h54 (r_ixI (s := (⟨v9, a2⟩ : Ls BArr)) (q := nth (nextsL x.l j) q) sl_98 ti_101 rfl rfl rfl (fun w h => (h.own 2 rfl)) (show 0 ≤ nth (nextsL x.l j) q ∧ nth (nextsL x.l j) q < a2.length from (by omega))) rfl rfl fun a56 h56 => wv h56 (r_ldewAr (n := 0) (i := (nth (nextsL x.l j) q).toNat) (s := (⟨v9, a2⟩ : Ls BArr)) ti_101 rfl rfl (fun w h => (h.own 2 rfl)) (show (nth (nextsL x.l j) q).toNat < a2.length from (by omega))) rfl rfl fun a57 h57 => wms 1 h57 rfl fun a58 h58 => wpList_nil <| hK53 _ _ <| wp_block <| x_loop (fun m a w => ∃ (r : Nat) (nw2 : List Bool), (r ≤ 200) ∧ (nw2.length = 200) ∧ (∀ b, b < 200 → nth nw2 b = (nth nw b || (decide (b < r) && nth (nth a2 (nth (nextsL x.l j) q).toNat).l b))) ∧ St 85 (fun _ => False) W a w [(0, x.v), (3, v9), (4, .bool ag2), (5, .int .i64 ((j : Nat) : Int)), (6, .pointer (some ⟨b35, 0, none⟩)), (28, s39.v), (29, .int .i64 (((nextsL x.l j).length : Nat) : Int)), (30, .int .i64 ((q : Nat) : Int)), (37, .agg (((nth a2 ((nth (nextsL x.l j) q).toNat)).l).map Value.bool).toArray), (38, .int .i64 ((r : Nat) : Int))] [.own 3 (⟨s39.v, nextsL x.l j⟩ : Ls Int), .blk b35 101 (nw2.map Value.bool), .own 101 (⟨v9, a2⟩ : Ls BArr), .at_ x] ∧ m = 200 - r) ⟨_, 0, nw, (by omega), (hnl), (or_zero), h58.nrm ⟨rfl, rfl, rfl, rfl, rfl, rfl, rfl, rfl, rfl, rfl, trivial⟩ [0, 1, 2, 3] (by decide) ⟨rfl, rfl, rfl, rfl, trivial⟩, rfl⟩ ?_; clear h54 h56 h57
    clear h58
    rintro m59 a59 w59 ⟨r, nw2, hr, hnl2, hnw2, h59, hm59⟩
    refine wp_seq_k fun K60 hK60 => wp_region_lit <| wv h59 (r_lssN (p := r) (q := 200) rfl rfl rfl) rfl rfl fun a61 h61 => wpList_nil <| hK60 _ _ <| wp_seq_k fun K62 hK62 => x_cond h61 rfl (fun hb63 => ?_) (fun hb63 => ?_); clear h59
    ·have hp63 : r < 200 := of_decide_eq_true hb63
     refine wp_skip <| hK62 _ _ <| wp_seq_k fun K64 hK64 => wp_block <| wp_seq_k fun K65 hK65 => wp_region_lit <| wms 1 h61 rfl fun a66 h66 => wv h66 (r_ixV (cs := ((nth a2 ((nth (nextsL x.l j) q).toNat)).l).map Value.bool) (q := r) ar_101 ti_4 rfl rfl rfl (show r < 200 from (by omega)) (nth_bool (by rw [show ((nth a2 ((nth (nextsL x.l j) q).toNat)).l).length = 200 from (by first | assumption | (simp only [lens9]; done) | (simp only [lens9]; first | assumption | omega) | rfl)]; omega))) rfl rfl fun a67 h67 => wms 2 h67 rfl fun a68 h68 => wpList_nil <| hK65 _ _ <| wp_region_lit <| wms 2 h68 rfl fun a69 h69 => wv h69 (r_ixAr (q := r) ar_101 ti_4 rfl rfl rfl rfl (show r < 200 from (by omega))) rfl rfl fun a70 h70 => ?_; clear h61 h66 h67 h68 h69
     refine wv h70 (r_ldAr (i := 1) (l := nw2) ti_4 rfl rfl rfl (show r < nw2.length from (by rw [show nw2.length = 200 from (by first | assumption | (simp only [lens9]; done) | (simp only [lens9]; first | assumption | omega) | rfl)]; omega))) rfl rfl fun a71 h71 => wms 1 h71 rfl fun a72 h72 => ?_; clear h70 h71
     rcases Bool.eq_false_or_eq_true (nth nw2 r) with hb73 | hb73
     ·skip
      refine wl_skip h72 (wanted_no h72.fr rfl rfl rfl rfl hb73) rfl rfl fun a74 h74 => wv h74 (r_pickT rfl rfl hb73 rfl) rfl rfl fun a75 h75 => wv h75 (r_ixAr (q := r) ar_101 ti_4 rfl rfl rfl rfl (show r < 200 from (by omega))) rfl rfl fun a76 h76 => wl_ex (x_stAr (i := 1) (l := nw2) (b := true) h76 ti_4 rfl rfl rfl rfl rfl (show r < nw2.length from (by rw [show nw2.length = 200 from (by first | assumption | (simp only [lens9]; done) | (simp only [lens9]; first | assumption | omega) | rfl)]; omega))) (wanted_none rfl _) ?_; clear h72 h74 h75
      rintro a77 w77 h77
      clear h76
      refine wpList_nil <| hK64 _ _ <| wp_region_lit <| wv h77 (r_addN (p := r) (q := 1) rfl rfl rfl (show r + 1 < 9223372036854775808 from (by omega))) rfl rfl fun a78 h78 => wms 1 h78 rfl fun a79 h79 => wpList_nil <| x_again ⟨_, ?_, r + 1, nw2.set r true, ?_, ?_, ?_, h79.nrm ⟨rfl, rfl, rfl, rfl, rfl, rfl, rfl, rfl, rfl, rfl, trivial⟩ [0, 1, 2, 3] (by decide) ⟨rfl, rfl, rfl, rfl, trivial⟩, rfl⟩; clear h77 h78
      · rw [hm59]; first | omega | (simp only [lens9]; omega)
      · omega
      · first | assumption | (simp only [List.length_set]; assumption)
      · first | exact or_step hnl2 (by omega) hnw2 (by rw [show nth nw2 r = true by assumption]; rfl) | exact or_step hnl2 (by omega) hnw2 (by rw [show nth nw2 r = false by assumption]; rfl)
     refine wl_val h72 (r_move rfl rfl) (wanted_yes h72.fr rfl rfl rfl rfl hb73) rfl rfl fun a80 h80 => wv h80 (r_pickF rfl rfl hb73 rfl) rfl rfl fun a81 h81 => wv h81 (r_ixAr (q := r) ar_101 ti_4 rfl rfl rfl rfl (show r < 200 from (by omega))) rfl rfl fun a82 h82 => wl_ex (x_stAr (i := 1) (l := nw2) (b := (nth ((nth a2 ((nth (nextsL x.l j) q).toNat)).l) r)) h82 ti_4 rfl rfl rfl rfl rfl (show r < nw2.length from (by rw [show nw2.length = 200 from (by first | assumption | (simp only [lens9]; done) | (simp only [lens9]; first | assumption | omega) | rfl)]; omega))) (wanted_none rfl _) ?_; clear h72 h80 h81
     rintro a83 w83 h83
     clear h82
     refine wpList_nil <| hK64 _ _ <| wp_region_lit <| wv h83 (r_addN (p := r) (q := 1) rfl rfl rfl (show r + 1 < 9223372036854775808 from (by omega))) rfl rfl fun a84 h84 => wms 1 h84 rfl fun a85 h85 => wpList_nil <| x_again ⟨_, ?_, r + 1, nw2.set r (nth ((nth a2 ((nth (nextsL x.l j) q).toNat)).l) r), ?_, ?_, ?_, h85.nrm ⟨rfl, rfl, rfl, rfl, rfl, rfl, rfl, rfl, rfl, rfl, trivial⟩ [0, 1, 2, 3] (by decide) ⟨rfl, rfl, rfl, rfl, trivial⟩, rfl⟩; clear h83 h84
     · rw [hm59]; first | omega | (simp only [lens9]; omega)
     · omega
     · first | assumption | (simp only [List.length_set]; assumption)
     · first | exact or_step hnl2 (by omega) hnw2 (by rw [show nth nw2 r = true by assumption]; rfl) | exact or_step hnl2 (by omega) hnw2 (by rw [show nth nw2 r = false by assumption]; rfl)
    have hp63 : ¬ (r < 200) := of_decide_eq_false hb63
    refine wp_exit <| hK48 _ _ <| wp_region_lit <| wv h61 (r_addN (p := q) (q := 1) rfl rfl rfl (show q + 1 < 9223372036854775808 from (by omega))) rfl rfl fun a86 h86 => wms 1 h86 rfl fun a87 h87 => wpList_nil <| x_again ⟨_, ?_, q + 1, nw2, ?_, ?_, ?_, h87.nrm ⟨rfl, rfl, rfl, rfl, rfl, rfl, rfl, rfl, trivial⟩ [0, 1, 2, 3] (by decide) ⟨rfl, rfl, rfl, rfl, trivial⟩, rfl⟩; clear h61 h86
    · rw [hm43]; first | omega | (simp only [lens9]; omega)
    · omega
    · exact hnl2
    · exact or_end (by omega) (by omega) hnw hnw2
   have hp47 : ¬ (q < (nextsL x.l j).length) := of_decide_eq_false hb47
   refine wp_exit <| hK36 _ _ ?_
   have hww := (hok j (by omega)).2.2.1
   refine wp_seq_k fun K88 hK88 => wp_seq_k fun K89 hK89 => wp_region_lit <| wms 2 h45 rfl fun a90 h90 => wv h90 (r_ixN (s := x) (q := j) sl_33 ti_32 rfl rfl rfl (fun w h => (h.at 3 rfl)) (show j < x.l.length from (by omega))) rfl rfl fun a91 h91 => wv h91 (r_ldew (s := x) (i := j) (vs := [.int .i64 ((nth x.l j).op), .int .i64 ((nth x.l j).a), .int .i64 ((nth x.l j).b), .int .i64 ((nth x.l j).c)]) ti_32 rfl rfl rfl (fun w h => (h.at 3 rfl)) (show j < x.l.length from (by omega)) (Nat.le_of_ble_eq_true rfl) rfl) rfl rfl fun a92 h92 => wl_ex (x_call h92 bd_100 rfl rfl rfl rfl rfl (writes_c (nth x.l j) _ (by have h8 := (hok j (by omega)).1; omega))) (wanted_none rfl _) ?_; clear h45 h90 h91
   rintro a93 w93 ⟨_, ⟨rfl, hs93⟩, hf93⟩
   have h93 : St 85 (fun _ => False) W a93 w93 _ _ := ⟨hf93, h92.sh.call0 hs93⟩
   clear hf93 hs93
   clear h92
   refine wms 1 h93 rfl fun a94 h94 => wpList_nil <| hK89 _ _ <| wp_seq_k fun K95 hK95 => wp_region_lit <| wms 1 h94 rfl fun a96 h96 => wv h96 (r_geqI (p := wrG (nth x.l j)) (q := 0) rfl rfl rfl) rfl rfl fun a97 h97 => wpList_nil <| hK95 _ _ <| x_cond h97 rfl (fun hb98 => ?_) (fun hb98 => ?_); clear h93 h94 h96
   ·have hp98 : 0 ≤ wrG (nth x.l j) := of_decide_eq_true hb98
    refine wp_region_lit <| wms 1 h97 rfl fun a99 h99 => wv h99 (r_ixArI (q := wrG (nth x.l j)) ar_101 ti_4 rfl rfl rfl rfl (show 0 ≤ wrG (nth x.l j) ∧ wrG (nth x.l j) < 200 from (by omega))) rfl rfl fun a100 h100 => wl_ex (x_stAr (i := 1) (l := nw) (b := false) h100 ti_4 rfl rfl rfl rfl rfl (show (wrG (nth x.l j)).toNat < nw.length from (by rw [show nw.length = 200 from (by first | assumption | (simp only [lens9]; done) | (simp only [lens9]; first | assumption | omega) | rfl)]; omega))) (wanted_none rfl _) ?_; clear h97 h99
    rintro a101 w101 h101
    clear h100
    refine wpList_nil <| hK88 _ _ <| wp_seq_k fun K102 hK102 => wp_seq_k fun K103 hK103 => wp_region_lit <| wms 2 h101 rfl fun a104 h104 => wv h104 (r_ixN (s := x) (q := j) sl_33 ti_32 rfl rfl rfl (fun w h => (h.at 3 rfl)) (show j < x.l.length from (by omega))) rfl rfl fun a105 h105 => wv h105 (r_ldew (s := x) (i := j) (vs := [.int .i64 ((nth x.l j).op), .int .i64 ((nth x.l j).a), .int .i64 ((nth x.l j).b), .int .i64 ((nth x.l j).c)]) ti_32 rfl rfl rfl (fun w h => (h.at 3 rfl)) (show j < x.l.length from (by omega)) (Nat.le_of_ble_eq_true rfl) rfl) rfl rfl fun a106 h106 => wl_ex (x_call h106 bd_105 rfl rfl rfl rfl rfl (reads_ls (reads_c (nth x.l j) _ (by have h8 := (hok j (by omega)).1; omega) (hok j (by omega)).2.1))) (wanted_none rfl _) ?_; clear h101 h104 h105
    rintro a107 w107 ⟨_, ⟨s107, rfl, hs107⟩, hf107⟩
    have h107 := (⟨hf107, h106.sh.call hs107 (by intro A hA b hb; first | (simp at hA; done) | (simp at hA; subst hA; first | exact Flat.noRd hb | exact (hb : False).elim) | (simp at hA; rcases hA with rfl | rfl <;> first | exact Flat.noRd hb | exact (hb : False).elim))⟩ : St 85 (fun _ => False) W a107 w107 _ _)
    clear hf107 hs107
    clear h106
    have hl108 : (rdG (nth x.l j)).length ≤ 140737488355328 := (h107.sh.own 0 rfl).len
    refine wv h107 (r_len (s := (⟨s107.v, rdG (nth x.l j)⟩ : Ls Int)) (n := (rdG (nth x.l j)).length) sl_23 rfl rfl (fun w h => (h.own 0 rfl)) rfl) rfl rfl fun a109 h109 => wms 1 h109 rfl fun a110 h110 => wpList_nil <| hK103 _ _ <| wp_block ?_; clear h107 h109
    have hrl := rdG_len (nth x.l j)
    have hall : ∀ b, b < 200 → nth nw b = (nextsL x.l j).any fun y => col a2 b y.toNat := fun b hb => by rw [hnw b hb, any_all (by omega)]
    refine x_loop (fun m a w => ∃ (q5 : Nat) (nw3 : List Bool), (q5 ≤ (rdG (nth x.l j)).length) ∧ (nw3.length = 200) ∧ (∀ b, b < 200 → nth nw3 b = ((decide (wrG (nth x.l j) ≠ (b : Int)) && (nextsL x.l j).any fun y => col a2 b y.toNat) || ((rdG (nth x.l j)).take q5).any fun v => decide (v = (b : Int)))) ∧ St 85 (fun _ => False) W a w [(0, x.v), (3, v9), (4, .bool ag2), (5, .int .i64 ((j : Nat) : Int)), (6, .pointer (some ⟨b35, 0, none⟩)), (65, s107.v), (66, .int .i64 (((rdG (nth x.l j)).length : Nat) : Int)), (67, .int .i64 ((q5 : Nat) : Int))] [.own 3 (⟨s107.v, rdG (nth x.l j)⟩ : Ls Int), .own 3 (⟨s39.v, nextsL x.l j⟩ : Ls Int), .blk b35 101 (nw3.map Value.bool), .own 101 (⟨v9, a2⟩ : Ls BArr), .at_ x] ∧ m = (rdG (nth x.l j)).length - q5) ⟨_, 0, nw.set ((wrG (nth x.l j)).toNat) false, (by omega), (by first | assumption | (simp only [List.length_set]; assumption)), (by first | exact wr_off hnl hall (by assumption) | exact wr_none hall (by assumption)), h110.nrm ⟨rfl, rfl, rfl, rfl, rfl, rfl, rfl, rfl, trivial⟩ [0, 1, 2, 3, 4] (by decide) ⟨rfl, rfl, rfl, rfl, rfl, trivial⟩, rfl⟩ ?_
    clear h110
    rintro m111 a111 w111 ⟨q5, nw3, hq5, hnl3, hnw3, h111, hm111⟩
    refine wp_seq_k fun K112 hK112 => wp_region_lit <| wv h111 (r_lssN (p := q5) (q := (rdG (nth x.l j)).length) rfl rfl rfl) rfl rfl fun a113 h113 => wpList_nil <| hK112 _ _ <| wp_seq_k fun K114 hK114 => x_cond h113 rfl (fun hb115 => ?_) (fun hb115 => ?_); clear h111
    ·have hp115 : q5 < (rdG (nth x.l j)).length := of_decide_eq_true hb115
     refine wp_skip <| hK114 _ _ <| wp_seq_k fun K116 hK116 => wp_block <| wp_seq_k fun K117 hK117 => wp_region_lit <| wv h113 (r_ixN (s := (⟨s107.v, rdG (nth x.l j)⟩ : Ls Int)) (q := q5) sl_23 ti_3 rfl rfl rfl (fun w h => (h.own 0 rfl)) (show q5 < (rdG (nth x.l j)).length from (by omega))) rfl rfl fun a118 h118 => wv h118 (r_lde (s := (⟨s107.v, rdG (nth x.l j)⟩ : Ls Int)) (i := q5) (v := .int .i64 (nth (rdG (nth x.l j)) q5)) ti_3 rfl rfl rfl (fun w h => (h.own 0 rfl)) (show q5 < (rdG (nth x.l j)).length from (by omega)) (Nat.le_of_ble_eq_true rfl) rfl) rfl rfl fun a119 h119 => wms 1 h119 rfl fun a120 h120 => wpList_nil <| hK117 _ _ ?_; clear h113 h118 h119
     have hr5 := (hok j (by omega)).2.2.2 _ (nth_mem (rdG (nth x.l j)) q5 (by omega))
     refine wp_region_lit <| wms 1 h120 rfl fun a121 h121 => wv h121 (r_ixArI (q := nth (rdG (nth x.l j)) q5) ar_101 ti_4 rfl rfl rfl rfl (show 0 ≤ nth (rdG (nth x.l j)) q5 ∧ nth (rdG (nth x.l j)) q5 < 200 from (by omega))) rfl rfl fun a122 h122 => wl_ex (x_stAr (i := 2) (l := nw3) (b := true) h122 ti_4 rfl rfl rfl rfl rfl (show (nth (rdG (nth x.l j)) q5).toNat < nw3.length from (by rw [show nw3.length = 200 from (by first | assumption | (simp only [lens9]; done) | (simp only [lens9]; first | assumption | omega) | rfl)]; omega))) (wanted_none rfl _) ?_; clear h120 h121
     rintro a123 w123 h123
     clear h122
     refine wpList_nil <| hK116 _ _ <| wp_region_lit <| wv h123 (r_addN (p := q5) (q := 1) rfl rfl rfl (show q5 + 1 < 9223372036854775808 from (by omega))) rfl rfl fun a124 h124 => wms 1 h124 rfl fun a125 h125 => wpList_nil <| x_again ⟨_, ?_, q5 + 1, nw3.set ((nth (rdG (nth x.l j)) q5).toNat) true, ?_, ?_, ?_, h125.nrm ⟨rfl, rfl, rfl, rfl, rfl, rfl, rfl, rfl, trivial⟩ [0, 1, 2, 3, 4] (by decide) ⟨rfl, rfl, rfl, rfl, rfl, trivial⟩, rfl⟩; clear h123 h124
     · rw [hm111]; first | omega | (simp only [lens9]; omega)
     · omega
     · first | assumption | (simp only [List.length_set]; assumption)
     · exact rd_step hnl3 (by omega) hr5.1 hnw3
    have hp115 : ¬ (q5 < (rdG (nth x.l j)).length) := of_decide_eq_false hb115
    refine wp_exit <| hK102 _ _ ?_
    have hnow : NowIs x.l a2 j nw3 := now_is (by omega) hnw3
    have hA3 : (nth a2 j).l.length = 200 := hai2.l2 _ (by omega)
    refine wp_seq_k fun K126 hK126 => x_quiet (by kernel_rfl) (by kernel_rfl) h113 fun Z127 hZ127 => ?_
    have hq127 := h113.fr
    refine wq_val hq127 (r_ldwAr (i := 2) (l := nw3) ti_101 rfl rfl rfl (by first | assumption | (simp only [lens9]; done) | (simp only [lens9]; first | assumption | omega) | rfl)) (wanted_none rfl _) rfl rfl fun a128 hq128 => wq_val hq128 (r_move rfl rfl) (wanted_none rfl _) rfl rfl fun a129 hq129 => wq_val hq129 (r_move rfl rfl) (wanted_none rfl _) rfl rfl fun a130 hq130 => ?_; clear hq127 hq128 hq129
    have hl131 : a2.length ≤ 140737488355328 := (h113.sh.own 3 rfl).len
    refine wq_val hq130 (r_ixN (s := (⟨v9, a2⟩ : Ls BArr)) (q := j) sl_98 ti_101 rfl rfl rfl (fun w h => (h.own 3 rfl)) (show j < a2.length from (by omega))) (wanted_none rfl _) rfl rfl fun a132 hq132 => wq_val hq132 (r_ldewAr (n := 0) (i := j) (s := (⟨v9, a2⟩ : Ls BArr)) ti_101 rfl rfl (fun w h => (h.own 3 rfl)) (show j < a2.length from (by omega))) (wanted_none rfl _) rfl rfl fun a133 hq133 => wq_val hq133 (r_neqAr (l := nw3) (m := ((nth a2 j).l)) ar_101 ti_4 Try.underlying4 (by kernel_rfl) rfl rfl rfl (by first | assumption | (simp only [lens9]; done) | (simp only [lens9]; first | assumption | omega) | rfl) (by first | assumption | (simp only [lens9]; done) | (simp only [lens9]; first | assumption | omega) | rfl)) (wanted_none rfl _) rfl rfl fun a134 hq134 => wpQuiet_nil (hZ127 _ fun w135 hw135 => ?_); clear hq130 hq132 hq133
    have h135 : St 85 (fun _ => False) W a134 w135 _ _ := ⟨hq134, hw135⟩
    clear hq134 hw135 h113
    refine hK126 _ _ <| x_cond h135 rfl (fun hb136 => ?_) (fun hb136 => ?_)
    ·have hp136 : nw3 ≠ ((nth a2 j).l) := of_decide_eq_true hb136
     refine wp_region_lit <| wms 2 h135 rfl fun a137 h137 => wv h137 (r_ldwAr (i := 2) (l := nw3) ti_101 rfl rfl rfl (by first | assumption | (simp only [lens9]; done) | (simp only [lens9]; first | assumption | omega) | rfl)) rfl rfl fun a138 h138 => wv h138 (r_ixN (s := (⟨v9, a2⟩ : Ls BArr)) (q := j) sl_98 ti_101 rfl rfl rfl (fun w h => (h.own 3 rfl)) (show j < a2.length from (by omega))) rfl rfl fun a139 h139 => wl_ex (x_stewAr (r := 3) (i := j) (s := (⟨v9, a2⟩ : Ls BArr)) (l := nw3) h139 ti_101 rfl rfl rfl rfl (show j < a2.length from (by omega)) (by first | assumption | (simp only [lens9]; done) | (simp only [lens9]; first | assumption | omega) | rfl) rfl) (wanted_none rfl _) ?_; clear h135 h137 h138
     rintro a140 w140 h140
     clear h139
     refine wms 1 h140 rfl fun a141 h141 => wpList_nil <| hK33 _ _ <| wp_region_lit <| wms 1 h141 rfl fun a142 h142 => wv h142 (r_subI (p := ((j : Nat) : Int)) (q := 1) rfl rfl rfl (show -9223372036854775808 ≤ ((j : Nat) : Int) - 1 ∧ ((j : Nat) : Int) - 1 < 9223372036854775808 from (by omega))) rfl rfl fun a143 h143 => wms 1 h143 rfl fun a144 h144 => wpList_nil <| x_again ⟨_, ?_, j, a2.set j ⟨nw3⟩, true, ?_, ?_, ?_, ?_, h144.nrm ⟨rfl, rfl, rfl, rfl, trivial⟩ [3, 4] (by decide) ⟨rfl, rfl, trivial⟩, rfl⟩; clear h140 h141 h142 h143
     · rw [hm26]; omega
     · omega
     · first | exact hai2 | exact hai2.set (by omega) hnl3 hnow
     · first | (intro h; cases h; done) | exact vr_same h20 (clA_same hnow (Classical.byContradiction fun h9 => absurd h9 (by assumption)))
     · first | exact h21 | (intro _; exact Nat.lt_of_le_of_lt (vr_le h20 (fun e => by rw [e]) h21) (hai2.grow (by omega) hnl3 hnow (by assumption)))
    have hp136 : ¬ (nw3 ≠ ((nth a2 j).l)) := of_decide_eq_false hb136
    refine wp_skip <| hK33 _ _ <| wp_region_lit <| wms 1 h135 rfl fun a145 h145 => wv h145 (r_subI (p := ((j : Nat) : Int)) (q := 1) rfl rfl rfl (show -9223372036854775808 ≤ ((j : Nat) : Int) - 1 ∧ ((j : Nat) : Int) - 1 < 9223372036854775808 from (by omega))) rfl rfl fun a146 h146 => wms 1 h146 rfl fun a147 h147 => wpList_nil <| x_again ⟨_, ?_, j, a2, ag2, ?_, ?_, ?_, ?_, h147.nrm ⟨rfl, rfl, rfl, rfl, trivial⟩ [3, 4] (by decide) ⟨rfl, rfl, trivial⟩, rfl⟩; clear h135 h145 h146
    · rw [hm26]; omega
    · omega
    · first | exact hai2 | exact hai2.set (by omega) hnl3 hnow
    · first | (intro h; cases h; done) | exact vr_same h20 (clA_same hnow (Classical.byContradiction fun h9 => absurd h9 (by assumption)))
    · first | exact h21 | (intro _; exact Nat.lt_of_le_of_lt (vr_le h20 (fun e => by rw [e]) h21) (hai2.grow (by omega) hnl3 hnow (by assumption)))
   have hp98 : ¬ (0 ≤ wrG (nth x.l j)) := of_decide_eq_false hb98
   refine wp_skip <| hK88 _ _ <| wp_seq_k fun K148 hK148 => wp_seq_k fun K149 hK149 => wp_region_lit <| wms 2 h97 rfl fun a150 h150 => wv h150 (r_ixN (s := x) (q := j) sl_33 ti_32 rfl rfl rfl (fun w h => (h.at 3 rfl)) (show j < x.l.length from (by omega))) rfl rfl fun a151 h151 => wv h151 (r_ldew (s := x) (i := j) (vs := [.int .i64 ((nth x.l j).op), .int .i64 ((nth x.l j).a), .int .i64 ((nth x.l j).b), .int .i64 ((nth x.l j).c)]) ti_32 rfl rfl rfl (fun w h => (h.at 3 rfl)) (show j < x.l.length from (by omega)) (Nat.le_of_ble_eq_true rfl) rfl) rfl rfl fun a152 h152 => wl_ex (x_call h152 bd_105 rfl rfl rfl rfl rfl (reads_ls (reads_c (nth x.l j) _ (by have h8 := (hok j (by omega)).1; omega) (hok j (by omega)).2.1))) (wanted_none rfl _) ?_; clear h97 h150 h151
   rintro a153 w153 ⟨_, ⟨s153, rfl, hs153⟩, hf153⟩
   have h153 := (⟨hf153, h152.sh.call hs153 (by intro A hA b hb; first | (simp at hA; done) | (simp at hA; subst hA; first | exact Flat.noRd hb | exact (hb : False).elim) | (simp at hA; rcases hA with rfl | rfl <;> first | exact Flat.noRd hb | exact (hb : False).elim))⟩ : St 85 (fun _ => False) W a153 w153 _ _)
   clear hf153 hs153
   clear h152
   have hl154 : (rdG (nth x.l j)).length ≤ 140737488355328 := (h153.sh.own 0 rfl).len
   refine wv h153 (r_len (s := (⟨s153.v, rdG (nth x.l j)⟩ : Ls Int)) (n := (rdG (nth x.l j)).length) sl_23 rfl rfl (fun w h => (h.own 0 rfl)) rfl) rfl rfl fun a155 h155 => wms 1 h155 rfl fun a156 h156 => wpList_nil <| hK149 _ _ <| wp_block ?_; clear h153 h155
   have hrl := rdG_len (nth x.l j)
   have hall : ∀ b, b < 200 → nth nw b = (nextsL x.l j).any fun y => col a2 b y.toNat := fun b hb => by rw [hnw b hb, any_all (by omega)]
   refine x_loop (fun m a w => ∃ (q5 : Nat) (nw3 : List Bool), (q5 ≤ (rdG (nth x.l j)).length) ∧ (nw3.length = 200) ∧ (∀ b, b < 200 → nth nw3 b = ((decide (wrG (nth x.l j) ≠ (b : Int)) && (nextsL x.l j).any fun y => col a2 b y.toNat) || ((rdG (nth x.l j)).take q5).any fun v => decide (v = (b : Int)))) ∧ St 85 (fun _ => False) W a w [(0, x.v), (3, v9), (4, .bool ag2), (5, .int .i64 ((j : Nat) : Int)), (6, .pointer (some ⟨b35, 0, none⟩)), (65, s153.v), (66, .int .i64 (((rdG (nth x.l j)).length : Nat) : Int)), (67, .int .i64 ((q5 : Nat) : Int))] [.own 3 (⟨s153.v, rdG (nth x.l j)⟩ : Ls Int), .own 3 (⟨s39.v, nextsL x.l j⟩ : Ls Int), .blk b35 101 (nw3.map Value.bool), .own 101 (⟨v9, a2⟩ : Ls BArr), .at_ x] ∧ m = (rdG (nth x.l j)).length - q5) ⟨_, 0, nw, (by omega), (by first | assumption | (simp only [List.length_set]; assumption)), (by first | exact wr_off hnl hall (by assumption) | exact wr_none hall (by assumption)), h156.nrm ⟨rfl, rfl, rfl, rfl, rfl, rfl, rfl, rfl, trivial⟩ [0, 1, 2, 3, 4] (by decide) ⟨rfl, rfl, rfl, rfl, rfl, trivial⟩, rfl⟩ ?_
   clear h156
   rintro m157 a157 w157 ⟨q5, nw3, hq5, hnl3, hnw3, h157, hm157⟩
   refine wp_seq_k fun K158 hK158 => wp_region_lit <| wv h157 (r_lssN (p := q5) (q := (rdG (nth x.l j)).length) rfl rfl rfl) rfl rfl fun a159 h159 => wpList_nil <| hK158 _ _ <| wp_seq_k fun K160 hK160 => x_cond h159 rfl (fun hb161 => ?_) (fun hb161 => ?_); clear h157
   ·have hp161 : q5 < (rdG (nth x.l j)).length := of_decide_eq_true hb161
    refine wp_skip <| hK160 _ _ <| wp_seq_k fun K162 hK162 => wp_block <| wp_seq_k fun K163 hK163 => wp_region_lit <| wv h159 (r_ixN (s := (⟨s153.v, rdG (nth x.l j)⟩ : Ls Int)) (q := q5) sl_23 ti_3 rfl rfl rfl (fun w h => (h.own 0 rfl)) (show q5 < (rdG (nth x.l j)).length from (by omega))) rfl rfl fun a164 h164 => wv h164 (r_lde (s := (⟨s153.v, rdG (nth x.l j)⟩ : Ls Int)) (i := q5) (v := .int .i64 (nth (rdG (nth x.l j)) q5)) ti_3 rfl rfl rfl (fun w h => (h.own 0 rfl)) (show q5 < (rdG (nth x.l j)).length from (by omega)) (Nat.le_of_ble_eq_true rfl) rfl) rfl rfl fun a165 h165 => wms 1 h165 rfl fun a166 h166 => wpList_nil <| hK163 _ _ ?_; clear h159 h164 h165
    have hr5 := (hok j (by omega)).2.2.2 _ (nth_mem (rdG (nth x.l j)) q5 (by omega))
    refine wp_region_lit <| wms 1 h166 rfl fun a167 h167 => wv h167 (r_ixArI (q := nth (rdG (nth x.l j)) q5) ar_101 ti_4 rfl rfl rfl rfl (show 0 ≤ nth (rdG (nth x.l j)) q5 ∧ nth (rdG (nth x.l j)) q5 < 200 from (by omega))) rfl rfl fun a168 h168 => wl_ex (x_stAr (i := 2) (l := nw3) (b := true) h168 ti_4 rfl rfl rfl rfl rfl (show (nth (rdG (nth x.l j)) q5).toNat < nw3.length from (by rw [show nw3.length = 200 from (by first | assumption | (simp only [lens9]; done) | (simp only [lens9]; first | assumption | omega) | rfl)]; omega))) (wanted_none rfl _) ?_; clear h166 h167
    rintro a169 w169 h169
    clear h168
    refine wpList_nil <| hK162 _ _ <| wp_region_lit <| wv h169 (r_addN (p := q5) (q := 1) rfl rfl rfl (show q5 + 1 < 9223372036854775808 from (by omega))) rfl rfl fun a170 h170 => wms 1 h170 rfl fun a171 h171 => wpList_nil <| x_again ⟨_, ?_, q5 + 1, nw3.set ((nth (rdG (nth x.l j)) q5).toNat) true, ?_, ?_, ?_, h171.nrm ⟨rfl, rfl, rfl, rfl, rfl, rfl, rfl, rfl, trivial⟩ [0, 1, 2, 3, 4] (by decide) ⟨rfl, rfl, rfl, rfl, rfl, trivial⟩, rfl⟩; clear h169 h170
    · rw [hm157]; first | omega | (simp only [lens9]; omega)
    · omega
    · first | assumption | (simp only [List.length_set]; assumption)
    · exact rd_step hnl3 (by omega) hr5.1 hnw3
   have hp161 : ¬ (q5 < (rdG (nth x.l j)).length) := of_decide_eq_false hb161
   refine wp_exit <| hK148 _ _ ?_
   have hnow : NowIs x.l a2 j nw3 := now_is (by omega) hnw3
   have hA3 : (nth a2 j).l.length = 200 := hai2.l2 _ (by omega)
   refine wp_seq_k fun K172 hK172 => x_quiet (by kernel_rfl) (by kernel_rfl) h159 fun Z173 hZ173 => ?_
   have hq173 := h159.fr
   refine wq_val hq173 (r_ldwAr (i := 2) (l := nw3) ti_101 rfl rfl rfl (by first | assumption | (simp only [lens9]; done) | (simp only [lens9]; first | assumption | omega) | rfl)) (wanted_none rfl _) rfl rfl fun a174 hq174 => wq_val hq174 (r_move rfl rfl) (wanted_none rfl _) rfl rfl fun a175 hq175 => wq_val hq175 (r_move rfl rfl) (wanted_none rfl _) rfl rfl fun a176 hq176 => ?_; clear hq173 hq174 hq175
   have hl177 : a2.length ≤ 140737488355328 := (h159.sh.own 3 rfl).len
   refine wq_val hq176 (r_ixN (s := (⟨v9, a2⟩ : Ls BArr)) (q := j) sl_98 ti_101 rfl rfl rfl (fun w h => (h.own 3 rfl)) (show j < a2.length from (by omega))) (wanted_none rfl _) rfl rfl fun a178 hq178 => wq_val hq178 (r_ldewAr (n := 0) (i := j) (s := (⟨v9, a2⟩ : Ls BArr)) ti_101 rfl rfl (fun w h => (h.own 3 rfl)) (show j < a2.length from (by omega))) (wanted_none rfl _) rfl rfl fun a179 hq179 => wq_val hq179 (r_neqAr (l := nw3) (m := ((nth a2 j).l)) ar_101 ti_4 Try.underlying4 (by kernel_rfl) rfl rfl rfl (by first | assumption | (simp only [lens9]; done) | (simp only [lens9]; first | assumption | omega) | rfl) (by first | assumption | (simp only [lens9]; done) | (simp only [lens9]; first | assumption | omega) | rfl)) (wanted_none rfl _) rfl rfl fun a180 hq180 => wpQuiet_nil (hZ173 _ fun w181 hw181 => ?_); clear hq176 hq178 hq179
   have h181 : St 85 (fun _ => False) W a180 w181 _ _ := ⟨hq180, hw181⟩
   clear hq180 hw181 h159
   refine hK172 _ _ <| x_cond h181 rfl (fun hb182 => ?_) (fun hb182 => ?_)
   ·have hp182 : nw3 ≠ ((nth a2 j).l) := of_decide_eq_true hb182
    refine wp_region_lit <| wms 2 h181 rfl fun a183 h183 => wv h183 (r_ldwAr (i := 2) (l := nw3) ti_101 rfl rfl rfl (by first | assumption | (simp only [lens9]; done) | (simp only [lens9]; first | assumption | omega) | rfl)) rfl rfl fun a184 h184 => wv h184 (r_ixN (s := (⟨v9, a2⟩ : Ls BArr)) (q := j) sl_98 ti_101 rfl rfl rfl (fun w h => (h.own 3 rfl)) (show j < a2.length from (by omega))) rfl rfl fun a185 h185 => wl_ex (x_stewAr (r := 3) (i := j) (s := (⟨v9, a2⟩ : Ls BArr)) (l := nw3) h185 ti_101 rfl rfl rfl rfl (show j < a2.length from (by omega)) (by first | assumption | (simp only [lens9]; done) | (simp only [lens9]; first | assumption | omega) | rfl) rfl) (wanted_none rfl _) ?_; clear h181 h183 h184
    rintro a186 w186 h186
    clear h185
    refine wms 1 h186 rfl fun a187 h187 => wpList_nil <| hK33 _ _ <| wp_region_lit <| wms 1 h187 rfl fun a188 h188 => wv h188 (r_subI (p := ((j : Nat) : Int)) (q := 1) rfl rfl rfl (show -9223372036854775808 ≤ ((j : Nat) : Int) - 1 ∧ ((j : Nat) : Int) - 1 < 9223372036854775808 from (by omega))) rfl rfl fun a189 h189 => wms 1 h189 rfl fun a190 h190 => wpList_nil <| x_again ⟨_, ?_, j, a2.set j ⟨nw3⟩, true, ?_, ?_, ?_, ?_, h190.nrm ⟨rfl, rfl, rfl, rfl, trivial⟩ [3, 4] (by decide) ⟨rfl, rfl, trivial⟩, rfl⟩; clear h186 h187 h188 h189
    · rw [hm26]; omega
    · omega
    · first | exact hai2 | exact hai2.set (by omega) hnl3 hnow
    · first | (intro h; cases h; done) | exact vr_same h20 (clA_same hnow (Classical.byContradiction fun h9 => absurd h9 (by assumption)))
    · first | exact h21 | (intro _; exact Nat.lt_of_le_of_lt (vr_le h20 (fun e => by rw [e]) h21) (hai2.grow (by omega) hnl3 hnow (by assumption)))
   have hp182 : ¬ (nw3 ≠ ((nth a2 j).l)) := of_decide_eq_false hb182
   refine wp_skip <| hK33 _ _ <| wp_region_lit <| wms 1 h181 rfl fun a191 h191 => wv h191 (r_subI (p := ((j : Nat) : Int)) (q := 1) rfl rfl rfl (show -9223372036854775808 ≤ ((j : Nat) : Int) - 1 ∧ ((j : Nat) : Int) - 1 < 9223372036854775808 from (by omega))) rfl rfl fun a192 h192 => wms 1 h192 rfl fun a193 h193 => wpList_nil <| x_again ⟨_, ?_, j, a2, ag2, ?_, ?_, ?_, ?_, h193.nrm ⟨rfl, rfl, rfl, rfl, trivial⟩ [3, 4] (by decide) ⟨rfl, rfl, trivial⟩, rfl⟩; clear h181 h191 h192
   · rw [hm26]; omega
   · omega
   · first | exact hai2 | exact hai2.set (by omega) hnl3 hnow
   · first | (intro h; cases h; done) | exact vr_same h20 (clA_same hnow (Classical.byContradiction fun h9 => absurd h9 (by assumption)))
   · first | exact h21 | (intro _; exact Nat.lt_of_le_of_lt (vr_le h20 (fun e => by rw [e]) h21) (hai2.grow (by omega) hnl3 hnow (by assumption)))
  have hp31 : ¬ (0 ≤ ((k : Nat) : Int) - 1) := of_decide_eq_false hb31
  refine wp_exit ?_
  change ∃ _m, _m < _ ∧ _
  refine ⟨_, ?_, a2, ag2, ?_, ?_, h30.nrm ⟨rfl, rfl, rfl, trivial⟩ [0, 1] (by decide) ⟨rfl, rfl, trivial⟩, rfl⟩
  · rw [hm14]; exact vr_down (by assumption) (by have h8 := cntA_le hai2.l2; rw [hai2.l1] at h8; exact h8) h20 (fun e => by rw [e]) h21
  · exact hai2
  · exact fun h i hi => (h20 h).2 i (by omega) hi
 refine wp_exit <| hK11 _ _ <| wp_seq_k fun K194 hK194 => wp_region_lit <| wms 2 h17 rfl fun a195 h195 => wpList_nil <| hK194 _ _ <| wp_ret ?_; clear h17
 try simp only [Exit.then, Exit.inBlock]
 refine x_ret1 (fn := Try.f68) (t := 2) rfl h195 rfl <| ⟨⟨v9, a1⟩, rfl, ra_fin hf hai (hcl (by assumption)), (h195.sh.sel (L' := [.own 101 (⟨v9, a1⟩ : Ls BArr)]) [0] (by decide) ⟨rfl, trivial⟩)⟩

theorem sets_ls {f : FuncId} {vs : List Value} {W : World} {l : List BArr} (h : Rets Try.prog f vs W (fun v w' => ∃ s : Ls BArr, v = s.v ∧ s.l = l ∧ Sh0 W w' [.own 101 s])) : Rets Try.prog f vs W (fun v w' => ∃ s : Ls BArr, v = s.v ∧ Sh0 W w' [.own 101 (⟨s.v, l⟩ : Ls BArr)]) :=
  h.mono fun v w' ⟨s, h1, h2, h3⟩ => ⟨s, h1, by subst h2; exact h3⟩
end Go.Proofs.Ytfpaahkleienoaa
