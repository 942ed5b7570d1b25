/-
  Contracts of functions of this program and of the references, each walked once.
-/
import Derived.Test.YtfpaahkleienoaaX33
namespace Go.Proofs.Ytfpaahkleienoaa
open Go.RowKit
set_option linter.unusedSimpArgs false
set_option linter.unusedVariables false


theorem rows_eq {M : List (Ls Bool)} {m : Nat} {h : Nat → List Bool} (hl : M.length = m) (hv : ∀ a, a < m → (nth M a).l = h a) : M.map (·.l) = (List.range m).map h := by
  apply List.ext_getElem (by simp [hl])
  intro i h1 h2
  have := hv i (by simpa [hl] using h1)
  rw [nth_lt _ _ (by simpa using h1)] at this
  simpa using this
theorem set_len2 {M : List (Ls Bool)} {i q n A : Nat} {v : Value} {b : Bool} (h : ∀ a, a < A → (nth M a).l.length = n) : ∀ a, a < A → (nth (M.set i ⟨v, (nth M i).l.set q b⟩) a).l.length = n := by
  intro a ha
  rw [nth_set]
  split
  · rename_i h9; rw [List.length_set, h9.1]; exact h a ha
  · exact h a ha

set_option maxRecDepth 100000 in
set_option maxHeartbeats 4000000 in
theorem rAhead_c (x : Ls Ins) (r : Nat) (rg : Int) (f : Nat → Nat → Bool) (W : World) (hx : x.At W) (hl : x.l.length ≤ 5000) (hj : JumpsOK x.l) (hok : OkV x.l rg) (hf : ∀ r j, (f r j = true ↔ LiveI x.l r j)) :
    Rets Try.prog 115 [x.v, .int .i64 ((r : Nat) : Int)] W (fun v w' => ∃ s : Ls Bool, v = s.v ∧ s.l = (List.range (x.l.length + 1)).map (f r) ∧ Sh0 W w' [.own 4 s]) := by
 refine x_enter (N := 87) Try.func115 rfl Try.ntmps115 (Nat.le_of_ble_eq_true rfl) fun a1 hf1 => ?_
 have h1 : St 87 (fun _ => False) W a1 W [(0, x.v), (1, .int .i64 ((r : Nat) : Int))] [.at_ x] := ⟨hf1.sub ⟨rfl, rfl, trivial⟩, Sh0.ext1 hx⟩
 clear hf1
 refine wp_seq_k fun K2 hK2 => wp_region_lit <| wms 1 h1 rfl fun a3 h3 => wpList_nil <| hK2 _ _ <| wp_seq_k fun K4 hK4 => wp_region_lit <| wms 1 h3 rfl fun a5 h5 => ?_; clear h1 h3
 have hl6 : x.l.length ≤ 140737488355328 := (h5.sh.at 0 rfl).len
 refine wv h5 (r_len (s := x) (n := x.l.length) sl_33 rfl rfl (fun w h => (h.at 0 rfl)) rfl) rfl rfl fun a7 h7 => wv h7 (r_addN (p := x.l.length) (q := 1) rfl rfl rfl (show x.l.length + 1 < 9223372036854775808 from (by omega))) rfl rfl fun a8 h8 => wl_ex (x_make (n := x.l.length + 1) (false : Bool) h8 sl_92 ti_4 rfl rfl rfl rfl rfl (show 1 * (x.l.length + 1) ≤ 140737488355328 ∧ x.l.length + 1 ≤ 140737488355328 from (by omega)) (fun w => Flat.inner _ _) (fun b => Flat.on _ _) rfl rfl) (wanted_none rfl _) ?_; clear h5 h7
 rintro a9 w9 ⟨v9, h9⟩; clear h8
 refine wms 1 h9 rfl fun a10 h10 => wpList_nil <| hK4 _ _ <| wp_seq_k fun K11 hK11 => wp_seq_k fun K12 hK12 => wp_region_lit <| wms 1 h10 rfl fun a13 h13 => wpList_nil <| hK12 _ _ <| wp_block <| x_loop (fun m a w => ∃ (l : List Bool) (ag : Bool), (VI x.l r l) ∧ (ag = false → ∀ i, i < x.l.length → ClV x.l r l i) ∧ St 87 (fun _ => False) W a w [(0, x.v), (1, .int .i64 ((r : Nat) : Int)), (5, v9), (6, .bool ag)] [.own 4 (⟨v9, l⟩ : Ls Bool), .at_ x] ∧ m = (bif ag then 1 else 0) + 2 * ((x.l.length + 1) - cntV l)) ⟨_, List.replicate (x.l.length + 1) false, true, (VI.start x.l r), (fun h => by cases h), h13.nrm ⟨rfl, rfl, rfl, rfl, trivial⟩ [0, 1] (by decide) ⟨rfl, rfl, trivial⟩, rfl⟩ ?_; clear h9 h10
 clear h13
 rintro m14 a14 w14 ⟨l, ag, hdi, hcl, h14, hm14⟩
 have hd1 := hdi.l1
 refine wp_seq_k fun K15 hK15 => wp_seq_k fun K16 hK16 => wp_region_lit <| wms 1 h14 rfl fun a17 h17 => wpList_nil <| hK16 _ _ <| x_cond h17 rfl (fun hb18 => ?_) (fun hb18 => ?_); clear h14
 ·skip
  refine wp_skip <| hK15 _ _ <| wp_block <| wp_seq_k fun K19 hK19 => wp_region_lit <| wms 1 h17 rfl fun a20 h20 => wpList_nil <| hK19 _ _ <| wp_seq_k fun K21 hK21 => wp_region_lit <| wms 1 h20 rfl fun a22 h22 => wv h22 (r_len (s := x) (n := x.l.length) sl_33 rfl rfl (fun w h => (h.at 1 rfl)) rfl) rfl rfl fun a23 h23 => wv h23 (r_subI (p := ((x.l.length : Nat) : Int)) (q := 1) rfl rfl rfl (show -9223372036854775808 ≤ ((x.l.length : Nat) : Int) - 1 ∧ ((x.l.length : Nat) : Int) - 1 < 9223372036854775808 from (by omega))) rfl rfl fun a24 h24 => wms 1 h24 rfl fun a25 h25 => ?_; clear h17 h20 h22 h23 h24
  refine wpList_nil <| hK21 _ _ <| wp_block <| x_loop (fun m a w => ∃ (k : Nat) (l2 : List Bool) (ag2 : Bool), (k ≤ x.l.length) ∧ (VI x.l r l2) ∧ (ag2 = false → l2 = l ∧ ∀ i, k ≤ i → i < x.l.length → ClV x.l r l2 i) ∧ (ag2 = true → cntV l < cntV l2) ∧ St 87 (fun _ => False) W a w [(0, x.v), (1, .int .i64 ((r : Nat) : Int)), (5, v9), (6, .bool ag2), (7, .int .i64 (((k : Nat) : Int) - 1))] [.own 4 (⟨v9, l2⟩ : Ls Bool), .at_ x] ∧ m = k) ⟨_, x.l.length, l, false, (by omega), (hdi), (fun _ => ⟨rfl, fun i hi hi2 => absurd hi (by omega)⟩), (fun h => by cases h), h25.nrm ⟨rfl, rfl, rfl, rfl, rfl, trivial⟩ [0, 1] (by decide) ⟨rfl, rfl, trivial⟩, rfl⟩ ?_
  clear h25
  rintro m26 a26 w26 ⟨k, l2, ag2, hk, hdi2, h20, h21, h26, hm26⟩
  have hd3 := hdi2.l1
  refine wp_seq_k fun K27 hK27 => wp_seq_k fun K28 hK28 => wp_region_lit <| wms 1 h26 rfl fun a29 h29 => wv h29 (r_geqI (p := ((k : Nat) : Int) - 1) (q := 0) rfl rfl rfl) rfl rfl fun a30 h30 => wpList_nil <| hK28 _ _ <| x_cond h30 rfl (fun hb31 => ?_) (fun hb31 => ?_); clear h26 h29
  ·have hp31 : 0 ≤ ((k : Nat) : Int) - 1 := of_decide_eq_true hb31
   obtain ⟨j, rfl⟩ : ∃ j, k = j + 1 := ⟨k - 1, by omega⟩
   have h32 : St 87 (fun _ => False) W a30 w26 [(0, x.v), (1, .int .i64 ((r : Nat) : Int)), (5, v9), (6, .bool ag2), (7, .int .i64 ((j : Nat) : Int)), (22, .int .i64 ((j : Nat) : Int))] [.own 4 (⟨v9, l2⟩ : Ls Bool), .at_ x] := (h30.sub (F' := [(0, x.v), (1, .int .i64 ((r : Nat) : Int)), (5, v9), (6, .bool ag2), (7, .int .i64 (((j + 1 : Nat) : Int) - 1)), (22, .int .i64 (((j + 1 : Nat) : Int) - 1))]) ⟨rfl, rfl, rfl, rfl, rfl, rfl, trivial⟩).cg (by simp only [show (((j + 1 : Nat) : Int) - 1) = ((j : Nat) : Int) by omega])
   clear h30
   refine wp_skip <| hK27 _ _ <| wp_seq_k fun K33 hK33 => wp_block <| wp_seq_k fun K34 hK34 => wp_region_lit <| wms 2 h32 rfl fun a35 h35 => wv h35 (r_ixN (s := x) (q := j) sl_33 ti_32 rfl rfl rfl (fun w h => (h.at 1 rfl)) (show j < x.l.length from (by omega))) rfl rfl fun a36 h36 => wv h36 (r_ldew (s := x) (i := j) (vs := [.int .i64 ((nth x.l j).op), .int .i64 ((nth x.l j).a), .int .i64 ((nth x.l j).b), .int .i64 ((nth x.l j).c)]) ti_32 rfl rfl rfl (fun w h => (h.at 1 rfl)) (show j < x.l.length from (by omega)) (Nat.le_of_ble_eq_true rfl) rfl) rfl rfl fun a37 h37 => wl_ex (x_call h37 bd_109 rfl rfl rfl rfl rfl (reads_ls (rReads_c (nth x.l j) _ (by have h8 := (hok j (by omega)).1; omega) (hok j (by omega)).2.1))) (wanted_none rfl _) ?_; clear h32 h35 h36
   rintro a38 w38 ⟨_, ⟨s38, rfl, hs38⟩, hf38⟩
   have h38 := (⟨hf38, h37.sh.call hs38 (by intro A hA b hb; first | (simp at hA; done) | (simp at hA; subst hA; first | exact Flat.noRd hb | exact (hb : False).elim) | (simp at hA; rcases hA with rfl | rfl <;> first | exact Flat.noRd hb | exact (hb : False).elim))⟩ : St 87 (fun _ => False) W a38 w38 _ _)
   clear hf38 hs38
   clear h37
   refine wms 1 h38 rfl fun a39 h39 => wpList_nil <| hK34 _ _ <| wp_seq_k fun K40 hK40 => wp_region_lit <| wms 1 h39 rfl fun a41 h41 => wpList_nil <| hK40 _ _ <| wp_seq_k fun K42 hK42 => wp_seq_k fun K43 hK43 => wp_region_lit <| wms 1 h41 rfl fun a44 h44 => wpList_nil <| hK43 _ _ ?_; clear h38 h39 h41
   refine wp_block ?_
   have hrl := rdG_len (nth x.l j)
   refine x_loop (fun m a w => ∃ (q : Nat) (ib : Bool), (q ≤ (rdG (nth x.l j)).length) ∧ (ib = ((rdG (nth x.l j)).take q).any fun v => decide (v = (r : Int))) ∧ St 87 (fun _ => False) W a w [(0, x.v), (1, .int .i64 ((r : Nat) : Int)), (5, v9), (6, .bool ag2), (7, .int .i64 ((j : Nat) : Int)), (8, s38.v), (9, .bool ib), (10, .int .i64 ((q : Nat) : Int))] [.own 3 (⟨s38.v, rdG (nth x.l j)⟩ : Ls Int), .own 4 (⟨v9, l2⟩ : Ls Bool), .at_ x] ∧ m = (rdG (nth x.l j)).length - q) ⟨_, 0, false, (by omega), (any_zero.symm), h44.nrm ⟨rfl, rfl, rfl, rfl, rfl, rfl, rfl, rfl, trivial⟩ [0, 1, 2] (by decide) ⟨rfl, rfl, rfl, trivial⟩, rfl⟩ ?_
   clear h44
   rintro m45 a45 w45 ⟨q, ib, hq, hib, h45, hm45⟩
   refine wp_seq_k fun K46 hK46 => wp_seq_k fun K47 hK47 => wp_region_lit <| wms 2 h45 rfl fun a48 h48 => ?_; clear h45
   have hl49 : (rdG (nth x.l j)).length ≤ 140737488355328 := (h48.sh.own 0 rfl).len
   refine wv h48 (r_len (s := (⟨s38.v, rdG (nth x.l j)⟩ : Ls Int)) (n := (rdG (nth x.l j)).length) sl_23 rfl rfl (fun w h => (h.own 0 rfl)) rfl) rfl rfl fun a50 h50 => wv h50 (r_lssN (p := q) (q := (rdG (nth x.l j)).length) rfl rfl rfl) rfl rfl fun a51 h51 => wpList_nil <| hK47 _ _ <| x_cond h51 rfl (fun hb52 => ?_) (fun hb52 => ?_); clear h48 h50
   ·have hp52 : q < (rdG (nth x.l j)).length := of_decide_eq_true hb52
    refine wp_skip <| hK46 _ _ <| wp_seq_k fun K53 hK53 => wp_block <| wp_region_lit <| wms 2 h51 rfl fun a54 h54 => ?_; clear h51
    rcases Bool.eq_false_or_eq_true ib with hb55 | hb55
    ·skip
     refine wl_skip h54 (wanted_no h54.fr rfl rfl rfl rfl hb55) rfl rfl fun a56 h56 => wl_skip h56 (wanted_no h56.fr rfl rfl rfl rfl hb55) rfl rfl fun a57 h57 => wl_skip h57 (wanted_no h57.fr rfl rfl rfl rfl hb55) rfl rfl fun a58 h58 => wl_skip h58 (wanted_no h58.fr rfl rfl rfl rfl hb55) rfl rfl fun a59 h59 => wl_skip h59 (wanted_no h59.fr rfl rfl rfl rfl hb55) rfl rfl fun a60 h60 => wl_skip h60 (wanted_no h60.fr rfl rfl rfl rfl hb55) rfl rfl fun a61 h61 => wv h61 (r_pickT rfl rfl hb55 rfl) rfl rfl fun a62 h62 => wms 1 h62 rfl fun a63 h63 => wpList_nil <| hK53 _ _ <| wp_region_lit <| wms 1 h63 rfl fun a64 h64 => wv h64 (r_addN (p := q) (q := 1) rfl rfl rfl (show q + 1 < 9223372036854775808 from (by omega))) rfl rfl fun a65 h65 => wms 1 h65 rfl fun a66 h66 => ?_; clear h54 h56 h57 h58 h59 h60 h61 h62 h63 h64 h65
     refine wpList_nil <| x_again ⟨_, ?_, q + 1, true, ?_, ?_, h66.nrm ⟨rfl, rfl, rfl, rfl, rfl, rfl, rfl, rfl, trivial⟩ [0, 1, 2] (by decide) ⟨rfl, rfl, rfl, trivial⟩, rfl⟩
     · rw [hm45]; first | omega | (simp only [lens9]; omega)
     · omega
     · first | (rw [any_step (by omega), ← hib, show ib = true by assumption]; rfl) | (rw [any_step (by omega), ← hib, show ib = false by assumption]; rfl)
    refine wl_val h54 (r_move rfl rfl) (wanted_yes h54.fr rfl rfl rfl rfl hb55) rfl rfl fun a67 h67 => wl_val h67 (r_move rfl rfl) (wanted_yes h67.fr rfl rfl rfl rfl hb55) rfl rfl fun a68 h68 => wl_val h68 (r_ixN (s := (⟨s38.v, rdG (nth x.l j)⟩ : Ls Int)) (q := q) sl_23 ti_3 rfl rfl rfl (fun w h => (h.own 0 rfl)) (show q < (rdG (nth x.l j)).length from (by omega))) (wanted_yes h68.fr rfl rfl rfl rfl hb55) rfl rfl fun a69 h69 => wl_val h69 (r_lde (s := (⟨s38.v, rdG (nth x.l j)⟩ : Ls Int)) (i := q) (v := .int .i64 (nth (rdG (nth x.l j)) q)) ti_3 rfl rfl rfl (fun w h => (h.own 0 rfl)) (show q < (rdG (nth x.l j)).length from (by omega)) (Nat.le_of_ble_eq_true rfl) rfl) (wanted_yes h69.fr rfl rfl rfl rfl hb55) rfl rfl fun a70 h70 => wl_val h70 (r_move rfl rfl) (wanted_yes h70.fr rfl rfl rfl rfl hb55) rfl rfl fun a71 h71 => wl_val h71 (r_eqlI (p := nth (rdG (nth x.l j)) q) (q := ((r : Nat) : Int)) rfl rfl rfl) (wanted_yes h71.fr rfl rfl rfl rfl hb55) rfl rfl fun a72 h72 => wv h72 (r_pickF rfl rfl hb55 rfl) rfl rfl fun a73 h73 => wms 1 h73 rfl fun a74 h74 => wpList_nil <| hK53 _ _ <| wp_region_lit <| wms 1 h74 rfl fun a75 h75 => wv h75 (r_addN (p := q) (q := 1) rfl rfl rfl (show q + 1 < 9223372036854775808 from (by omega))) rfl rfl fun a76 h76 => wms 1 h76 rfl fun a77 h77 => ?_; clear h54 h67 h68 h69 h70 h71 h72 h73 h74 h75 h76
    refine wpList_nil <| x_again ⟨_, ?_, q + 1, decide (nth (rdG (nth x.l j)) q = ((r : Nat) : Int)), ?_, ?_, h77.nrm ⟨rfl, rfl, rfl, rfl, rfl, rfl, rfl, rfl, trivial⟩ [0, 1, 2] (by decide) ⟨rfl, rfl, rfl, trivial⟩, rfl⟩
    · rw [hm45]; first | omega | (simp only [lens9]; omega)
    · omega
    · first | (rw [any_step (by omega), ← hib, show ib = true by assumption]; rfl) | (rw [any_step (by omega), ← hib, show ib = false by assumption]; rfl)
   have hp52 : ¬ (q < (rdG (nth x.l j)).length) := of_decide_eq_false hb52
   refine wp_exit <| hK42 _ _ <| wp_seq_k fun K78 hK78 => wp_region_lit <| wms 2 h51 rfl fun a79 h79 => wv h79 (r_ixN (s := x) (q := j) sl_33 ti_32 rfl rfl rfl (fun w h => (h.at 2 rfl)) (show j < x.l.length from (by omega))) rfl rfl fun a80 h80 => wv h80 (r_ldew (s := x) (i := j) (vs := [.int .i64 ((nth x.l j).op), .int .i64 ((nth x.l j).a), .int .i64 ((nth x.l j).b), .int .i64 ((nth x.l j).c)]) ti_32 rfl rfl rfl (fun w h => (h.at 2 rfl)) (show j < x.l.length from (by omega)) (Nat.le_of_ble_eq_true rfl) rfl) rfl rfl fun a81 h81 => wl_ex (x_call h81 bd_107 rfl rfl rfl rfl rfl (rWrites_c (nth x.l j) _ (by have h8 := (hok j (by omega)).1; omega))) (wanted_none rfl _) ?_; clear h51 h79 h80
   rintro a82 w82 ⟨_, ⟨rfl, hs82⟩, hf82⟩
   have h82 : St 87 (fun _ => False) W a82 w82 _ _ := ⟨hf82, h81.sh.call0 hs82⟩
   clear hf82 hs82
   clear h81
   refine wms 1 h82 rfl fun a83 h83 => wpList_nil <| hK78 _ _ <| wp_seq_k fun K84 hK84 => wp_region_lit <| wms 2 h83 rfl fun a85 h85 => wl_ex (x_call h85 bd_108 rfl rfl rfl rfl rfl (rNexts_c x j _ (h85.sh.at 2 rfl) (by omega) (by omega))) (wanted_none rfl _) ?_; clear h82 h83
   rintro a86 w86 ⟨_, ⟨s86, rfl, hs86⟩, hf86⟩
   have h86 := (⟨hf86, h85.sh.call hs86 (by intro A hA b hb; first | (simp at hA; done) | (simp at hA; subst hA; first | exact Flat.noRd hb | exact (hb : False).elim) | (simp at hA; rcases hA with rfl | rfl <;> first | exact Flat.noRd hb | exact (hb : False).elim))⟩ : St 87 (fun _ => False) W a86 w86 _ _)
   clear hf86 hs86
   clear h85
   refine wms 1 h86 rfl fun a87 h87 => wpList_nil <| hK84 _ _ <| wp_seq_k fun K88 hK88 => wp_seq_k fun K89 hK89 => wp_region_lit <| wms 1 h87 rfl fun a90 h90 => wpList_nil <| hK89 _ _ <| wp_block ?_; clear h86 h87
   have hnl := nextsV_len x.l j
   refine x_loop (fun m a w => ∃ (q2 : Nat) (ib2 : Bool), (q2 ≤ (nextsL x.l j).length) ∧ (ib2 = (((rdG (nth x.l j)).any fun v => decide (v = (r : Int))) || (decide (wrG (nth x.l j) ≠ (r : Int)) && ((nextsL x.l j).take q2).any fun y => nth l2 y.toNat))) ∧ St 87 (fun _ => False) W a w [(0, x.v), (1, .int .i64 ((r : Nat) : Int)), (5, v9), (6, .bool ag2), (7, .int .i64 ((j : Nat) : Int)), (9, .bool ib2), (11, .int .i64 (wrG (nth x.l j))), (12, s86.v), (13, .int .i64 ((q2 : Nat) : Int))] [.own 3 (⟨s86.v, nextsL x.l j⟩ : Ls Int), .own 3 (⟨s38.v, rdG (nth x.l j)⟩ : Ls Int), .own 4 (⟨v9, l2⟩ : Ls Bool), .at_ x] ∧ m = (nextsL x.l j).length - q2) ⟨_, 0, ib, (by omega), (by rw [any_zero, Bool.and_false, Bool.or_false, hib, any_all (by omega)]), h90.nrm ⟨rfl, rfl, rfl, rfl, rfl, rfl, rfl, rfl, rfl, trivial⟩ [0, 1, 2, 3] (by decide) ⟨rfl, rfl, rfl, rfl, trivial⟩, rfl⟩ ?_
   clear h90
   rintro m91 a91 w91 ⟨q2, ib2, hq2, hib2, h91, hm91⟩
   refine wp_seq_k fun K92 hK92 => wp_seq_k fun K93 hK93 => wp_region_lit <| wms 2 h91 rfl fun a94 h94 => ?_; clear h91
   have hl95 : (nextsL x.l j).length ≤ 140737488355328 := (h94.sh.own 0 rfl).len
   refine wv h94 (r_len (s := (⟨s86.v, nextsL x.l j⟩ : Ls Int)) (n := (nextsL x.l j).length) sl_23 rfl rfl (fun w h => (h.own 0 rfl)) rfl) rfl rfl fun a96 h96 => wv h96 (r_lssN (p := q2) (q := (nextsL x.l j).length) rfl rfl rfl) rfl rfl fun a97 h97 => wms 1 h97 rfl fun a98 h98 => ?_; clear h94 h96 h97
   rcases Bool.eq_false_or_eq_true (decide (q2 < (nextsL x.l j).length)) with hb99 | hb99
   ·have hp99 : q2 < (nextsL x.l j).length := of_decide_eq_true hb99
    refine wl_val h98 (r_move rfl rfl) (wanted_yes h98.fr rfl rfl rfl rfl hb99) rfl rfl fun a100 h100 => wl_val h100 (r_move rfl rfl) (wanted_yes h100.fr rfl rfl rfl rfl hb99) rfl rfl fun a101 h101 => wl_val h101 (r_neqI (p := wrG (nth x.l j)) (q := ((r : Nat) : Int)) rfl rfl rfl) (wanted_yes h101.fr rfl rfl rfl rfl hb99) rfl rfl fun a102 h102 => wv h102 (r_pickT rfl rfl hb99 rfl) rfl rfl fun a103 h103 => wpList_nil <| hK93 _ _ <| x_cond h103 rfl (fun hb104 => ?_) (fun hb104 => ?_); clear h98 h100 h101 h102
    ·have hp104 : wrG (nth x.l j) ≠ ((r : Nat) : Int) := of_decide_eq_true hb104
     refine wp_skip <| hK92 _ _ ?_
     have hmm : nth (nextsL x.l j) q2 ∈ nextsL x.l j := nth_mem _ _ (by omega)
     have hnx := nextsV_ok hj (by omega) hmm
     refine wp_seq_k fun K105 hK105 => wp_block <| wp_region_lit <| wms 2 h103 rfl fun a106 h106 => ?_; clear h103
     rcases Bool.eq_false_or_eq_true ib2 with hb107 | hb107
     ·skip
      refine wl_skip h106 (wanted_no h106.fr rfl rfl rfl rfl hb107) rfl rfl fun a108 h108 => wl_skip h108 (wanted_no h108.fr rfl rfl rfl rfl hb107) rfl rfl fun a109 h109 => wl_skip h109 (wanted_no h109.fr rfl rfl rfl rfl hb107) rfl rfl fun a110 h110 => wl_skip h110 (wanted_no h110.fr rfl rfl rfl rfl hb107) rfl rfl fun a111 h111 => wl_skip h111 (wanted_no h111.fr rfl rfl rfl rfl hb107) rfl rfl fun a112 h112 => wl_skip h112 (wanted_no h112.fr rfl rfl rfl rfl hb107) rfl rfl fun a113 h113 => wl_skip h113 (wanted_no h113.fr rfl rfl rfl rfl hb107) rfl rfl fun a114 h114 => wv h114 (r_pickT rfl rfl hb107 rfl) rfl rfl fun a115 h115 => wms 1 h115 rfl fun a116 h116 => wpList_nil <| hK105 _ _ <| wp_region_lit <| wms 1 h116 rfl fun a117 h117 => wv h117 (r_addN (p := q2) (q := 1) rfl rfl rfl (show q2 + 1 < 9223372036854775808 from (by omega))) rfl rfl fun a118 h118 => ?_; clear h106 h108 h109 h110 h111 h112 h113 h114 h115 h116 h117
      refine wms 1 h118 rfl fun a119 h119 => wpList_nil <| x_again ⟨_, ?_, q2 + 1, true, ?_, ?_, h119.nrm ⟨rfl, rfl, rfl, rfl, rfl, rfl, rfl, rfl, rfl, trivial⟩ [0, 1, 2, 3] (by decide) ⟨rfl, rfl, rfl, rfl, trivial⟩, rfl⟩; clear h118
      · rw [hm91]; first | omega | (simp only [lens9]; omega)
      · omega
      · rw [any_step (by omega)]; first | exact (need_more hib2 (decide_eq_true (by assumption))).1 (by assumption) | exact (need_more hib2 (decide_eq_true (by assumption))).2 (by assumption)
     refine wl_val h106 (r_move rfl rfl) (wanted_yes h106.fr rfl rfl rfl rfl hb107) rfl rfl fun a120 h120 => wl_val h120 (r_move rfl rfl) (wanted_yes h120.fr rfl rfl rfl rfl hb107) rfl rfl fun a121 h121 => wl_val h121 (r_move rfl rfl) (wanted_yes h121.fr rfl rfl rfl rfl hb107) rfl rfl fun a122 h122 => wl_val h122 (r_ixN (s := (⟨s86.v, nextsL x.l j⟩ : Ls Int)) (q := q2) sl_23 ti_3 rfl rfl rfl (fun w h => (h.own 0 rfl)) (show q2 < (nextsL x.l j).length from (by omega))) (wanted_yes h122.fr rfl rfl rfl rfl hb107) rfl rfl fun a123 h123 => wl_val h123 (r_lde (s := (⟨s86.v, nextsL x.l j⟩ : Ls Int)) (i := q2) (v := .int .i64 (nth (nextsL x.l j) q2)) ti_3 rfl rfl rfl (fun w h => (h.own 0 rfl)) (show q2 < (nextsL x.l j).length from (by omega)) (Nat.le_of_ble_eq_true rfl) rfl) (wanted_yes h123.fr rfl rfl rfl rfl hb107) rfl rfl fun a124 h124 => ?_; clear h106 h120 h121 h122 h123
     have hl125 : l2.length ≤ 140737488355328 := (h124.sh.own 2 rfl).len
     refine wl_val h124 (r_ixI (s := (⟨v9, l2⟩ : Ls Bool)) (q := nth (nextsL x.l j) q2) sl_92 ti_4 rfl rfl rfl (fun w h => (h.own 2 rfl)) (show 0 ≤ nth (nextsL x.l j) q2 ∧ nth (nextsL x.l j) q2 < l2.length from (by omega))) (wanted_yes h124.fr rfl rfl rfl rfl hb107) rfl rfl fun a126 h126 => wl_val h126 (r_lde (s := (⟨v9, l2⟩ : Ls Bool)) (i := (nth (nextsL x.l j) q2).toNat) (v := .bool (nth l2 ((nth (nextsL x.l j) q2).toNat))) ti_4 rfl rfl rfl (fun w h => (h.own 2 rfl)) (show (nth (nextsL x.l j) q2).toNat < l2.length from (by omega)) (Nat.le_of_ble_eq_true rfl) rfl) (wanted_yes h126.fr rfl rfl rfl rfl hb107) rfl rfl fun a127 h127 => wv h127 (r_pickF rfl rfl hb107 rfl) rfl rfl fun a128 h128 => wms 1 h128 rfl fun a129 h129 => wpList_nil <| hK105 _ _ <| wp_region_lit <| wms 1 h129 rfl fun a130 h130 => wv h130 (r_addN (p := q2) (q := 1) rfl rfl rfl (show q2 + 1 < 9223372036854775808 from (by omega))) rfl rfl fun a131 h131 => wms 1 h131 rfl fun a132 h132 => wpList_nil <| x_again ⟨_, ?_, q2 + 1, nth l2 ((nth (nextsL x.l j) q2).toNat), ?_, ?_, h132.nrm ⟨rfl, rfl, rfl, rfl, rfl, rfl, rfl, rfl, rfl, trivial⟩ [0, 1, 2, 3] (by decide) ⟨rfl, rfl, rfl, rfl, trivial⟩, rfl⟩; clear h124 h126 h127 h128 h129 h130 h131
     · rw [hm91]; first | omega | (simp only [lens9]; omega)
     · omega
     · rw [any_step (by omega)]; first | exact (need_more hib2 (decide_eq_true (by assumption))).1 (by assumption) | exact (need_more hib2 (decide_eq_true (by assumption))).2 (by assumption)
    have hp104 : ¬ (wrG (nth x.l j) ≠ ((r : Nat) : Int)) := of_decide_eq_false hb104
    refine wp_exit <| hK88 _ _ ?_
    have hneed : ib2 = needB (nth l2) x.l j r := need_end hib2 (by first | exact .inr (any_all (by omega)) | exact .inl (decide_eq_false (by omega)))
    refine wp_seq_k fun K133 hK133 => wp_region_lit <| wms 2 h103 rfl fun a134 h134 => ?_; clear h103
    rcases Bool.eq_false_or_eq_true ib2 with hb135 | hb135
    ·skip
     refine wl_val h134 (r_move rfl rfl) (wanted_yes h134.fr rfl rfl rfl rfl hb135) rfl rfl fun a136 h136 => wl_val h136 (r_move rfl rfl) (wanted_yes h136.fr rfl rfl rfl rfl hb135) rfl rfl fun a137 h137 => ?_; clear h134 h136
     have hl138 : l2.length ≤ 140737488355328 := (h137.sh.own 2 rfl).len
     refine wl_val h137 (r_ixN (s := (⟨v9, l2⟩ : Ls Bool)) (q := j) sl_92 ti_4 rfl rfl rfl (fun w h => (h.own 2 rfl)) (show j < l2.length from (by omega))) (wanted_yes h137.fr rfl rfl rfl rfl hb135) rfl rfl fun a139 h139 => wl_val h139 (r_lde (s := (⟨v9, l2⟩ : Ls Bool)) (i := j) (v := .bool (nth l2 j)) ti_4 rfl rfl rfl (fun w h => (h.own 2 rfl)) (show j < l2.length from (by omega)) (Nat.le_of_ble_eq_true rfl) rfl) (wanted_yes h139.fr rfl rfl rfl rfl hb135) rfl rfl fun a140 h140 => wl_val h140 (r_not rfl rfl) (wanted_yes h140.fr rfl rfl rfl rfl hb135) rfl rfl fun a141 h141 => wv h141 (r_pickT rfl rfl hb135 rfl) rfl rfl fun a142 h142 => wpList_nil <| hK133 _ _ <| x_cond h142 rfl (fun hb143 => ?_) (fun hb143 => ?_); clear h137 h139 h140 h141
     ·have hn143 : nth l2 j = false := (Bool.not_eq_true' _).mp hb143
      refine wp_seq_k fun K144 hK144 => wp_region_lit <| wms 2 h142 rfl fun a145 h145 => wv h145 (r_ixN (s := (⟨v9, l2⟩ : Ls Bool)) (q := j) sl_92 ti_4 rfl rfl rfl (fun w h => (h.own 2 rfl)) (show j < l2.length from (by omega))) rfl rfl fun a146 h146 => wl_ex (x_ste (r := 2) (i := j) (j := 0) (x' := (true : Bool)) h146 ti_4 rfl rfl rfl rfl rfl (show j < l2.length from (by omega)) (Nat.le_of_ble_eq_true rfl) rfl rfl rfl (by intro q hq; obtain rfl : q = 0 := (by omega); rfl) (fun w h => Flat.inner _ _) (fun b hb => (Flat.on _ _ hb).elim)) (wanted_none rfl _) ?_; clear h142 h145
      rintro a147 w147 h147
      clear h146
      refine wpList_nil <| hK144 _ _ ?_
      have h148 : St 87 (fun _ => False) W a147 w147 [(0, x.v), (1, .int .i64 ((r : Nat) : Int)), (5, v9), (7, .int .i64 ((j : Nat) : Int))] [.own 3 (⟨s86.v, nextsL x.l j⟩ : Ls Int), .own 3 (⟨s38.v, rdG (nth x.l j)⟩ : Ls Int), .own 4 (⟨v9, l2.set j true⟩ : Ls Bool), .at_ x] := h147.nrm ⟨rfl, rfl, rfl, rfl, trivial⟩ [0, 1, 2, 3] (by decide) ⟨rfl, rfl, rfl, rfl, trivial⟩
      clear h147
      refine wp_region_lit <| wms 1 h148 rfl fun a149 h149 => wpList_nil <| hK33 _ _ <| wp_region_lit <| wms 1 h149 rfl fun a150 h150 => wv h150 (r_subI (p := ((j : Nat) : Int)) (q := 1) rfl rfl rfl (show -9223372036854775808 ≤ ((j : Nat) : Int) - 1 ∧ ((j : Nat) : Int) - 1 < 9223372036854775808 from (by omega))) rfl rfl fun a151 h151 => wms 1 h151 rfl fun a152 h152 => wpList_nil <| x_again ⟨_, ?_, j, l2.set j true, true, ?_, ?_, ?_, ?_, h152.nrm ⟨rfl, rfl, rfl, rfl, rfl, trivial⟩ [2, 3] (by decide) ⟨rfl, rfl, trivial⟩, rfl⟩; clear h148 h149 h150 h151
      · rw [hm26]; omega
      · omega
      · first | exact hdi2 | exact hdi2.set (by omega) (hneed ▸ (by assumption))
      · first | (intro h; cases h; done) | exact vr_same h20 (fun h => by first | assumption | exact absurd (h.symm.trans (hneed.symm.trans (show ib2 = false by assumption))) (by decide))
      · first | exact h21 | (intro _; exact Nat.lt_of_le_of_lt (vr_le h20 (fun e => by rw [e]) h21) (cntV_set (by omega) (by assumption)))
     have hn143 : nth l2 j = true := (Bool.not_eq_false' _).mp hb143
     refine wp_skip <| hK33 _ _ <| wp_region_lit <| wms 1 h142 rfl fun a153 h153 => wv h153 (r_subI (p := ((j : Nat) : Int)) (q := 1) rfl rfl rfl (show -9223372036854775808 ≤ ((j : Nat) : Int) - 1 ∧ ((j : Nat) : Int) - 1 < 9223372036854775808 from (by omega))) rfl rfl fun a154 h154 => wms 1 h154 rfl fun a155 h155 => wpList_nil <| x_again ⟨_, ?_, j, l2, ag2, ?_, ?_, ?_, ?_, h155.nrm ⟨rfl, rfl, rfl, rfl, rfl, trivial⟩ [2, 3] (by decide) ⟨rfl, rfl, trivial⟩, rfl⟩; clear h142 h153 h154
     · rw [hm26]; omega
     · omega
     · first | exact hdi2 | exact hdi2.set (by omega) (hneed ▸ (by assumption))
     · first | (intro h; cases h; done) | exact vr_same h20 (fun h => by first | assumption | exact absurd (h.symm.trans (hneed.symm.trans (show ib2 = false by assumption))) (by decide))
     · first | exact h21 | (intro _; exact Nat.lt_of_le_of_lt (vr_le h20 (fun e => by rw [e]) h21) (cntV_set (by omega) (by assumption)))
    refine wl_skip h134 (wanted_no h134.fr rfl rfl rfl rfl hb135) rfl rfl fun a156 h156 => wl_skip h156 (wanted_no h156.fr rfl rfl rfl rfl hb135) rfl rfl fun a157 h157 => wl_skip h157 (wanted_no h157.fr rfl rfl rfl rfl hb135) rfl rfl fun a158 h158 => wl_skip h158 (wanted_no h158.fr rfl rfl rfl rfl hb135) rfl rfl fun a159 h159 => wl_skip h159 (wanted_no h159.fr rfl rfl rfl rfl hb135) rfl rfl fun a160 h160 => wv h160 (r_pickF rfl rfl hb135 rfl) rfl rfl fun a161 h161 => wpList_nil <| hK133 _ _ <| x_condF h161 rfl rfl <| wp_skip <| hK33 _ _ <| wp_region_lit <| wms 1 h161 rfl fun a162 h162 => wv h162 (r_subI (p := ((j : Nat) : Int)) (q := 1) rfl rfl rfl (show -9223372036854775808 ≤ ((j : Nat) : Int) - 1 ∧ ((j : Nat) : Int) - 1 < 9223372036854775808 from (by omega))) rfl rfl fun a163 h163 => ?_; clear h134 h156 h157 h158 h159 h160 h161 h162
    refine wms 1 h163 rfl fun a164 h164 => wpList_nil <| x_again ⟨_, ?_, j, l2, ag2, ?_, ?_, ?_, ?_, h164.nrm ⟨rfl, rfl, rfl, rfl, rfl, trivial⟩ [2, 3] (by decide) ⟨rfl, rfl, trivial⟩, rfl⟩; clear h163
    · rw [hm26]; omega
    · omega
    · first | exact hdi2 | exact hdi2.set (by omega) (hneed ▸ (by assumption))
    · first | (intro h; cases h; done) | exact vr_same h20 (fun h => by first | assumption | exact absurd (h.symm.trans (hneed.symm.trans (show ib2 = false by assumption))) (by decide))
    · first | exact h21 | (intro _; exact Nat.lt_of_le_of_lt (vr_le h20 (fun e => by rw [e]) h21) (cntV_set (by omega) (by assumption)))
   have hp99 : ¬ (q2 < (nextsL x.l j).length) := of_decide_eq_false hb99
   refine wl_skip h98 (wanted_no h98.fr rfl rfl rfl rfl hb99) rfl rfl fun a165 h165 => wl_skip h165 (wanted_no h165.fr rfl rfl rfl rfl hb99) rfl rfl fun a166 h166 => wl_skip h166 (wanted_no h166.fr rfl rfl rfl rfl hb99) rfl rfl fun a167 h167 => wv h167 (r_pickF rfl rfl hb99 rfl) rfl rfl fun a168 h168 => wpList_nil <| hK93 _ _ <| x_condF h168 rfl rfl <| wp_exit <| hK88 _ _ ?_; clear h98 h165 h166 h167
   have hneed : ib2 = needB (nth l2) x.l j r := need_end hib2 (by first | exact .inr (any_all (by omega)) | exact .inl (decide_eq_false (by omega)))
   refine wp_seq_k fun K169 hK169 => wp_region_lit <| wms 2 h168 rfl fun a170 h170 => ?_; clear h168
   rcases Bool.eq_false_or_eq_true ib2 with hb171 | hb171
   ·skip
    refine wl_val h170 (r_move rfl rfl) (wanted_yes h170.fr rfl rfl rfl rfl hb171) rfl rfl fun a172 h172 => wl_val h172 (r_move rfl rfl) (wanted_yes h172.fr rfl rfl rfl rfl hb171) rfl rfl fun a173 h173 => ?_; clear h170 h172
    have hl174 : l2.length ≤ 140737488355328 := (h173.sh.own 2 rfl).len
    refine wl_val h173 (r_ixN (s := (⟨v9, l2⟩ : Ls Bool)) (q := j) sl_92 ti_4 rfl rfl rfl (fun w h => (h.own 2 rfl)) (show j < l2.length from (by omega))) (wanted_yes h173.fr rfl rfl rfl rfl hb171) rfl rfl fun a175 h175 => wl_val h175 (r_lde (s := (⟨v9, l2⟩ : Ls Bool)) (i := j) (v := .bool (nth l2 j)) ti_4 rfl rfl rfl (fun w h => (h.own 2 rfl)) (show j < l2.length from (by omega)) (Nat.le_of_ble_eq_true rfl) rfl) (wanted_yes h175.fr rfl rfl rfl rfl hb171) rfl rfl fun a176 h176 => wl_val h176 (r_not rfl rfl) (wanted_yes h176.fr rfl rfl rfl rfl hb171) rfl rfl fun a177 h177 => wv h177 (r_pickT rfl rfl hb171 rfl) rfl rfl fun a178 h178 => wpList_nil <| hK169 _ _ <| x_cond h178 rfl (fun hb179 => ?_) (fun hb179 => ?_); clear h173 h175 h176 h177
    ·have hn179 : nth l2 j = false := (Bool.not_eq_true' _).mp hb179
     refine wp_seq_k fun K180 hK180 => wp_region_lit <| wms 2 h178 rfl fun a181 h181 => wv h181 (r_ixN (s := (⟨v9, l2⟩ : Ls Bool)) (q := j) sl_92 ti_4 rfl rfl rfl (fun w h => (h.own 2 rfl)) (show j < l2.length from (by omega))) rfl rfl fun a182 h182 => wl_ex (x_ste (r := 2) (i := j) (j := 0) (x' := (true : Bool)) h182 ti_4 rfl rfl rfl rfl rfl (show j < l2.length from (by omega)) (Nat.le_of_ble_eq_true rfl) rfl rfl rfl (by intro q hq; obtain rfl : q = 0 := (by omega); rfl) (fun w h => Flat.inner _ _) (fun b hb => (Flat.on _ _ hb).elim)) (wanted_none rfl _) ?_; clear h178 h181
     rintro a183 w183 h183
     clear h182
     refine wpList_nil <| hK180 _ _ ?_
     have h184 : St 87 (fun _ => False) W a183 w183 [(0, x.v), (1, .int .i64 ((r : Nat) : Int)), (5, v9), (7, .int .i64 ((j : Nat) : Int))] [.own 3 (⟨s86.v, nextsL x.l j⟩ : Ls Int), .own 3 (⟨s38.v, rdG (nth x.l j)⟩ : Ls Int), .own 4 (⟨v9, l2.set j true⟩ : Ls Bool), .at_ x] := h183.nrm ⟨rfl, rfl, rfl, rfl, trivial⟩ [0, 1, 2, 3] (by decide) ⟨rfl, rfl, rfl, rfl, trivial⟩
     clear h183
     refine wp_region_lit <| wms 1 h184 rfl fun a185 h185 => wpList_nil <| hK33 _ _ <| wp_region_lit <| wms 1 h185 rfl fun a186 h186 => wv h186 (r_subI (p := ((j : Nat) : Int)) (q := 1) rfl rfl rfl (show -9223372036854775808 ≤ ((j : Nat) : Int) - 1 ∧ ((j : Nat) : Int) - 1 < 9223372036854775808 from (by omega))) rfl rfl fun a187 h187 => wms 1 h187 rfl fun a188 h188 => wpList_nil <| x_again ⟨_, ?_, j, l2.set j true, true, ?_, ?_, ?_, ?_, h188.nrm ⟨rfl, rfl, rfl, rfl, rfl, trivial⟩ [2, 3] (by decide) ⟨rfl, rfl, trivial⟩, rfl⟩; clear h184 h185 h186 h187
     · rw [hm26]; omega
     · omega
     · first | exact hdi2 | exact hdi2.set (by omega) (hneed ▸ (by assumption))
     · first | (intro h; cases h; done) | exact vr_same h20 (fun h => by first | assumption | exact absurd (h.symm.trans (hneed.symm.trans (show ib2 = false by assumption))) (by decide))
     · first | exact h21 | (intro _; exact Nat.lt_of_le_of_lt (vr_le h20 (fun e => by rw [e]) h21) (cntV_set (by omega) (by assumption)))
    have hn179 : nth l2 j = true := (Bool.not_eq_false' _).mp hb179
    refine wp_skip <| hK33 _ _ <| wp_region_lit <| wms 1 h178 rfl fun a189 h189 => wv h189 (r_subI (p := ((j : Nat) : Int)) (q := 1) rfl rfl rfl (show -9223372036854775808 ≤ ((j : Nat) : Int) - 1 ∧ ((j : Nat) : Int) - 1 < 9223372036854775808 from (by omega))) rfl rfl fun a190 h190 => wms 1 h190 rfl fun a191 h191 => wpList_nil <| x_again ⟨_, ?_, j, l2, ag2, ?_, ?_, ?_, ?_, h191.nrm ⟨rfl, rfl, rfl, rfl, rfl, trivial⟩ [2, 3] (by decide) ⟨rfl, rfl, trivial⟩, rfl⟩; clear h178 h189 h190
    · rw [hm26]; omega
    · omega
    · first | exact hdi2 | exact hdi2.set (by omega) (hneed ▸ (by assumption))
    · first | (intro h; cases h; done) | exact vr_same h20 (fun h => by first | assumption | exact absurd (h.symm.trans (hneed.symm.trans (show ib2 = false by assumption))) (by decide))
    · first | exact h21 | (intro _; exact Nat.lt_of_le_of_lt (vr_le h20 (fun e => by rw [e]) h21) (cntV_set (by omega) (by assumption)))
   refine wl_skip h170 (wanted_no h170.fr rfl rfl rfl rfl hb171) rfl rfl fun a192 h192 => wl_skip h192 (wanted_no h192.fr rfl rfl rfl rfl hb171) rfl rfl fun a193 h193 => wl_skip h193 (wanted_no h193.fr rfl rfl rfl rfl hb171) rfl rfl fun a194 h194 => wl_skip h194 (wanted_no h194.fr rfl rfl rfl rfl hb171) rfl rfl fun a195 h195 => wl_skip h195 (wanted_no h195.fr rfl rfl rfl rfl hb171) rfl rfl fun a196 h196 => wv h196 (r_pickF rfl rfl hb171 rfl) rfl rfl fun a197 h197 => wpList_nil <| hK169 _ _ <| x_condF h197 rfl rfl <| wp_skip <| hK33 _ _ <| wp_region_lit <| wms 1 h197 rfl fun a198 h198 => wv h198 (r_subI (p := ((j : Nat) : Int)) (q := 1) rfl rfl rfl (show -9223372036854775808 ≤ ((j : Nat) : Int) - 1 ∧ ((j : Nat) : Int) - 1 < 9223372036854775808 from (by omega))) rfl rfl fun a199 h199 => ?_; clear h170 h192 h193 h194 h195 h196 h197 h198
   refine wms 1 h199 rfl fun a200 h200 => wpList_nil <| x_again ⟨_, ?_, j, l2, ag2, ?_, ?_, ?_, ?_, h200.nrm ⟨rfl, rfl, rfl, rfl, rfl, trivial⟩ [2, 3] (by decide) ⟨rfl, rfl, trivial⟩, rfl⟩; clear h199
   · rw [hm26]; omega
   · omega
   · first | exact hdi2 | exact hdi2.set (by omega) (hneed ▸ (by assumption))
   · first | (intro h; cases h; done) | exact vr_same h20 (fun h => by first | assumption | exact absurd (h.symm.trans (hneed.symm.trans (show ib2 = false by assumption))) (by decide))
   · first | exact h21 | (intro _; exact Nat.lt_of_le_of_lt (vr_le h20 (fun e => by rw [e]) h21) (cntV_set (by omega) (by assumption)))
  have hp31 : ¬ (0 ≤ ((k : Nat) : Int) - 1) := of_decide_eq_false hb31
  refine wp_exit ?_
  change ∃ _m, _m < _ ∧ _
  refine ⟨_, ?_, l2, ag2, ?_, ?_, h30.nrm ⟨rfl, rfl, rfl, rfl, trivial⟩ [0, 1] (by decide) ⟨rfl, rfl, trivial⟩, rfl⟩
  · rw [hm14]; exact vr_down (by assumption) (by have h8 := cntV_le l2; rw [hdi2.l1] at h8; exact h8) h20 (fun e => by rw [e]) h21
  · exact hdi2
  · exact fun h i hi => (h20 h).2 i (by omega) hi
 refine wp_exit <| hK11 _ _ <| wp_seq_k fun K201 hK201 => wp_region_lit <| wms 2 h17 rfl fun a202 h202 => wpList_nil <| hK201 _ _ <| wp_ret ?_; clear h17
 try simp only [Exit.then, Exit.inBlock]
 refine x_ret1 (fn := Try.f115) (t := 4) rfl h202 rfl <| ⟨⟨v9, l⟩, rfl, rv_fin hf hdi (hcl (by assumption)), (h202.sh.sel (L' := [.own 4 (⟨v9, l⟩ : Ls Bool)]) [0] (by decide) ⟨rfl, trivial⟩)⟩

set_option maxRecDepth 100000 in
set_option maxHeartbeats 4000000 in
theorem rSets_c (x : Ls Ins) (rg : Int) (f : Nat → Nat → Bool) (W : World) (hx : x.At W) (hl : x.l.length ≤ 5000) (hj : JumpsOK x.l) (hok : OkV x.l rg) (hf : ∀ r j, (f r j = true ↔ LiveI x.l r j)) (hrg : 0 ≤ rg ∧ rg ≤ 200) :
    Rets Try.prog 73 [x.v, .int .i64 ((rg.toNat : Nat) : Int)] W (fun v w' => ∃ s : Ls (Ls Bool), v = s.v ∧ s.l.map (·.l) = (List.range (x.l.length + 1)).map (fun a => (List.range rg.toNat).map fun b => f b a) ∧ Sh0 W w' [.deep 92 s]) := by
 refine x_enter (N := 50) Try.func73 rfl Try.ntmps73 (Nat.le_of_ble_eq_true rfl) fun a1 hf1 => ?_
 have h1 : St 50 (fun _ => False) W a1 W [(0, x.v), (1, .int .i64 ((rg.toNat : Nat) : Int))] [.at_ x] := ⟨hf1.sub ⟨rfl, rfl, trivial⟩, Sh0.ext1 hx⟩
 clear hf1
 refine wp_seq_k fun K2 hK2 => wp_region_lit <| wms 1 h1 rfl fun a3 h3 => wpList_nil <| hK2 _ _ <| wp_seq_k fun K4 hK4 => wp_region_lit <| wms 1 h3 rfl fun a5 h5 => ?_; clear h1 h3
 have hl6 : x.l.length ≤ 140737488355328 := (h5.sh.at 0 rfl).len
 refine wv h5 (r_len (s := x) (n := x.l.length) sl_33 rfl rfl (fun w h => (h.at 0 rfl)) rfl) rfl rfl fun a7 h7 => wv h7 (r_addN (p := x.l.length) (q := 1) rfl rfl rfl (show x.l.length + 1 < 9223372036854775808 from (by omega))) rfl rfl fun a8 h8 => wl_ex (x_makeMat (n := x.l.length + 1) h8 sl_90 ti_92 rfl rfl rfl (show 24 * (x.l.length + 1) ≤ 140737488355328 ∧ x.l.length + 1 ≤ 140737488355328 from (by omega)) rfl rfl 4 Bool) (wanted_none rfl _) ?_; clear h5 h7
 rintro a9 w9 ⟨v9, h9⟩; clear h8
 refine wms 1 h9 rfl fun a10 h10 => wpList_nil <| hK4 _ _ <| wp_seq_k fun K11 hK11 => wp_seq_k fun K12 hK12 => wp_region_lit <| wms 1 h10 rfl fun a13 h13 => wpList_nil <| hK12 _ _ <| wp_block <| x_loop (fun m a w => ∃ (i : Nat) (M : List (Ls Bool)), (i ≤ x.l.length + 1) ∧ (M.length = x.l.length + 1) ∧ (∀ a, a < i → (nth M a).l = List.replicate rg.toNat false) ∧ St 50 (fun _ => False) W a w [(0, x.v), (1, .int .i64 ((rg.toNat : Nat) : Int)), (5, v9), (6, .int .i64 ((i : Nat) : Int))] [.big (matX (.own 4) 92 v9 M), .at_ x] ∧ m = x.l.length + 1 - i) ⟨_, 0, List.replicate (x.l.length + 1) (⟨.slice none 0 0, []⟩ : Ls Bool), (by omega), (by simp), (fun a ha => absurd ha (by omega)), h13.nrm ⟨rfl, rfl, rfl, rfl, trivial⟩ [0, 1] (by decide) ⟨rfl, rfl, trivial⟩, rfl⟩ ?_; clear h9 h10
 clear h13
 rintro m14 a14 w14 ⟨i, M, hi, hM, hz, h14, hm14⟩
 refine wp_seq_k fun K15 hK15 => wp_seq_k fun K16 hK16 => wp_region_lit <| wms 2 h14 rfl fun a17 h17 => wv h17 (r_len (s := x) (n := x.l.length) sl_33 rfl rfl (fun w h => (h.at 1 rfl)) rfl) rfl rfl fun a18 h18 => wv h18 (r_leqN (p := i) (q := x.l.length) rfl rfl rfl) rfl rfl fun a19 h19 => wpList_nil <| hK16 _ _ <| x_cond h19 rfl (fun hb20 => ?_) (fun hb20 => ?_); clear h14 h17 h18
 ·have hp20 : i ≤ x.l.length := of_decide_eq_true hb20
  refine wp_skip <| hK15 _ _ <| wp_seq_k fun K21 hK21 => wp_block <| wp_region_lit <| wms 3 h19 rfl fun a22 h22 => wl_ex (x_make (n := rg.toNat) (false : Bool) h22 sl_92 ti_4 rfl rfl rfl rfl rfl (show 1 * rg.toNat ≤ 140737488355328 ∧ rg.toNat ≤ 140737488355328 from (by omega)) (fun w => Flat.inner _ _) (fun b => Flat.on _ _) rfl rfl) (wanted_none rfl _) ?_; clear h19
  rintro a23 w23 ⟨v23, h23⟩; clear h22
  refine wv h23 (r_ixN (s := (⟨v9, rvs M⟩ : Ls RV)) (q := i) sl_90 ti_92 rfl rfl rfl (fun w h => (h.matAt 1 rfl)) (by rw [rvs_len]; exact (show i < M.length from (by first | omega | (rw [hw3 _ (by omega)]; omega) | (simp only [lens9]; omega))))) rfl rfl fun a24 h24 => ?_; clear h23
  have ha25 := (h24.sh.own 0 rfl)
  have h26 := h24.sel (L' := [.big (matX (.own 4) 92 v9 M), .own 4 (⟨v23, List.replicate rg.toNat false⟩ : Ls Bool), .at_ x]) [1, 0, 2] (by decide) ⟨rfl, rfl, rfl, trivial⟩
  refine wl_ex (x_stMat (i := i) (s := (⟨v23, List.replicate rg.toNat false⟩ : Ls Bool)) h26 ti_92 rfl rfl rfl rfl (show i < M.length from (by omega)) ha25) (wanted_none rfl _) ?_
  rintro a27 w27 h27
  clear h26
  refine wpList_nil <| hK21 _ _ <| wp_region_lit <| wms 1 h27 rfl fun a28 h28 => wv h28 (r_addN (p := i) (q := 1) rfl rfl rfl (show i + 1 < 9223372036854775808 from (by omega))) rfl rfl fun a29 h29 => wms 1 h29 rfl fun a30 h30 => wpList_nil <| x_again ⟨_, ?_, i + 1, M.set i (⟨v23, List.replicate rg.toNat false⟩ : Ls Bool), ?_, ?_, ?_, h30.nrm ⟨rfl, rfl, rfl, rfl, trivial⟩ [0, 1] (by decide) ⟨rfl, rfl, trivial⟩, rfl⟩; clear h27 h28 h29
  · rw [hm14]; first | omega | (simp only [lens9]; omega)
  · omega
  · rw [List.length_set]; exact hM
  · intro a ha; rw [nth_set]; split; rfl; exact hz a (by omega)
 have hp20 : ¬ (i ≤ x.l.length) := of_decide_eq_false hb20
 refine wp_exit <| hK11 _ _ <| wp_seq_k fun K31 hK31 => wp_seq_k fun K32 hK32 => wp_region_lit <| wms 1 h19 rfl fun a33 h33 => wpList_nil <| hK32 _ _ <| wp_block <| x_loop (fun m a w => ∃ (r : Nat) (M2 : List (Ls Bool)), (r ≤ rg.toNat) ∧ (M2.length = x.l.length + 1) ∧ (∀ a, a < x.l.length + 1 → (nth M2 a).l.length = rg.toNat) ∧ (∀ a, a < x.l.length + 1 → ∀ b, b < r → nth (nth M2 a).l b = f b a) ∧ St 50 (fun _ => False) W a w [(0, x.v), (1, .int .i64 ((rg.toNat : Nat) : Int)), (5, v9), (7, .int .i64 ((r : Nat) : Int))] [.big (matX (.own 4) 92 v9 M2), .at_ x] ∧ m = rg.toNat - r) ⟨_, 0, M, (by omega), (hM), (fun a ha => by rw [hz a (by omega)]; simp), (fun a ha b hb => absurd hb (by omega)), h33.nrm ⟨rfl, rfl, rfl, rfl, trivial⟩ [0, 1] (by decide) ⟨rfl, rfl, trivial⟩, rfl⟩ ?_; clear h19
 clear h33
 rintro m34 a34 w34 ⟨r, M2, hr, hM2, hw2, hv2, h34, hm34⟩
 refine wp_seq_k fun K35 hK35 => wp_seq_k fun K36 hK36 => wp_region_lit <| wms 2 h34 rfl fun a37 h37 => wv h37 (r_lssN (p := r) (q := rg.toNat) rfl rfl rfl) rfl rfl fun a38 h38 => wpList_nil <| hK36 _ _ <| x_cond h38 rfl (fun hb39 => ?_) (fun hb39 => ?_); clear h34 h37
 ·have hp39 : r < rg.toNat := of_decide_eq_true hb39
  refine wp_skip <| hK35 _ _ <| wp_seq_k fun K40 hK40 => wp_block <| wp_seq_k fun K41 hK41 => wp_region_lit <| wms 2 h38 rfl fun a42 h42 => wl_ex (x_call h42 bd_115 rfl rfl rfl rfl rfl (rAhead_c x r rg f _ (h42.sh.at 1 rfl) hl hj hok hf)) (wanted_none rfl _) ?_; clear h38
  rintro a43 w43 ⟨_, ⟨s43, rfl, ha43, hs43⟩, hf43⟩
  have h43 := (⟨hf43, h42.sh.call hs43 (by intro A hA b hb; first | (simp at hA; done) | (simp at hA; subst hA; first | exact Flat.noRd hb | exact (hb : False).elim) | (simp at hA; rcases hA with rfl | rfl <;> first | exact Flat.noRd hb | exact (hb : False).elim))⟩ : St 50 (fun _ => False) W a43 w43 _ _)
  clear hf43 hs43
  clear h42
  refine wms 1 h43 rfl fun a44 h44 => wpList_nil <| hK41 _ _ <| wp_seq_k fun K45 hK45 => wp_region_lit <| wms 1 h44 rfl fun a46 h46 => wpList_nil <| hK45 _ _ <| wp_block ?_; clear h43 h44
  have hal : s43.l.length = x.l.length + 1 := by rw [ha43]; simp
  have han : ∀ q, q < x.l.length + 1 → nth s43.l q = f r q := fun q hq => by rw [ha43]; exact nth_mapR hq
  refine x_loop (fun m a w => ∃ (i3 : Nat) (M3 : List (Ls Bool)), (i3 ≤ x.l.length + 1) ∧ (M3.length = x.l.length + 1) ∧ (∀ a, a < x.l.length + 1 → (nth M3 a).l.length = rg.toNat) ∧ (∀ a, a < x.l.length + 1 → ∀ b, b < r → nth (nth M3 a).l b = f b a) ∧ (∀ a, a < i3 → nth (nth M3 a).l r = f r a) ∧ St 50 (fun _ => False) W a w [(0, x.v), (1, .int .i64 ((rg.toNat : Nat) : Int)), (5, v9), (7, .int .i64 ((r : Nat) : Int)), (8, s43.v), (9, .int .i64 ((i3 : Nat) : Int))] [.own 4 s43, .big (matX (.own 4) 92 v9 M3), .at_ x] ∧ m = x.l.length + 1 - i3) ⟨_, 0, M2, (by omega), (hM2), (hw2), (hv2), (fun a ha => absurd ha (by omega)), h46.nrm ⟨rfl, rfl, rfl, rfl, rfl, rfl, trivial⟩ [0, 1, 2] (by decide) ⟨rfl, rfl, rfl, trivial⟩, rfl⟩ ?_
  clear h46
  rintro m47 a47 w47 ⟨i3, M3, hi3, hM3, hw3, hv3, hn3, h47, hm47⟩
  refine wp_seq_k fun K48 hK48 => wp_seq_k fun K49 hK49 => wp_region_lit <| wms 2 h47 rfl fun a50 h50 => wv h50 (r_len (s := x) (n := x.l.length) sl_33 rfl rfl (fun w h => (h.at 2 rfl)) rfl) rfl rfl fun a51 h51 => wv h51 (r_leqN (p := i3) (q := x.l.length) rfl rfl rfl) rfl rfl fun a52 h52 => wpList_nil <| hK49 _ _ <| x_cond h52 rfl (fun hb53 => ?_) (fun hb53 => ?_); clear h47 h50 h51
  ·have hp53 : i3 ≤ x.l.length := of_decide_eq_true hb53
   refine wp_skip <| hK48 _ _ <| wp_seq_k fun K54 hK54 => wp_block <| x_tail 10 [] (by kernel_rfl) (by kernel_rfl) h52 fun Z55 hZ55 => ?_
   have hq55 := h52.fr
   refine wq_val hq55 (r_move rfl rfl) (wanted_none rfl _) rfl rfl fun a56 hq56 => wq_val hq56 (r_move rfl rfl) (wanted_none rfl _) rfl rfl fun a57 hq57 => wq_val hq57 (r_ixN (s := (⟨v9, rvs M3⟩ : Ls RV)) (q := i3) sl_90 ti_92 rfl rfl rfl (fun w h => (h.matAt 1 rfl)) (by rw [rvs_len]; exact (show i3 < M3.length from (by first | omega | (rw [hw3 _ (by omega)]; omega) | (simp only [lens9]; omega))))) (wanted_none rfl _) rfl rfl fun a58 hq58 => wq_val hq58 (Rn.same (r_lde (s := (⟨v9, rvs M3⟩ : Ls RV)) (i := i3) (v := (nth (rvs M3) i3).v) ti_92 rfl rfl rfl (fun w h => h.matAt 1 rfl) (by rw [rvs_len]; exact (show i3 < M3.length from (by omega))) (Nat.le_of_ble_eq_true rfl) rfl) (nth_rvs M3 i3)) (wanted_none rfl _) rfl rfl fun a59 hq59 => wq_val hq59 (r_move rfl rfl) (wanted_none rfl _) rfl rfl fun a60 hq60 => wq_val hq60 (r_move rfl rfl) (wanted_none rfl _) rfl rfl fun a61 hq61 => wq_val hq61 (r_move rfl rfl) (wanted_none rfl _) rfl rfl fun a62 hq62 => ?_; clear hq55 hq56 hq57 hq58 hq59 hq60 hq61
   have hl63 : s43.l.length ≤ 140737488355328 := (h52.sh.own 0 rfl).len
   refine wq_val hq62 (r_ixN (s := s43) (q := i3) sl_92 ti_4 rfl rfl rfl (fun w h => (h.own 0 rfl)) (show i3 < s43.l.length from (by first | omega | (rw [hw3 _ (by omega)]; omega) | (simp only [lens9]; omega)))) (wanted_none rfl _) rfl rfl fun a64 hq64 => wq_val hq64 (r_lde (s := s43) (i := i3) (v := .bool (nth s43.l i3)) ti_4 rfl rfl rfl (fun w h => (h.own 0 rfl)) (show i3 < s43.l.length from (by omega)) (Nat.le_of_ble_eq_true rfl) rfl) (wanted_none rfl _) rfl rfl fun a65 hq65 => ?_; clear hq62 hq64
   have hl66 : ((nth M3 i3).l).length ≤ 140737488355328 := (h52.sh.matRow 1 rfl i3 (show i3 < M3.length from (by omega))).len
   refine wq_val hq65 (r_ixN (s := (nth M3 i3)) (q := r) sl_92 ti_4 rfl rfl rfl (fun w h => (h.matRow 1 rfl i3 (show i3 < M3.length from (by omega)))) (show r < ((nth M3 i3).l).length from (by first | omega | (rw [hw3 _ (by omega)]; omega) | (simp only [lens9]; omega)))) (wanted_none rfl _) rfl rfl fun a67 hq67 => wpQuiet_nil (hZ55 _ fun w68 hw68 => ?_); clear hq65
   have h68 : St 50 (fun _ => False) W a67 w68 _ _ := ⟨hq67, hw68⟩
   clear hq67 hw68 h52
   have h69 := h68.sel (L' := [.big (matX (.own 4) 92 v9 M3), .own 4 s43, .at_ x]) [1, 0, 2] (by decide) ⟨rfl, rfl, rfl, trivial⟩
   refine wl_ex (x_stMatE (i := i3) (q := r) (x' := (nth s43.l i3 : Bool)) h69 ti_4 rfl rfl rfl rfl (show i3 < M3.length from (by omega)) (show r < (nth M3 i3).l.length from (by rw [hw3 _ (by omega)]; omega)) rfl rfl rfl rfl) (wanted_none rfl _) ?_
   rintro a70 w70 h70
   clear h69
   refine wpList_nil <| hK54 _ _ <| wp_region_lit <| wms 1 h70 rfl fun a71 h71 => wv h71 (r_addN (p := i3) (q := 1) rfl rfl rfl (show i3 + 1 < 9223372036854775808 from (by omega))) rfl rfl fun a72 h72 => wms 1 h72 rfl fun a73 h73 => wpList_nil <| x_again ⟨_, ?_, i3 + 1, M3.set i3 ⟨(nth M3 i3).v, (nth M3 i3).l.set r (nth s43.l i3)⟩, ?_, ?_, ?_, ?_, ?_, h73.nrm ⟨rfl, rfl, rfl, rfl, rfl, rfl, trivial⟩ [1, 0, 2] (by decide) ⟨rfl, rfl, rfl, trivial⟩, rfl⟩; clear h70 h71 h72
   · rw [hm47]; first | omega | (simp only [lens9]; omega)
   · omega
   · rw [List.length_set]; exact hM3
   · intro a ha; rw [nth_set]; split; (rename_i h9; rw [List.length_set, h9.1]; exact hw3 a ha); exact hw3 a ha
   · intro a ha b hb; rw [nth_set]; split; (rename_i h9; rw [nth_set, if_neg (by omega), h9.1]; exact hv3 a ha b hb); exact hv3 a ha b hb
   · intro a ha; rw [nth_set]; split; (rename_i h9; rw [nth_set, if_pos ⟨rfl, by rw [hw3 _ (by omega)]; omega⟩, han _ (by omega), h9.1]); (rename_i h9; exact hn3 a (by omega))
  have hp53 : ¬ (i3 ≤ x.l.length) := of_decide_eq_false hb53
  refine wp_exit <| hK40 _ _ <| wp_region_lit <| wms 1 h52 rfl fun a74 h74 => wv h74 (r_addN (p := r) (q := 1) rfl rfl rfl (show r + 1 < 9223372036854775808 from (by omega))) rfl rfl fun a75 h75 => wms 1 h75 rfl fun a76 h76 => wpList_nil <| x_again ⟨_, ?_, r + 1, M3, ?_, ?_, ?_, ?_, h76.nrm ⟨rfl, rfl, rfl, rfl, trivial⟩ [1, 2] (by decide) ⟨rfl, rfl, trivial⟩, rfl⟩; clear h52 h74 h75
  · rw [hm34]; first | omega | (simp only [lens9]; omega)
  · omega
  · exact hM3
  · exact hw3
  · intro a ha b hb; rcases Nat.lt_or_ge b r with h9 | h9; (exact hv3 a ha b h9); obtain rfl : b = r := (by omega); exact hn3 a (by omega)
 have hp39 : ¬ (r < rg.toNat) := of_decide_eq_false hb39
 refine wp_exit <| hK31 _ _ <| wp_seq_k fun K77 hK77 => wp_region_lit <| wms 2 h38 rfl fun a78 h78 => wpList_nil <| hK77 _ _ <| wp_ret ?_; clear h38
 try simp only [Exit.then, Exit.inBlock]
 refine x_ret1 (fn := Try.f73) (t := 4) rfl h78 rfl ?_
 have hD := h78.sh.matDeep own_mat
 have hD2 : Sh0 W w34 [.deep 92 (⟨v9, M2⟩ : Ls (Ls Bool))] := hD.sel [0] (by decide) ⟨rfl, trivial⟩
 refine ⟨⟨v9, M2⟩, rfl, ?_, hD2⟩
 refine rows_eq hM2 fun a ha => eq_mapR (hw2 a ha) fun b hb => hv2 a ha b (by omega)

set_option maxRecDepth 100000 in
set_option maxHeartbeats 4000000 in
theorem rClash_c (x : Ls Ins) (rg : Int) (f : Nat → Nat → Bool) (W : World) (hx : x.At W) (hl : x.l.length ≤ 5000) (hj : JumpsOK x.l) (hok : OkV x.l rg) (hf : ∀ r j, (f r j = true ↔ LiveI x.l r j)) (hrg : 0 ≤ rg ∧ rg ≤ 200) :
    Rets Try.prog 59 [x.v, .int .i64 ((rg.toNat : Nat) : Int)] W (fun v w' => ∃ s : Ls (Ls Bool), v = s.v ∧ s.l.map (·.l) = (List.range rg.toNat).map (fun a => (List.range rg.toNat).map fun b => clTo x.l f x.l.length a b) ∧ Sh0 W w' [.deep 92 s]) := by
 refine x_enter (N := 83) Try.func59 rfl Try.ntmps59 (Nat.le_of_ble_eq_true rfl) fun a1 hf1 => ?_
 have h1 : St 83 (fun _ => False) W a1 W [(0, x.v), (1, .int .i64 ((rg.toNat : Nat) : Int))] [.at_ x] := ⟨hf1.sub ⟨rfl, rfl, trivial⟩, Sh0.ext1 hx⟩
 clear hf1
 refine wp_seq_k fun K2 hK2 => wp_region_lit <| wms 1 h1 rfl fun a3 h3 => wpList_nil <| hK2 _ _ <| wp_seq_k fun K4 hK4 => wp_region_lit <| wms 2 h3 rfl fun a5 h5 => wl_ex (x_call h5 bd_73 rfl rfl rfl rfl rfl (rSets_c x rg f _ (h5.sh.at 0 rfl) hl hj hok hf hrg)) (wanted_none rfl _) ?_; clear h1 h3
 rintro a6 w6 ⟨_, ⟨s6, rfl, hse, hs6⟩, hf6⟩
 have h6 := (⟨hf6, h5.sh.call hs6 (by intro A hA b hb; first | (simp at hA; done) | (simp at hA; subst hA; first | exact Flat.noRd hb | exact (hb : False).elim) | (simp at hA; rcases hA with rfl | rfl <;> first | exact Flat.noRd hb | exact (hb : False).elim))⟩ : St 83 (fun _ => False) W a6 w6 _ _)
 clear hf6 hs6
 clear h5
 refine wms 1 h6 rfl fun a7 h7 => wpList_nil <| hK4 _ _ <| wp_seq_k fun K8 hK8 => wp_region_lit <| wms 1 h7 rfl fun a9 h9 => wl_ex (x_makeMat (n := rg.toNat) h9 sl_90 ti_92 rfl rfl rfl (show 24 * rg.toNat ≤ 140737488355328 ∧ rg.toNat ≤ 140737488355328 from (by omega)) rfl rfl 4 Bool) (wanted_none rfl _) ?_; clear h6 h7
 rintro a10 w10 ⟨v10, h10⟩; clear h9
 refine wms 1 h10 rfl fun a11 h11 => wpList_nil <| hK8 _ _ <| wp_seq_k fun K12 hK12 => wp_seq_k fun K13 hK13 => wp_region_lit <| wms 1 h11 rfl fun a14 h14 => wpList_nil <| hK13 _ _ <| wp_block ?_; clear h10 h11
 obtain ⟨hsl, hsv⟩ := rowsV hse
 refine x_loop (fun m a w => ∃ (i : Nat) (M : List (Ls Bool)), (i ≤ rg.toNat) ∧ (M.length = rg.toNat) ∧ (∀ a, a < i → (nth M a).l = List.replicate rg.toNat false) ∧ St 83 (fun _ => False) W a w [(0, x.v), (1, .int .i64 ((rg.toNat : Nat) : Int)), (5, s6.v), (6, v10), (7, .int .i64 ((i : Nat) : Int))] [.big (matX (.own 4) 92 v10 M), .deep 92 s6, .at_ x] ∧ m = rg.toNat - i) ⟨_, 0, List.replicate rg.toNat (⟨.slice none 0 0, []⟩ : Ls Bool), (by omega), (by simp), (fun a ha => absurd ha (by omega)), h14.nrm ⟨rfl, rfl, rfl, rfl, rfl, trivial⟩ [0, 1, 2] (by decide) ⟨rfl, rfl, rfl, trivial⟩, rfl⟩ ?_
 clear h14
 rintro m15 a15 w15 ⟨i, M, hi, hM, hz, h15, hm15⟩
 refine wp_seq_k fun K16 hK16 => wp_seq_k fun K17 hK17 => wp_region_lit <| wms 2 h15 rfl fun a18 h18 => wv h18 (r_lssN (p := i) (q := rg.toNat) rfl rfl rfl) rfl rfl fun a19 h19 => wpList_nil <| hK17 _ _ <| x_cond h19 rfl (fun hb20 => ?_) (fun hb20 => ?_); clear h15 h18
 ·have hp20 : i < rg.toNat := of_decide_eq_true hb20
  refine wp_skip <| hK16 _ _ <| wp_seq_k fun K21 hK21 => wp_block <| wp_region_lit <| wms 3 h19 rfl fun a22 h22 => wl_ex (x_make (n := rg.toNat) (false : Bool) h22 sl_92 ti_4 rfl rfl rfl rfl rfl (show 1 * rg.toNat ≤ 140737488355328 ∧ rg.toNat ≤ 140737488355328 from (by omega)) (fun w => Flat.inner _ _) (fun b => Flat.on _ _) rfl rfl) (wanted_none rfl _) ?_; clear h19
  rintro a23 w23 ⟨v23, h23⟩; clear h22
  refine wv h23 (r_ixN (s := (⟨v10, rvs M⟩ : Ls RV)) (q := i) sl_90 ti_92 rfl rfl rfl (fun w h => (h.matAt 1 rfl)) (by rw [rvs_len]; exact (show i < M.length from (by first | omega | (rw [hw4 _ (by omega)]; omega) | (rw [set_len2 hw4 _ (by omega)]; omega) | (simp only [lens9]; omega))))) rfl rfl fun a24 h24 => ?_; clear h23
  have ha25 := (h24.sh.own 0 rfl)
  have h26 := h24.sel (L' := [.big (matX (.own 4) 92 v10 M), .own 4 (⟨v23, List.replicate rg.toNat false⟩ : Ls Bool), .deep 92 s6, .at_ x]) [1, 0, 2, 3] (by decide) ⟨rfl, rfl, rfl, rfl, trivial⟩
  refine wl_ex (x_stMat (i := i) (s := (⟨v23, List.replicate rg.toNat false⟩ : Ls Bool)) h26 ti_92 rfl rfl rfl rfl (show i < M.length from (by omega)) ha25) (wanted_none rfl _) ?_
  rintro a27 w27 h27
  clear h26
  refine wpList_nil <| hK21 _ _ <| wp_region_lit <| wms 1 h27 rfl fun a28 h28 => wv h28 (r_addN (p := i) (q := 1) rfl rfl rfl (show i + 1 < 9223372036854775808 from (by omega))) rfl rfl fun a29 h29 => wms 1 h29 rfl fun a30 h30 => wpList_nil <| x_again ⟨_, ?_, i + 1, M.set i (⟨v23, List.replicate rg.toNat false⟩ : Ls Bool), ?_, ?_, ?_, h30.nrm ⟨rfl, rfl, rfl, rfl, rfl, trivial⟩ [0, 1, 2] (by decide) ⟨rfl, rfl, rfl, trivial⟩, rfl⟩; clear h27 h28 h29
  · rw [hm15]; first | omega | (simp only [lens9]; omega)
  · omega
  · rw [List.length_set]; exact hM
  · intro a ha; rw [nth_set]; split; rfl; exact hz a (by omega)
 have hp20 : ¬ (i < rg.toNat) := of_decide_eq_false hb20
 refine wp_exit <| hK12 _ _ <| wp_seq_k fun K31 hK31 => wp_seq_k fun K32 hK32 => wp_region_lit <| wms 1 h19 rfl fun a33 h33 => wpList_nil <| hK32 _ _ <| wp_block <| x_loop (fun m a w => ∃ (k : Nat) (M2 : List (Ls Bool)), (k ≤ x.l.length) ∧ (M2.length = rg.toNat) ∧ (∀ a, a < rg.toNat → (nth M2 a).l.length = rg.toNat) ∧ (∀ a b, a < rg.toNat → b < rg.toNat → get2 (fun s : Ls Bool => s.l) M2 a b = clTo x.l f k a b) ∧ St 83 (fun _ => False) W a w [(0, x.v), (1, .int .i64 ((rg.toNat : Nat) : Int)), (5, s6.v), (6, v10), (8, .int .i64 ((k : Nat) : Int))] [.big (matX (.own 4) 92 v10 M2), .deep 92 s6, .at_ x] ∧ m = x.l.length - k) ⟨_, 0, M, (by omega), (hM), (fun a ha => by rw [hz a (by omega)]; simp), (fun a b ha hb => by show nth (nth M a).l b = _; rw [hz a (by omega), zerosV]; rfl), h33.nrm ⟨rfl, rfl, rfl, rfl, rfl, trivial⟩ [0, 1, 2] (by decide) ⟨rfl, rfl, rfl, trivial⟩, rfl⟩ ?_; clear h19
 clear h33
 rintro m34 a34 w34 ⟨k, M2, hk, hM2, hw2, hv2, h34, hm34⟩
 refine wp_seq_k fun K35 hK35 => wp_seq_k fun K36 hK36 => wp_region_lit <| wms 2 h34 rfl fun a37 h37 => ?_; clear h34
 have hl38 : x.l.length ≤ 140737488355328 := (h37.sh.at 2 rfl).len
 refine wv h37 (r_len (s := x) (n := x.l.length) sl_33 rfl rfl (fun w h => (h.at 2 rfl)) rfl) rfl rfl fun a39 h39 => wv h39 (r_lssN (p := k) (q := x.l.length) rfl rfl rfl) rfl rfl fun a40 h40 => wpList_nil <| hK36 _ _ <| x_cond h40 rfl (fun hb41 => ?_) (fun hb41 => ?_); clear h37 h39
 ·have hp41 : k < x.l.length := of_decide_eq_true hb41
  refine wp_skip <| hK35 _ _ <| wp_seq_k fun K42 hK42 => wp_block <| wp_seq_k fun K43 hK43 => wp_region_lit <| wms 2 h40 rfl fun a44 h44 => wv h44 (r_ixN (s := x) (q := k) sl_33 ti_32 rfl rfl rfl (fun w h => (h.at 2 rfl)) (show k < x.l.length from (by first | omega | (rw [hw4 _ (by omega)]; omega) | (rw [set_len2 hw4 _ (by omega)]; omega) | (simp only [lens9]; omega)))) rfl rfl fun a45 h45 => wv h45 (r_ldew (s := x) (i := k) (vs := [.int .i64 ((nth x.l k).op), .int .i64 ((nth x.l k).a), .int .i64 ((nth x.l k).b), .int .i64 ((nth x.l k).c)]) ti_32 rfl rfl rfl (fun w h => (h.at 2 rfl)) (show k < x.l.length from (by omega)) (Nat.le_of_ble_eq_true rfl) rfl) rfl rfl fun a46 h46 => wl_ex (x_call h46 bd_107 rfl rfl rfl rfl rfl (rWrites_c (nth x.l k) _ (by have h8 := (hok k (by omega)).1; omega))) (wanted_none rfl _) ?_; clear h40 h44 h45
  rintro a47 w47 ⟨_, ⟨rfl, hs47⟩, hf47⟩
  have h47 : St 83 (fun _ => False) W a47 w47 _ _ := ⟨hf47, h46.sh.call0 hs47⟩
  clear hf47 hs47
  clear h46
  refine wms 1 h47 rfl fun a48 h48 => wpList_nil <| hK43 _ _ <| wp_seq_k fun K49 hK49 => wp_seq_k fun K50 hK50 => wp_region_lit <| wms 1 h48 rfl fun a51 h51 => wv h51 (r_lssI (p := wrG (nth x.l k)) (q := 0) rfl rfl rfl) rfl rfl fun a52 h52 => wpList_nil <| hK50 _ _ <| x_cond h52 rfl (fun hb53 => ?_) (fun hb53 => ?_); clear h47 h48 h51
  ·have hp53 : wrG (nth x.l k) < 0 := of_decide_eq_true hb53
   refine wp_exit <| hK42 _ _ <| wp_region_lit <| wms 1 h52 rfl fun a54 h54 => wv h54 (r_addN (p := k) (q := 1) rfl rfl rfl (show k + 1 < 9223372036854775808 from (by omega))) rfl rfl fun a55 h55 => wms 1 h55 rfl fun a56 h56 => wpList_nil <| x_again ⟨_, ?_, k + 1, M2, ?_, ?_, ?_, ?_, h56.nrm ⟨rfl, rfl, rfl, rfl, rfl, trivial⟩ [0, 1, 2] (by decide) ⟨rfl, rfl, rfl, trivial⟩, rfl⟩; clear h52 h54 h55
   · rw [hm34]; first | omega | (simp only [lens9]; omega)
   · omega
   · first | exact hM3 | exact hM2
   · first | exact hw3 | exact hw2
   · first | (intro a b ha hb; rw [clTo_succ, hv3 a b ha hb, any_all (by omega)]; done) | (intro a b ha hb; rw [clTo_skip (by assumption)]; exact hv2 a b ha hb)
  have hp53 : ¬ (wrG (nth x.l k) < 0) := of_decide_eq_false hb53
  refine wp_skip <| hK49 _ _ <| wp_seq_k fun K57 hK57 => wp_region_lit <| wms 2 h52 rfl fun a58 h58 => wl_ex (x_call h58 bd_108 rfl rfl rfl rfl rfl (rNexts_c x k _ (h58.sh.at 2 rfl) (by omega) (by omega))) (wanted_none rfl _) ?_; clear h52
  rintro a59 w59 ⟨_, ⟨s59, rfl, hs59⟩, hf59⟩
  have h59 := (⟨hf59, h58.sh.call hs59 (by intro A hA b hb; first | (simp at hA; done) | (simp at hA; subst hA; first | exact Flat.noRd hb | exact (hb : False).elim) | (simp at hA; rcases hA with rfl | rfl <;> first | exact Flat.noRd hb | exact (hb : False).elim))⟩ : St 83 (fun _ => False) W a59 w59 _ _)
  clear hf59 hs59
  clear h58
  refine wms 1 h59 rfl fun a60 h60 => wpList_nil <| hK57 _ _ <| wp_seq_k fun K61 hK61 => wp_region_lit <| wms 1 h60 rfl fun a62 h62 => wpList_nil <| hK61 _ _ <| wp_block ?_; clear h59 h60
  have hnl := nextsV_len x.l k
  refine x_loop (fun m a w => ∃ (q : Nat) (M3 : List (Ls Bool)), (q ≤ (nextsL x.l k).length) ∧ (M3.length = rg.toNat) ∧ (∀ a, a < rg.toNat → (nth M3 a).l.length = rg.toNat) ∧ (∀ a b, a < rg.toNat → b < rg.toNat → get2 (fun s : Ls Bool => s.l) M3 a b = (clTo x.l f k a b || ((nextsL x.l k).take q).any fun y => clE (wrG (nth x.l k)) f y.toNat a b)) ∧ St 83 (fun _ => False) W a w [(0, x.v), (1, .int .i64 ((rg.toNat : Nat) : Int)), (5, s6.v), (6, v10), (8, .int .i64 ((k : Nat) : Int)), (9, .int .i64 (wrG (nth x.l k))), (10, s59.v), (11, .int .i64 ((q : Nat) : Int))] [.own 3 (⟨s59.v, nextsL x.l k⟩ : Ls Int), .big (matX (.own 4) 92 v10 M3), .deep 92 s6, .at_ x] ∧ m = (nextsL x.l k).length - q) ⟨_, 0, M2, (by omega), (hM2), (hw2), (fun a b ha hb => by rw [any_zero, Bool.or_false]; exact hv2 a b ha hb), h62.nrm ⟨rfl, rfl, rfl, rfl, rfl, rfl, rfl, rfl, trivial⟩ [0, 1, 2, 3] (by decide) ⟨rfl, rfl, rfl, rfl, trivial⟩, rfl⟩ ?_
  clear h62
  rintro m63 a63 w63 ⟨q, M3, hq, hM3, hw3, hv3, h63, hm63⟩
  refine wp_seq_k fun K64 hK64 => wp_seq_k fun K65 hK65 => wp_region_lit <| wms 2 h63 rfl fun a66 h66 => ?_; clear h63
  have hl67 : (nextsL x.l k).length ≤ 140737488355328 := (h66.sh.own 0 rfl).len
  refine wv h66 (r_len (s := (⟨s59.v, nextsL x.l k⟩ : Ls Int)) (n := (nextsL x.l k).length) sl_23 rfl rfl (fun w h => (h.own 0 rfl)) rfl) rfl rfl fun a68 h68 => wv h68 (r_lssN (p := q) (q := (nextsL x.l k).length) rfl rfl rfl) rfl rfl fun a69 h69 => wpList_nil <| hK65 _ _ <| x_cond h69 rfl (fun hb70 => ?_) (fun hb70 => ?_); clear h66 h68
  ·have hp70 : q < (nextsL x.l k).length := of_decide_eq_true hb70
   refine wp_skip <| hK64 _ _ <| wp_seq_k fun K71 hK71 => wp_block <| wp_seq_k fun K72 hK72 => wp_region_lit <| wms 1 h69 rfl fun a73 h73 => wpList_nil <| hK72 _ _ <| wp_block ?_; clear h69
   have hmm : nth (nextsL x.l k) q ∈ nextsL x.l k := nth_mem _ _ (by omega)
   have hnx := nextsV_ok hj (by omega) hmm
   have hsr := hsv (nth (nextsL x.l k) q).toNat (by omega)
   have hsrl : (nth s6.l (nth (nextsL x.l k) q).toNat).l.length = rg.toNat := by rw [hsr]; simp
   have hww := (hok k (by omega)).2.2.1
   refine x_loop (fun m a w => ∃ (r : Nat) (M4 : List (Ls Bool)), (r ≤ rg.toNat) ∧ (M4.length = rg.toNat) ∧ (∀ a, a < rg.toNat → (nth M4 a).l.length = rg.toNat) ∧ (∀ a b, a < rg.toNat → b < rg.toNat → get2 (fun s : Ls Bool => s.l) M4 a b = ((clTo x.l f k a b || ((nextsL x.l k).take q).any fun y => clE (wrG (nth x.l k)) f y.toNat a b) || clJ (wrG (nth x.l k)) f (nth (nextsL x.l k) q).toNat r a b)) ∧ St 83 (fun _ => False) W a w [(0, x.v), (1, .int .i64 ((rg.toNat : Nat) : Int)), (5, s6.v), (6, v10), (8, .int .i64 ((k : Nat) : Int)), (9, .int .i64 (wrG (nth x.l k))), (10, s59.v), (11, .int .i64 ((q : Nat) : Int)), (12, .int .i64 ((r : Nat) : Int))] [.own 3 (⟨s59.v, nextsL x.l k⟩ : Ls Int), .big (matX (.own 4) 92 v10 M4), .deep 92 s6, .at_ x] ∧ m = rg.toNat - r) ⟨_, 0, M3, (by omega), (hM3), (hw3), (fun a b ha hb => by rw [clJ_zero, Bool.or_false]; exact hv3 a b ha hb), h73.nrm ⟨rfl, rfl, rfl, rfl, rfl, rfl, rfl, rfl, rfl, trivial⟩ [0, 1, 2, 3] (by decide) ⟨rfl, rfl, rfl, rfl, trivial⟩, rfl⟩ ?_
   clear h73
   rintro m74 a74 w74 ⟨r, M4, hr, hM4, hw4, hv4, h74, hm74⟩
   refine wp_seq_k fun K75 hK75 => wp_seq_k fun K76 hK76 => wp_region_lit <| wms 2 h74 rfl fun a77 h77 => wv h77 (r_lssN (p := r) (q := rg.toNat) rfl rfl rfl) rfl rfl fun a78 h78 => wpList_nil <| hK76 _ _ <| x_cond h78 rfl (fun hb79 => ?_) (fun hb79 => ?_); clear h74 h77
   ·have hp79 : r < rg.toNat := of_decide_eq_true hb79
    refine wp_skip <| hK75 _ _ ?_
    have hfr : nth (nth s6.l (nth (nextsL x.l k) q).toNat).l r = f r (nth (nextsL x.l k) q).toNat := by rw [hsr]; exact nth_mapR (by omega)
    refine wp_seq_k fun K80 hK80 => wp_block <| wp_seq_k fun K81 hK81 => wp_region_lit <| wms 3 h78 rfl fun a82 h82 => wv h82 (r_ixN (s := (⟨s59.v, nextsL x.l k⟩ : Ls Int)) (q := q) sl_23 ti_3 rfl rfl rfl (fun w h => (h.own 0 rfl)) (show q < (nextsL x.l k).length from (by first | omega | (rw [hw4 _ (by omega)]; omega) | (rw [set_len2 hw4 _ (by omega)]; omega) | (simp only [lens9]; omega)))) rfl rfl fun a83 h83 => wv h83 (r_lde (s := (⟨s59.v, nextsL x.l k⟩ : Ls Int)) (i := q) (v := .int .i64 (nth (nextsL x.l k) q)) ti_3 rfl rfl rfl (fun w h => (h.own 0 rfl)) (show q < (nextsL x.l k).length from (by omega)) (Nat.le_of_ble_eq_true rfl) rfl) rfl rfl fun a84 h84 => ?_; clear h78 h82 h83
    have hl85 : s6.l.length ≤ 140737488355328 := (h84.sh.deep 2 rfl).len
    refine wv h84 (r_ixI (s := s6) (q := nth (nextsL x.l k) q) sl_90 ti_92 rfl rfl rfl (fun w h => (h.deep 2 rfl)) (show 0 ≤ nth (nextsL x.l k) q ∧ nth (nextsL x.l k) q < s6.l.length from (by first | omega | (rw [hw4 _ (by omega)]; omega) | (rw [set_len2 hw4 _ (by omega)]; omega) | (simp only [lens9]; omega)))) rfl rfl fun a86 h86 => wv h86 (r_lde (s := s6) (i := (nth (nextsL x.l k) q).toNat) (v := (nth s6.l ((nth (nextsL x.l k) q).toNat)).v) ti_92 rfl rfl rfl (fun w h => (h.deep 2 rfl)) (show (nth (nextsL x.l k) q).toNat < s6.l.length from (by omega)) (Nat.le_of_ble_eq_true rfl) rfl) rfl rfl fun a87 h87 => wms 1 h87 rfl fun a88 h88 => ?_; clear h84 h86 h87
    have hl89 : ((nth s6.l ((nth (nextsL x.l k) q).toNat)).l).length ≤ 140737488355328 := ((h88.sh.deep 2 rfl).nth ((nth (nextsL x.l k) q).toNat) (show (nth (nextsL x.l k) q).toNat < s6.l.length from (by omega))).len
    refine wv h88 (r_ixN (s := nth s6.l ((nth (nextsL x.l k) q).toNat)) (q := r) sl_92 ti_4 rfl rfl rfl (fun w h => ((h.deep 2 rfl).nth ((nth (nextsL x.l k) q).toNat) (show (nth (nextsL x.l k) q).toNat < s6.l.length from (by omega)))) (show r < ((nth s6.l ((nth (nextsL x.l k) q).toNat)).l).length from (by first | omega | (rw [hw4 _ (by omega)]; omega) | (rw [set_len2 hw4 _ (by omega)]; omega) | (simp only [lens9]; omega)))) rfl rfl fun a90 h90 => wv h90 (r_lde (s := nth s6.l ((nth (nextsL x.l k) q).toNat)) (i := r) (v := .bool (nth ((nth s6.l ((nth (nextsL x.l k) q).toNat)).l) r)) ti_4 rfl rfl rfl (fun w h => ((h.deep 2 rfl).nth ((nth (nextsL x.l k) q).toNat) (show (nth (nextsL x.l k) q).toNat < s6.l.length from (by omega)))) (show r < ((nth s6.l ((nth (nextsL x.l k) q).toNat)).l).length from (by omega)) (Nat.le_of_ble_eq_true rfl) rfl) rfl rfl fun a91 h91 => wms 1 h91 rfl fun a92 h92 => ?_; clear h88 h90 h91
    rcases Bool.eq_false_or_eq_true (nth ((nth s6.l ((nth (nextsL x.l k) q).toNat)).l) r) with hb93 | hb93
    ·skip
     refine wl_val h92 (r_move rfl rfl) (wanted_yes h92.fr rfl rfl rfl rfl hb93) rfl rfl fun a94 h94 => wl_val h94 (r_move rfl rfl) (wanted_yes h94.fr rfl rfl rfl rfl hb93) rfl rfl fun a95 h95 => wl_val h95 (r_neqI (p := ((r : Nat) : Int)) (q := wrG (nth x.l k)) rfl rfl rfl) (wanted_yes h95.fr rfl rfl rfl rfl hb93) rfl rfl fun a96 h96 => wv h96 (r_pickT rfl rfl hb93 rfl) rfl rfl fun a97 h97 => wpList_nil <| hK81 _ _ <| x_cond h97 rfl (fun hb98 => ?_) (fun hb98 => ?_); clear h92 h94 h95 h96
     ·have hp98 : ((r : Nat) : Int) ≠ wrG (nth x.l k) := of_decide_eq_true hb98
      refine wp_seq_k fun K99 hK99 => wp_region_lit <| wms 2 h97 rfl fun a100 h100 => wv h100 (r_ixN (s := (⟨v10, rvs M4⟩ : Ls RV)) (q := r) sl_90 ti_92 rfl rfl rfl (fun w h => (h.matAt 1 rfl)) (by rw [rvs_len]; exact (show r < M4.length from (by first | omega | (rw [hw4 _ (by omega)]; omega) | (rw [set_len2 hw4 _ (by omega)]; omega) | (simp only [lens9]; omega))))) rfl rfl fun a101 h101 => wv h101 (Rn.same (r_lde (s := (⟨v10, rvs M4⟩ : Ls RV)) (i := r) (v := (nth (rvs M4) r).v) ti_92 rfl rfl rfl (fun w h => h.matAt 1 rfl) (by rw [rvs_len]; exact (show r < M4.length from (by omega))) (Nat.le_of_ble_eq_true rfl) rfl) (nth_rvs M4 r)) rfl rfl fun a102 h102 => wms 1 h102 rfl fun a103 h103 => ?_; clear h97 h100 h101 h102
      have hl104 : ((nth M4 r).l).length ≤ 140737488355328 := (h103.sh.matRow 1 rfl r (show r < M4.length from (by omega))).len
      refine wv h103 (r_ixI (s := (nth M4 r)) (q := wrG (nth x.l k)) sl_92 ti_4 rfl rfl rfl (fun w h => (h.matRow 1 rfl r (show r < M4.length from (by omega)))) (show 0 ≤ wrG (nth x.l k) ∧ wrG (nth x.l k) < ((nth M4 r).l).length from (by first | omega | (rw [hw4 _ (by omega)]; omega) | (rw [set_len2 hw4 _ (by omega)]; omega) | (simp only [lens9]; omega)))) rfl rfl fun a105 h105 => ?_; clear h103
      have h106 := h105.sel (L' := [.big (matX (.own 4) 92 v10 M4), .own 3 (⟨s59.v, nextsL x.l k⟩ : Ls Int), .deep 92 s6, .at_ x]) [1, 0, 2, 3] (by decide) ⟨rfl, rfl, rfl, rfl, trivial⟩
      refine wl_ex (x_stMatE (i := r) (q := (wrG (nth x.l k)).toNat) (x' := (true : Bool)) h106 ti_4 rfl rfl rfl rfl (show r < M4.length from (by omega)) (show (wrG (nth x.l k)).toNat < (nth M4 r).l.length from (by first | (rw [hw4 _ (by omega)]; omega) | (rw [set_len2 hw4 _ (by omega)]; omega))) rfl rfl rfl rfl) (wanted_none rfl _) ?_
      rintro a107 w107 h107
      clear h106
      refine wpList_nil <| hK99 _ _ ?_
      have h108 : St 83 (fun _ => False) W a107 w107 [(0, x.v), (1, .int .i64 ((rg.toNat : Nat) : Int)), (5, s6.v), (6, v10), (8, .int .i64 ((k : Nat) : Int)), (9, .int .i64 (wrG (nth x.l k))), (10, s59.v), (11, .int .i64 ((q : Nat) : Int)), (12, .int .i64 ((r : Nat) : Int))] [.big (matX (.own 4) 92 v10 (M4.set r ⟨(nth M4 r).v, (nth M4 r).l.set ((wrG (nth x.l k)).toNat) true⟩)), .own 3 (⟨s59.v, nextsL x.l k⟩ : Ls Int), .deep 92 s6, .at_ x] := h107.nrm ⟨rfl, rfl, rfl, rfl, rfl, rfl, rfl, rfl, rfl, trivial⟩ [0, 1, 2, 3] (by decide) ⟨rfl, rfl, rfl, rfl, trivial⟩
      clear h107
      refine wp_region_lit <| wms 2 h108 rfl fun a109 h109 => wv h109 (r_ixI (s := (⟨v10, rvs (M4.set r ⟨(nth M4 r).v, (nth M4 r).l.set ((wrG (nth x.l k)).toNat) true⟩)⟩ : Ls RV)) (q := wrG (nth x.l k)) sl_90 ti_92 rfl rfl rfl (fun w h => (h.matAt 0 rfl)) (by rw [rvs_len]; exact (show 0 ≤ wrG (nth x.l k) ∧ wrG (nth x.l k) < (M4.set r ⟨(nth M4 r).v, (nth M4 r).l.set ((wrG (nth x.l k)).toNat) true⟩).length from (by first | omega | (rw [hw4 _ (by omega)]; omega) | (rw [set_len2 hw4 _ (by omega)]; omega) | (simp only [lens9]; omega))))) rfl rfl fun a110 h110 => wv h110 (Rn.same (r_lde (s := (⟨v10, rvs (M4.set r ⟨(nth M4 r).v, (nth M4 r).l.set ((wrG (nth x.l k)).toNat) true⟩)⟩ : Ls RV)) (i := (wrG (nth x.l k)).toNat) (v := (nth (rvs (M4.set r ⟨(nth M4 r).v, (nth M4 r).l.set ((wrG (nth x.l k)).toNat) true⟩)) ((wrG (nth x.l k)).toNat)).v) ti_92 rfl rfl rfl (fun w h => h.matAt 0 rfl) (by rw [rvs_len]; exact (show (wrG (nth x.l k)).toNat < (M4.set r ⟨(nth M4 r).v, (nth M4 r).l.set ((wrG (nth x.l k)).toNat) true⟩).length from (by first | omega | (simp only [lens9]; omega)))) (Nat.le_of_ble_eq_true rfl) rfl) (nth_rvs (M4.set r ⟨(nth M4 r).v, (nth M4 r).l.set ((wrG (nth x.l k)).toNat) true⟩) ((wrG (nth x.l k)).toNat))) rfl rfl fun a111 h111 => wms 1 h111 rfl fun a112 h112 => wv h112 (r_ixN (s := (nth (M4.set r ⟨(nth M4 r).v, (nth M4 r).l.set ((wrG (nth x.l k)).toNat) true⟩) ((wrG (nth x.l k)).toNat))) (q := r) sl_92 ti_4 rfl rfl rfl (fun w h => (h.matRow 0 rfl ((wrG (nth x.l k)).toNat) (show (wrG (nth x.l k)).toNat < (M4.set r ⟨(nth M4 r).v, (nth M4 r).l.set ((wrG (nth x.l k)).toNat) true⟩).length from (by first | omega | (simp only [lens9]; omega))))) (show r < ((nth (M4.set r ⟨(nth M4 r).v, (nth M4 r).l.set ((wrG (nth x.l k)).toNat) true⟩) ((wrG (nth x.l k)).toNat)).l).length from (by first | omega | (rw [hw4 _ (by omega)]; omega) | (rw [set_len2 hw4 _ (by omega)]; omega) | (simp only [lens9]; omega)))) rfl rfl fun a113 h113 => wl_ex (x_stMatE (i := (wrG (nth x.l k)).toNat) (q := r) (x' := (true : Bool)) h113 ti_4 rfl rfl rfl rfl (show (wrG (nth x.l k)).toNat < (M4.set r ⟨(nth M4 r).v, (nth M4 r).l.set ((wrG (nth x.l k)).toNat) true⟩).length from (by first | omega | (simp only [lens9]; omega))) (show r < (nth (M4.set r ⟨(nth M4 r).v, (nth M4 r).l.set ((wrG (nth x.l k)).toNat) true⟩) ((wrG (nth x.l k)).toNat)).l.length from (by first | (rw [hw4 _ (by omega)]; omega) | (rw [set_len2 hw4 _ (by omega)]; omega))) rfl rfl rfl rfl) (wanted_none rfl _) ?_; clear h108 h109 h110 h111 h112
      rintro a114 w114 h114
      clear h113
      refine wpList_nil <| hK80 _ _ <| wp_region_lit <| wms 1 h114 rfl fun a115 h115 => wv h115 (r_addN (p := r) (q := 1) rfl rfl rfl (show r + 1 < 9223372036854775808 from (by omega))) rfl rfl fun a116 h116 => wms 1 h116 rfl fun a117 h117 => wpList_nil <| x_again ⟨_, ?_, r + 1, (M4.set r ⟨(nth M4 r).v, (nth M4 r).l.set ((wrG (nth x.l k)).toNat) true⟩).set ((wrG (nth x.l k)).toNat) ⟨(nth (M4.set r ⟨(nth M4 r).v, (nth M4 r).l.set ((wrG (nth x.l k)).toNat) true⟩) ((wrG (nth x.l k)).toNat)).v, (nth (M4.set r ⟨(nth M4 r).v, (nth M4 r).l.set ((wrG (nth x.l k)).toNat) true⟩) ((wrG (nth x.l k)).toNat)).l.set r true⟩, ?_, ?_, ?_, ?_, h117.nrm ⟨rfl, rfl, rfl, rfl, rfl, rfl, rfl, rfl, rfl, trivial⟩ [1, 0, 2, 3] (by decide) ⟨rfl, rfl, rfl, rfl, trivial⟩, rfl⟩; clear h114 h115 h116
      · rw [hm74]; first | omega | (simp only [lens9]; omega)
      · omega
      · first | exact hM4 | (simp only [List.length_set]; exact hM4)
      · first | exact hw4 | exact set_len2 (set_len2 hw4)
      · first | exact cl_upd (wn := (wrG (nth x.l k)).toNat) (fun a b => get2_set (by omega) rfl (by rw [hw4 _ (by omega)]; omega)) (fun a b => get2_set (by simp only [List.length_set]; omega) rfl (by rw [set_len2 hw4 _ (by omega)]; omega)) hv4 (by omega) (by rw [← hfr]; assumption) (by omega) | (intro a b ha hb; rw [clJ_skip (by first | exact .inr (.inl (by rw [← hfr]; assumption)) | exact .inr (.inr (by omega))), hv4 a b ha hb])
     have hp98 : ¬ (((r : Nat) : Int) ≠ wrG (nth x.l k)) := of_decide_eq_false hb98
     refine wp_skip <| hK80 _ _ <| wp_region_lit <| wms 1 h97 rfl fun a118 h118 => wv h118 (r_addN (p := r) (q := 1) rfl rfl rfl (show r + 1 < 9223372036854775808 from (by omega))) rfl rfl fun a119 h119 => wms 1 h119 rfl fun a120 h120 => wpList_nil <| x_again ⟨_, ?_, r + 1, M4, ?_, ?_, ?_, ?_, h120.nrm ⟨rfl, rfl, rfl, rfl, rfl, rfl, rfl, rfl, rfl, trivial⟩ [0, 1, 2, 3] (by decide) ⟨rfl, rfl, rfl, rfl, trivial⟩, rfl⟩; clear h97 h118 h119
     · rw [hm74]; first | omega | (simp only [lens9]; omega)
     · omega
     · first | exact hM4 | (simp only [List.length_set]; exact hM4)
     · first | exact hw4 | exact set_len2 (set_len2 hw4)
     · first | exact cl_upd (wn := (wrG (nth x.l k)).toNat) (fun a b => get2_set (by omega) rfl (by rw [hw4 _ (by omega)]; omega)) (fun a b => get2_set (by simp only [List.length_set]; omega) rfl (by rw [set_len2 hw4 _ (by omega)]; omega)) hv4 (by omega) (by rw [← hfr]; assumption) (by omega) | (intro a b ha hb; rw [clJ_skip (by first | exact .inr (.inl (by rw [← hfr]; assumption)) | exact .inr (.inr (by omega))), hv4 a b ha hb])
    refine wl_skip h92 (wanted_no h92.fr rfl rfl rfl rfl hb93) rfl rfl fun a121 h121 => wl_skip h121 (wanted_no h121.fr rfl rfl rfl rfl hb93) rfl rfl fun a122 h122 => wl_skip h122 (wanted_no h122.fr rfl rfl rfl rfl hb93) rfl rfl fun a123 h123 => wv h123 (r_pickF rfl rfl hb93 rfl) rfl rfl fun a124 h124 => wpList_nil <| hK81 _ _ <| x_condF h124 rfl rfl <| wp_skip <| hK80 _ _ <| wp_region_lit <| wms 1 h124 rfl fun a125 h125 => wv h125 (r_addN (p := r) (q := 1) rfl rfl rfl (show r + 1 < 9223372036854775808 from (by omega))) rfl rfl fun a126 h126 => wms 1 h126 rfl fun a127 h127 => wpList_nil ?_; clear h92 h121 h122 h123 h124 h125 h126
    refine x_again ⟨_, ?_, r + 1, M4, ?_, ?_, ?_, ?_, h127.nrm ⟨rfl, rfl, rfl, rfl, rfl, rfl, rfl, rfl, rfl, trivial⟩ [0, 1, 2, 3] (by decide) ⟨rfl, rfl, rfl, rfl, trivial⟩, rfl⟩
    · rw [hm74]; first | omega | (simp only [lens9]; omega)
    · omega
    · first | exact hM4 | (simp only [List.length_set]; exact hM4)
    · first | exact hw4 | exact set_len2 (set_len2 hw4)
    · first | exact cl_upd (wn := (wrG (nth x.l k)).toNat) (fun a b => get2_set (by omega) rfl (by rw [hw4 _ (by omega)]; omega)) (fun a b => get2_set (by simp only [List.length_set]; omega) rfl (by rw [set_len2 hw4 _ (by omega)]; omega)) hv4 (by omega) (by rw [← hfr]; assumption) (by omega) | (intro a b ha hb; rw [clJ_skip (by first | exact .inr (.inl (by rw [← hfr]; assumption)) | exact .inr (.inr (by omega))), hv4 a b ha hb])
   have hp79 : ¬ (r < rg.toNat) := of_decide_eq_false hb79
   refine wp_exit <| hK71 _ _ <| wp_region_lit <| wms 1 h78 rfl fun a128 h128 => wv h128 (r_addN (p := q) (q := 1) rfl rfl rfl (show q + 1 < 9223372036854775808 from (by omega))) rfl rfl fun a129 h129 => wms 1 h129 rfl fun a130 h130 => wpList_nil <| x_again ⟨_, ?_, q + 1, M4, ?_, ?_, ?_, ?_, h130.nrm ⟨rfl, rfl, rfl, rfl, rfl, rfl, rfl, rfl, trivial⟩ [0, 1, 2, 3] (by decide) ⟨rfl, rfl, rfl, rfl, trivial⟩, rfl⟩; clear h78 h128 h129
   · rw [hm63]; first | omega | (simp only [lens9]; omega)
   · omega
   · exact hM4
   · exact hw4
   · intro a b ha hb; rw [any_step (by omega), ← Bool.or_assoc, hv4 a b ha hb, clJ_all (by omega) (by omega)]
  have hp70 : ¬ (q < (nextsL x.l k).length) := of_decide_eq_false hb70
  refine wp_exit <| hK42 _ _ <| wp_region_lit <| wms 1 h69 rfl fun a131 h131 => wv h131 (r_addN (p := k) (q := 1) rfl rfl rfl (show k + 1 < 9223372036854775808 from (by omega))) rfl rfl fun a132 h132 => wms 1 h132 rfl fun a133 h133 => wpList_nil <| x_again ⟨_, ?_, k + 1, M3, ?_, ?_, ?_, ?_, h133.nrm ⟨rfl, rfl, rfl, rfl, rfl, trivial⟩ [1, 2, 3] (by decide) ⟨rfl, rfl, rfl, trivial⟩, rfl⟩; clear h69 h131 h132
  · rw [hm34]; first | omega | (simp only [lens9]; omega)
  · omega
  · first | exact hM3 | exact hM2
  · first | exact hw3 | exact hw2
  · first | (intro a b ha hb; rw [clTo_succ, hv3 a b ha hb, any_all (by omega)]; done) | (intro a b ha hb; rw [clTo_skip (by assumption)]; exact hv2 a b ha hb)
 have hp41 : ¬ (k < x.l.length) := of_decide_eq_false hb41
 refine wp_exit <| hK31 _ _ <| wp_seq_k fun K134 hK134 => wp_region_lit <| wms 2 h40 rfl fun a135 h135 => wpList_nil <| hK134 _ _ <| wp_ret ?_; clear h40
 try simp only [Exit.then, Exit.inBlock]
 refine x_ret1 (fn := Try.f59) (t := 4) rfl h135 rfl ?_
 have hD := h135.sh.matDeep own_mat
 have hD2 : Sh0 W w34 [.deep 92 (⟨v10, M2⟩ : Ls (Ls Bool))] := hD.sel [0] (by decide) ⟨rfl, trivial⟩
 refine ⟨⟨v10, M2⟩, rfl, ?_, hD2⟩
 refine rows_eq hM2 fun a ha => eq_mapR (hw2 a ha) fun b hb => ?_
 rw [show x.l.length = k by omega]
 exact hv2 a b ha hb

end Go.Proofs.Ytfpaahkleienoaa
