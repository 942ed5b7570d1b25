/-
  Contracts of functions of this program and of the references, each walked once.
-/
import Derived.Test.YtanhbpofhebbaaaX12
namespace Go.Proofs.Ytanhbpofhebbaaa
open Go.RowKit
set_option linter.unusedSimpArgs false
set_option linter.unusedVariables false

set_option maxRecDepth 100000 in
set_option maxHeartbeats 4000000 in
theorem rMay_c (x : Ls Ins) (W : World) (hx : x.At W) (hl : x.l.length ≤ 5000) (hj : JumpsOK x.l) :
    Rets Try.prog 90 [x.v] W (fun v w' => ∃ s : Ls Bool, v = s.v ∧ s.l.length = x.l.length + 1 ∧ (∀ j, nth s.l j = true ↔ MayI x.l j) ∧ Sh0 W w' [.own 4 s]) := by
 refine x_enter (N := 128) Try.func90 rfl Try.ntmps90 (Nat.le_of_ble_eq_true rfl) fun a1 hf1 => ?_
 have h1 : St 128 (fun _ => False) W a1 W [(0, x.v)] [.at_ x] := ⟨hf1.sub ⟨rfl, trivial⟩, Sh0.ext1 hx⟩
 clear hf1
 refine wp_seq_k fun K2 hK2 => ?_
 refine wp_region_lit ?_
 refine wms 1 h1 rfl fun a3 h3 => ?_; clear h1
 refine wpList_nil ?_
 refine hK2 _ _ ?_
 refine wp_seq_k fun K4 hK4 => ?_
 refine wp_region_lit ?_
 refine wms 1 h3 rfl fun a5 h5 => ?_; clear h3
 have hl6 : x.l.length ≤ 140737488355328 := (h5.sh.at 0 rfl).len
 refine wv h5 (r_len (s := x) (n := x.l.length) sl_64 rfl rfl (fun w h => (h.at 0 rfl)) rfl) rfl rfl fun a7 h7 => ?_; clear h5
 refine wms 1 h7 rfl fun a8 h8 => ?_; clear h7
 refine wpList_nil ?_
 refine hK4 _ _ ?_
 refine wp_seq_k fun K9 hK9 => ?_
 refine wp_region_lit ?_
 refine wms 1 h8 rfl fun a10 h10 => ?_; clear h8
 refine wv h10 (r_addN (p := x.l.length) (q := 1) rfl rfl rfl (show x.l.length + 1 < 9223372036854775808 from (by omega))) rfl rfl fun a11 h11 => ?_; clear h10
 refine wl_ex (x_make (n := x.l.length + 1) (false : Bool) h11 sl_66 ti_4 rfl rfl rfl rfl rfl (show 1 * (x.l.length + 1) ≤ 140737488355328 ∧ x.l.length + 1 ≤ 140737488355328 from (by omega)) (fun w => Flat.inner _ _) (fun b => Flat.on _ _) rfl rfl) (wanted_none rfl _) ?_
 rintro a12 w12 ⟨v12, h12⟩; clear h11
 refine wms 1 h12 rfl fun a13 h13 => ?_; clear h12
 refine wpList_nil ?_
 refine hK9 _ _ ?_
 refine wp_seq_k fun K14 hK14 => ?_
 refine wp_region_lit ?_
 refine wms 1 h13 rfl fun a15 h15 => ?_; clear h13
 refine wv h15 (r_ixN (s := (⟨v12, List.replicate (x.l.length + 1) false⟩ : Ls Bool)) (q := 0) sl_66 ti_4 rfl rfl rfl (fun w h => (h.own 0 rfl)) (show 0 < (List.replicate (x.l.length + 1) false).length from (by first | omega | (simp only [List.length_append, List.length_cons, List.length_nil, List.length_set, List.length_replicate, List.length_map, List.length_range]; omega)))) rfl rfl fun a16 h16 => ?_; clear h15
 refine wl_ex (x_ste (r := 0) (i := 0) (j := 0) (x' := (true : Bool)) h16 ti_4 rfl rfl rfl rfl rfl (show 0 < (List.replicate (x.l.length + 1) false).length from (by first | omega | (simp only [List.length_append, List.length_cons, List.length_nil, List.length_set, List.length_replicate, List.length_map, List.length_range]; omega))) (Nat.le_of_ble_eq_true rfl) rfl rfl rfl (by intro q hq; obtain rfl : q = 0 := (by omega); rfl) (fun w h => Flat.inner _ _) (fun b hb => (Flat.on _ _ hb).elim)) (wanted_none rfl _) ?_
 rintro a17 w17 h17
 clear h16
 refine wpList_nil ?_
 refine hK14 _ _ ?_
 refine wp_seq_k fun K18 hK18 => ?_
 refine wp_seq_k fun K19 hK19 => ?_
 refine wp_region_lit ?_
 refine wms 1 h17 rfl fun a20 h20 => ?_; clear h17
 refine wpList_nil ?_
 refine hK19 _ _ ?_
 refine wp_block ?_
 refine x_loop (fun m a w => ∃ (rc : List Bool) (ag : Bool), (RI x.l rc) ∧ (ag = false → ∀ i, i < x.l.length → ClG rA x.l rc i) ∧ St 128 (fun _ => False) W a w [(0, x.v), (3, .int .i64 ((x.l.length : Nat) : Int)), (4, v12), (5, .bool ag)] [.own 4 (⟨v12, rc⟩ : Ls Bool), .at_ x] ∧ m = (bif ag then 1 else 0) + 2 * ((x.l.length + 1) - cntB rc)) ⟨_, (List.replicate (x.l.length + 1) false).set 0 true, true, (RI.start x.l), (fun h => by cases h), ((h20.sub (F' := [(0, x.v), (3, .int .i64 ((x.l.length : Nat) : Int)), (4, v12), (5, .bool true)]) ⟨rfl, rfl, rfl, rfl, trivial⟩).sel (L' := [.own 4 (⟨v12, (List.replicate (x.l.length + 1) false).set 0 true⟩ : Ls Bool), .at_ x]) [0, 1] (by decide) ⟨rfl, rfl, trivial⟩), rfl⟩ ?_
 clear h20
 rintro m21 a21 w21 ⟨rc, ag, hdi, hcl, h21, hm21⟩
 have hd1 := hdi.l1
 refine wp_seq_k fun K22 hK22 => ?_
 refine wp_seq_k fun K23 hK23 => ?_
 refine wp_region_lit ?_
 refine wms 1 h21 rfl fun a24 h24 => ?_; clear h21
 refine wpList_nil ?_
 refine hK23 _ _ ?_
 refine x_cond h24 rfl (fun hb25 => ?_) (fun hb25 => ?_)
 ·
  skip
  refine wp_skip ?_
  refine hK22 _ _ ?_
  refine wp_block ?_
  refine wp_seq_k fun K26 hK26 => ?_
  refine wp_region_lit ?_
  refine wms 1 h24 rfl fun a27 h27 => ?_; clear h24
  refine wpList_nil ?_
  refine hK26 _ _ ?_
  refine wp_seq_k fun K28 hK28 => ?_
  refine wp_region_lit ?_
  refine wms 1 h27 rfl fun a29 h29 => ?_; clear h27
  refine wpList_nil ?_
  refine hK28 _ _ ?_
  refine wp_block ?_
  refine x_loop (fun m a w => ∃ (k : Nat) (rc2 : List Bool) (ag2 : Bool), (k ≤ x.l.length) ∧ (RI x.l rc2) ∧ (ag2 = false → rc2 = rc ∧ ∀ i, i < k → ClG rA x.l rc2 i) ∧ (ag2 = true → cntB rc < cntB rc2) ∧ St 128 (fun _ => False) W a w [(0, x.v), (3, .int .i64 ((x.l.length : Nat) : Int)), (4, v12), (5, .bool ag2), (6, .int .i64 ((k : Nat) : Int))] [.own 4 (⟨v12, rc2⟩ : Ls Bool), .at_ x] ∧ m = x.l.length - k) ⟨_, 0, rc, false, (by omega), (hdi), (fun _ => ⟨rfl, fun i hi => absurd hi (by omega)⟩), (fun h => by cases h), ((h29.sub (F' := [(0, x.v), (3, .int .i64 ((x.l.length : Nat) : Int)), (4, v12), (5, .bool false), (6, .int .i64 0)]) ⟨rfl, rfl, rfl, rfl, rfl, trivial⟩).sel (L' := [.own 4 (⟨v12, rc⟩ : Ls Bool), .at_ x]) [0, 1] (by decide) ⟨rfl, rfl, trivial⟩), rfl⟩ ?_
  clear h29
  rintro m30 a30 w30 ⟨k, rc2, ag2, hk, hdi2, h20, h21, h30, hm30⟩
  have hd3 := hdi2.l1
  refine wp_seq_k fun K31 hK31 => ?_
  refine wp_seq_k fun K32 hK32 => ?_
  refine wp_region_lit ?_
  refine wms 2 h30 rfl fun a33 h33 => ?_; clear h30
  refine wv h33 (r_lssN (p := k) (q := x.l.length) rfl rfl rfl) rfl rfl fun a34 h34 => ?_; clear h33
  refine wpList_nil ?_
  refine hK32 _ _ ?_
  refine x_cond h34 rfl (fun hb35 => ?_) (fun hb35 => ?_)
  ·
   have hp35 : k < x.l.length := of_decide_eq_true hb35
   refine wp_skip ?_
   refine hK31 _ _ ?_
   refine wp_seq_k fun K36 hK36 => ?_
   refine wp_block ?_
   refine wp_seq_k fun K37 hK37 => ?_
   refine wp_region_lit ?_
   refine wms 2 h34 rfl fun a38 h38 => ?_; clear h34
   refine wl_ex (x_call h38 bd_85 rfl rfl rfl rfl rfl (rNexts_c x k _ (h38.sh.at 1 rfl) (by omega) (by omega))) (wanted_none rfl _) ?_
   rintro a39 w39 ⟨_, ⟨s39, rfl, hs39⟩, hf39⟩
   have h39 := (⟨hf39, h38.sh.call hs39 (by intro A hA b hb; first | (simp at hA; done) | (simp at hA; subst hA; first | exact Flat.noRd hb | exact (hb : False).elim) | (simp at hA; rcases hA with rfl | rfl <;> first | exact Flat.noRd hb | exact (hb : False).elim))⟩ : St 128 (fun _ => False) W a39 w39 _ _)
   clear hf39 hs39
   clear h38
   refine wms 1 h39 rfl fun a40 h40 => ?_; clear h39
   refine wpList_nil ?_
   refine hK37 _ _ ?_
   refine wp_seq_k fun K41 hK41 => ?_
   refine wp_region_lit ?_
   refine wms 1 h40 rfl fun a42 h42 => ?_; clear h40
   refine wpList_nil ?_
   refine hK41 _ _ ?_
   refine wp_block ?_
   have hn2 := nexts_len x.l k
   refine x_loop (fun m a w => ∃ (q : Nat) (rc3 : List Bool) (ag3 : Bool), (q ≤ (nextsL x.l k).length) ∧ (RI x.l rc3) ∧ (ag3 = false → ag2 = false ∧ rc3 = rc2 ∧ ∀ p, p < q → rA rc2 k → nth rc3 (nth (nextsL x.l k) p).toNat = true) ∧ (ag3 = true → cntB rc < cntB rc3) ∧ St 128 (fun _ => False) W a w [(0, x.v), (3, .int .i64 ((x.l.length : Nat) : Int)), (4, v12), (5, .bool ag3), (6, .int .i64 ((k : Nat) : Int)), (7, s39.v), (8, .int .i64 ((q : Nat) : Int))] [.own 3 (⟨s39.v, nextsL x.l k⟩ : Ls Int), .own 4 (⟨v12, rc3⟩ : Ls Bool), .at_ x] ∧ m = (nextsL x.l k).length - q) ⟨_, 0, rc2, ag2, (by omega), (hdi2), (fun h => ⟨h, rfl, fun p hp => absurd hp (by omega)⟩), (h21), ((h42.sub (F' := [(0, x.v), (3, .int .i64 ((x.l.length : Nat) : Int)), (4, v12), (5, .bool ag2), (6, .int .i64 ((k : Nat) : Int)), (7, s39.v), (8, .int .i64 0)]) ⟨rfl, rfl, rfl, rfl, rfl, rfl, rfl, trivial⟩).sel (L' := [.own 3 (⟨s39.v, nextsL x.l k⟩ : Ls Int), .own 4 (⟨v12, rc2⟩ : Ls Bool), .at_ x]) [0, 1, 2] (by decide) ⟨rfl, rfl, rfl, trivial⟩), rfl⟩ ?_
   clear h42
   rintro m43 a43 w43 ⟨q, rc3, ag3, hq, hdi3, h30, h31, h43, hm43⟩
   have hd5 := hdi3.l1
   have hle := fp_le h20 h30 h31
   refine wp_seq_k fun K44 hK44 => ?_
   refine wp_seq_k fun K45 hK45 => ?_
   refine wp_region_lit ?_
   refine wms 2 h43 rfl fun a46 h46 => ?_; clear h43
   have hl47 : (nextsL x.l k).length ≤ 140737488355328 := (h46.sh.own 0 rfl).len
   refine wv h46 (r_len (s := (⟨s39.v, nextsL x.l k⟩ : Ls Int)) (n := (nextsL x.l k).length) sl_24 rfl rfl (fun w h => (h.own 0 rfl)) rfl) rfl rfl fun a48 h48 => ?_; clear h46
   refine wv h48 (r_lssN (p := q) (q := (nextsL x.l k).length) rfl rfl rfl) rfl rfl fun a49 h49 => ?_; clear h48
   refine wpList_nil ?_
   refine hK45 _ _ ?_
   refine x_cond h49 rfl (fun hb50 => ?_) (fun hb50 => ?_)
   ·
    have hp50 : q < (nextsL x.l k).length := of_decide_eq_true hb50
    refine wp_skip ?_
    refine hK44 _ _ ?_
    have hmm : nth (nextsL x.l k) q ∈ nextsL x.l k := nth_mem _ _ (by omega)
    have hnx := nexts_ok hj (by omega) hmm
    refine wp_seq_k fun K51 hK51 => ?_
    refine wp_block ?_
    refine wp_seq_k fun K52 hK52 => ?_
    refine wp_region_lit ?_
    refine wms 2 h49 rfl fun a53 h53 => ?_; clear h49
    have hl54 : rc3.length ≤ 140737488355328 := (h53.sh.own 1 rfl).len
    refine wv h53 (r_ixN (s := (⟨v12, rc3⟩ : Ls Bool)) (q := k) sl_66 ti_4 rfl rfl rfl (fun w h => (h.own 1 rfl)) (show k < rc3.length from (by omega))) rfl rfl fun a55 h55 => ?_; clear h53
    refine wv h55 (r_lde (s := (⟨v12, rc3⟩ : Ls Bool)) (i := k) (v := .bool (nth rc3 k)) ti_4 rfl rfl rfl (fun w h => (h.own 1 rfl)) (show k < rc3.length from (by omega)) (Nat.le_of_ble_eq_true rfl) rfl) rfl rfl fun a56 h56 => ?_; clear h55
    refine wms 1 h56 rfl fun a57 h57 => ?_; clear h56
    rcases Bool.eq_false_or_eq_true (nth rc3 k) with hb58 | hb58
    ·
     skip
     refine wl_val h57 (r_move rfl rfl) (wanted_yes h57.fr rfl rfl rfl rfl hb58) rfl rfl fun a59 h59 => ?_; clear h57
     refine wl_val h59 (r_move rfl rfl) (wanted_yes h59.fr rfl rfl rfl rfl hb58) rfl rfl fun a60 h60 => ?_; clear h59
     refine wl_val h60 (r_move rfl rfl) (wanted_yes h60.fr rfl rfl rfl rfl hb58) rfl rfl fun a61 h61 => ?_; clear h60
     refine wl_val h61 (r_ixN (s := (⟨s39.v, nextsL x.l k⟩ : Ls Int)) (q := q) sl_24 ti_3 rfl rfl rfl (fun w h => (h.own 0 rfl)) (show q < (nextsL x.l k).length from (by omega))) (wanted_yes h61.fr rfl rfl rfl rfl hb58) rfl rfl fun a62 h62 => ?_; clear h61
     refine wl_val h62 (r_lde (s := (⟨s39.v, nextsL x.l k⟩ : Ls Int)) (i := q) (v := .int .i64 (nth (nextsL x.l k) q)) ti_3 rfl rfl rfl (fun w h => (h.own 0 rfl)) (show q < (nextsL x.l k).length from (by omega)) (Nat.le_of_ble_eq_true rfl) rfl) (wanted_yes h62.fr rfl rfl rfl rfl hb58) rfl rfl fun a63 h63 => ?_; clear h62
     refine wl_val h63 (r_ixI (s := (⟨v12, rc3⟩ : Ls Bool)) (q := nth (nextsL x.l k) q) sl_66 ti_4 rfl rfl rfl (fun w h => (h.own 1 rfl)) (show 0 ≤ nth (nextsL x.l k) q ∧ nth (nextsL x.l k) q < rc3.length from (by omega))) (wanted_yes h63.fr rfl rfl rfl rfl hb58) rfl rfl fun a64 h64 => ?_; clear h63
     refine wl_val h64 (r_lde (s := (⟨v12, rc3⟩ : Ls Bool)) (i := (nth (nextsL x.l k) q).toNat) (v := .bool (nth rc3 ((nth (nextsL x.l k) q).toNat))) ti_4 rfl rfl rfl (fun w h => (h.own 1 rfl)) (show (nth (nextsL x.l k) q).toNat < rc3.length from (by omega)) (Nat.le_of_ble_eq_true rfl) rfl) (wanted_yes h64.fr rfl rfl rfl rfl hb58) rfl rfl fun a65 h65 => ?_; clear h64
     refine wl_val h65 (r_not rfl rfl) (wanted_yes h65.fr rfl rfl rfl rfl hb58) rfl rfl fun a66 h66 => ?_; clear h65
     refine wv h66 (r_pickT rfl rfl hb58 rfl) rfl rfl fun a67 h67 => ?_; clear h66
     refine wpList_nil ?_
     refine hK52 _ _ ?_
     refine x_cond h67 rfl (fun hb68 => ?_) (fun hb68 => ?_)
     ·
      have hn68 : nth rc3 ((nth (nextsL x.l k) q).toNat) = false := (Bool.not_eq_true' _).mp hb68
      refine wp_seq_k fun K69 hK69 => ?_
      refine wp_region_lit ?_
      refine wms 3 h67 rfl fun a70 h70 => ?_; clear h67
      refine wv h70 (r_ixN (s := (⟨s39.v, nextsL x.l k⟩ : Ls Int)) (q := q) sl_24 ti_3 rfl rfl rfl (fun w h => (h.own 0 rfl)) (show q < (nextsL x.l k).length from (by omega))) rfl rfl fun a71 h71 => ?_; clear h70
      refine wv h71 (r_lde (s := (⟨s39.v, nextsL x.l k⟩ : Ls Int)) (i := q) (v := .int .i64 (nth (nextsL x.l k) q)) ti_3 rfl rfl rfl (fun w h => (h.own 0 rfl)) (show q < (nextsL x.l k).length from (by omega)) (Nat.le_of_ble_eq_true rfl) rfl) rfl rfl fun a72 h72 => ?_; clear h71
      refine wv h72 (r_ixI (s := (⟨v12, rc3⟩ : Ls Bool)) (q := nth (nextsL x.l k) q) sl_66 ti_4 rfl rfl rfl (fun w h => (h.own 1 rfl)) (show 0 ≤ nth (nextsL x.l k) q ∧ nth (nextsL x.l k) q < rc3.length from (by omega))) rfl rfl fun a73 h73 => ?_; clear h72
      refine wl_ex (x_ste (r := 1) (i := (nth (nextsL x.l k) q).toNat) (j := 0) (x' := (true : Bool)) h73 ti_4 rfl rfl rfl rfl rfl (show (nth (nextsL x.l k) q).toNat < rc3.length from (by omega)) (Nat.le_of_ble_eq_true rfl) rfl rfl rfl (by intro q hq; obtain rfl : q = 0 := (by omega); rfl) (fun w h => Flat.inner _ _) (fun b hb => (Flat.on _ _ hb).elim)) (wanted_none rfl _) ?_
      rintro a74 w74 h74
      clear h73
      refine wpList_nil ?_
      refine hK69 _ _ ?_
      have h75 : St 128 (fun _ => False) W a74 w74 [(0, x.v), (3, .int .i64 ((x.l.length : Nat) : Int)), (4, v12), (6, .int .i64 ((k : Nat) : Int)), (7, s39.v), (8, .int .i64 ((q : Nat) : Int))] [.own 3 (⟨s39.v, nextsL x.l k⟩ : Ls Int), .own 4 (⟨v12, rc3.set ((nth (nextsL x.l k) q).toNat) true⟩ : Ls Bool), .at_ x] := h74.nrm ⟨rfl, rfl, rfl, rfl, rfl, rfl, trivial⟩ [0, 1, 2] (by decide) ⟨rfl, rfl, rfl, trivial⟩
      clear h74
      refine wp_region_lit ?_
      refine wms 1 h75 rfl fun a76 h76 => ?_; clear h75
      refine wpList_nil ?_
      refine hK51 _ _ ?_
      refine wp_region_lit ?_
      refine wms 1 h76 rfl fun a77 h77 => ?_; clear h76
      refine wv h77 (r_addN (p := q) (q := 1) rfl rfl rfl (show q + 1 < 9223372036854775808 from (by omega))) rfl rfl fun a78 h78 => ?_; clear h77
      refine wms 1 h78 rfl fun a79 h79 => ?_; clear h78
      refine wpList_nil ?_
      refine x_again ⟨_, ?_, q + 1, rc3.set ((nth (nextsL x.l k) q).toNat) true, true, ?_, ?_, ?_, ?_, ((h79.sub (F' := [(0, x.v), (3, .int .i64 ((x.l.length : Nat) : Int)), (4, v12), (5, .bool true), (6, .int .i64 ((k : Nat) : Int)), (7, s39.v), (8, .int .i64 ((q + 1 : Nat) : Int))]) ⟨rfl, rfl, rfl, rfl, rfl, rfl, rfl, trivial⟩).sel (L' := [.own 3 (⟨s39.v, nextsL x.l k⟩ : Ls Int), .own 4 (⟨v12, rc3.set ((nth (nextsL x.l k) q).toNat) true⟩ : Ls Bool), .at_ x]) [0, 1, 2] (by decide) ⟨rfl, rfl, rfl, trivial⟩), rfl⟩
      · rw [hm43]; first | omega | (simp only [List.length_append, List.length_cons, List.length_nil, List.length_set, List.length_replicate, List.length_map, List.length_range]; omega)
      · omega
      · first | exact hdi3 | exact hdi3.set (ReachI.step k _ (hdi3.s1 k (by assumption)) (by omega) hmm)
      · first | (intro h; cases h; done) | (intro h; obtain ⟨e0, e1, hp⟩ := h30 h; refine ⟨e0, e1, fun p hp2 hA => ?_⟩; rcases Nat.lt_or_ge p q with h9 | h9; (exact hp p h9 hA); obtain rfl : p = q := (by omega); first | assumption | (rw [← e1] at hA; exact absurd ((show nth rc3 k = true from hA).symm.trans (show _ = false by assumption)) (by decide)))
      · first | exact h31 | (intro _; exact fp_grow hle (by omega) (by assumption))
     ·
      have hn68 : nth rc3 ((nth (nextsL x.l k) q).toNat) = true := (Bool.not_eq_false' _).mp hb68
      refine wp_skip ?_
      refine hK51 _ _ ?_
      refine wp_region_lit ?_
      refine wms 1 h67 rfl fun a80 h80 => ?_; clear h67
      refine wv h80 (r_addN (p := q) (q := 1) rfl rfl rfl (show q + 1 < 9223372036854775808 from (by omega))) rfl rfl fun a81 h81 => ?_; clear h80
      refine wms 1 h81 rfl fun a82 h82 => ?_; clear h81
      refine wpList_nil ?_
      refine x_again ⟨_, ?_, q + 1, rc3, ag3, ?_, ?_, ?_, ?_, ((h82.sub (F' := [(0, x.v), (3, .int .i64 ((x.l.length : Nat) : Int)), (4, v12), (5, .bool ag3), (6, .int .i64 ((k : Nat) : Int)), (7, s39.v), (8, .int .i64 ((q + 1 : Nat) : Int))]) ⟨rfl, rfl, rfl, rfl, rfl, rfl, rfl, trivial⟩).sel (L' := [.own 3 (⟨s39.v, nextsL x.l k⟩ : Ls Int), .own 4 (⟨v12, rc3⟩ : Ls Bool), .at_ x]) [0, 1, 2] (by decide) ⟨rfl, rfl, rfl, trivial⟩), rfl⟩
      · rw [hm43]; first | omega | (simp only [List.length_append, List.length_cons, List.length_nil, List.length_set, List.length_replicate, List.length_map, List.length_range]; omega)
      · omega
      · first | exact hdi3 | exact hdi3.set (ReachI.step k _ (hdi3.s1 k (by assumption)) (by omega) hmm)
      · first | (intro h; cases h; done) | (intro h; obtain ⟨e0, e1, hp⟩ := h30 h; refine ⟨e0, e1, fun p hp2 hA => ?_⟩; rcases Nat.lt_or_ge p q with h9 | h9; (exact hp p h9 hA); obtain rfl : p = q := (by omega); first | assumption | (rw [← e1] at hA; exact absurd ((show nth rc3 k = true from hA).symm.trans (show _ = false by assumption)) (by decide)))
      · first | exact h31 | (intro _; exact fp_grow hle (by omega) (by assumption))
    ·
     skip
     refine wl_skip h57 (wanted_no h57.fr rfl rfl rfl rfl hb58) rfl rfl fun a83 h83 => ?_; clear h57
     refine wl_skip h83 (wanted_no h83.fr rfl rfl rfl rfl hb58) rfl rfl fun a84 h84 => ?_; clear h83
     refine wl_skip h84 (wanted_no h84.fr rfl rfl rfl rfl hb58) rfl rfl fun a85 h85 => ?_; clear h84
     refine wl_skip h85 (wanted_no h85.fr rfl rfl rfl rfl hb58) rfl rfl fun a86 h86 => ?_; clear h85
     refine wl_skip h86 (wanted_no h86.fr rfl rfl rfl rfl hb58) rfl rfl fun a87 h87 => ?_; clear h86
     refine wl_skip h87 (wanted_no h87.fr rfl rfl rfl rfl hb58) rfl rfl fun a88 h88 => ?_; clear h87
     refine wl_skip h88 (wanted_no h88.fr rfl rfl rfl rfl hb58) rfl rfl fun a89 h89 => ?_; clear h88
     refine wl_skip h89 (wanted_no h89.fr rfl rfl rfl rfl hb58) rfl rfl fun a90 h90 => ?_; clear h89
     refine wv h90 (r_pickF rfl rfl hb58 rfl) rfl rfl fun a91 h91 => ?_; clear h90
     refine wpList_nil ?_
     refine hK52 _ _ ?_
     refine x_condF h91 rfl rfl ?_
     refine wp_skip ?_
     refine hK51 _ _ ?_
     refine wp_region_lit ?_
     refine wms 1 h91 rfl fun a92 h92 => ?_; clear h91
     refine wv h92 (r_addN (p := q) (q := 1) rfl rfl rfl (show q + 1 < 9223372036854775808 from (by omega))) rfl rfl fun a93 h93 => ?_; clear h92
     refine wms 1 h93 rfl fun a94 h94 => ?_; clear h93
     refine wpList_nil ?_
     refine x_again ⟨_, ?_, q + 1, rc3, ag3, ?_, ?_, ?_, ?_, ((h94.sub (F' := [(0, x.v), (3, .int .i64 ((x.l.length : Nat) : Int)), (4, v12), (5, .bool ag3), (6, .int .i64 ((k : Nat) : Int)), (7, s39.v), (8, .int .i64 ((q + 1 : Nat) : Int))]) ⟨rfl, rfl, rfl, rfl, rfl, rfl, rfl, trivial⟩).sel (L' := [.own 3 (⟨s39.v, nextsL x.l k⟩ : Ls Int), .own 4 (⟨v12, rc3⟩ : Ls Bool), .at_ x]) [0, 1, 2] (by decide) ⟨rfl, rfl, rfl, trivial⟩), rfl⟩
     · rw [hm43]; first | omega | (simp only [List.length_append, List.length_cons, List.length_nil, List.length_set, List.length_replicate, List.length_map, List.length_range]; omega)
     · omega
     · first | exact hdi3 | exact hdi3.set (ReachI.step k _ (hdi3.s1 k (by assumption)) (by omega) hmm)
     · first | (intro h; cases h; done) | (intro h; obtain ⟨e0, e1, hp⟩ := h30 h; refine ⟨e0, e1, fun p hp2 hA => ?_⟩; rcases Nat.lt_or_ge p q with h9 | h9; (exact hp p h9 hA); obtain rfl : p = q := (by omega); first | assumption | (rw [← e1] at hA; exact absurd ((show nth rc3 k = true from hA).symm.trans (show _ = false by assumption)) (by decide)))
     · first | exact h31 | (intro _; exact fp_grow hle (by omega) (by assumption))
   ·
    have hp50 : ¬ (q < (nextsL x.l k).length) := of_decide_eq_false hb50
    refine wp_exit ?_
    refine hK36 _ _ ?_
    refine wp_region_lit ?_
    refine wms 1 h49 rfl fun a95 h95 => ?_; clear h49
    refine wv h95 (r_addN (p := k) (q := 1) rfl rfl rfl (show k + 1 < 9223372036854775808 from (by omega))) rfl rfl fun a96 h96 => ?_; clear h95
    refine wms 1 h96 rfl fun a97 h97 => ?_; clear h96
    refine wpList_nil ?_
    refine x_again ⟨_, ?_, k + 1, rc3, ag3, ?_, ?_, ?_, ?_, ((h97.sub (F' := [(0, x.v), (3, .int .i64 ((x.l.length : Nat) : Int)), (4, v12), (5, .bool ag3), (6, .int .i64 ((k + 1 : Nat) : Int))]) ⟨rfl, rfl, rfl, rfl, rfl, trivial⟩).sel (L' := [.own 4 (⟨v12, rc3⟩ : Ls Bool), .at_ x]) [1, 2] (by decide) ⟨rfl, rfl, trivial⟩), rfl⟩
    · rw [hm30]; first | omega | (simp only [List.length_append, List.length_cons, List.length_nil, List.length_set, List.length_replicate, List.length_map, List.length_range]; omega)
    · omega
    · exact hdi3
    · exact fp_close h20 h30 (by omega)
    · exact h31
  ·
   have hp35 : ¬ (k < x.l.length) := of_decide_eq_false hb35
   refine wp_exit ?_
   change ∃ _m, _m < _ ∧ _
   refine ⟨_, ?_, rc2, ag2, ?_, ?_, ((h34.sub (F' := [(0, x.v), (3, .int .i64 ((x.l.length : Nat) : Int)), (4, v12), (5, .bool ag2)]) ⟨rfl, rfl, rfl, rfl, trivial⟩).sel (L' := [.own 4 (⟨v12, rc2⟩ : Ls Bool), .at_ x]) [0, 1] (by decide) ⟨rfl, rfl, trivial⟩), rfl⟩
   · rw [hm21]; exact fp_down (by assumption) hdi2.l1 h20 h21
   · exact hdi2
   · exact fun h i hi => (h20 h).2 i (by omega)
 ·
  skip
  refine wp_exit ?_
  refine hK18 _ _ ?_
  refine wp_seq_k fun K98 hK98 => ?_
  refine wp_region_lit ?_
  refine wms 1 h24 rfl fun a99 h99 => ?_; clear h24
  refine wv h99 (r_addN (p := x.l.length) (q := 1) rfl rfl rfl (show x.l.length + 1 < 9223372036854775808 from (by omega))) rfl rfl fun a100 h100 => ?_; clear h99
  refine wl_ex (x_make (n := x.l.length + 1) (false : Bool) h100 sl_66 ti_4 rfl rfl rfl rfl rfl (show 1 * (x.l.length + 1) ≤ 140737488355328 ∧ x.l.length + 1 ≤ 140737488355328 from (by omega)) (fun w => Flat.inner _ _) (fun b => Flat.on _ _) rfl rfl) (wanted_none rfl _) ?_
  rintro a101 w101 ⟨v101, h101⟩; clear h100
  refine wms 1 h101 rfl fun a102 h102 => ?_; clear h101
  refine wpList_nil ?_
  refine hK98 _ _ ?_
  refine wp_seq_k fun K103 hK103 => ?_
  refine wp_seq_k fun K104 hK104 => ?_
  refine wp_region_lit ?_
  refine wms 1 h102 rfl fun a105 h105 => ?_; clear h102
  refine wpList_nil ?_
  refine hK104 _ _ ?_
  refine wp_block ?_
  have hrc := RI.fin hdi (hcl (by assumption))
  refine x_loop (fun m a w => ∃ (my : List Bool) (agy : Bool), (YI x.l my) ∧ (agy = false → ∀ i, i < x.l.length → ClG (yA x.l rc) x.l my i) ∧ St 128 (fun _ => False) W a w [(0, x.v), (3, .int .i64 ((x.l.length : Nat) : Int)), (4, v12), (9, v101), (10, .bool agy)] [.own 4 (⟨v101, my⟩ : Ls Bool), .own 4 (⟨v12, rc⟩ : Ls Bool), .at_ x] ∧ m = (bif agy then 1 else 0) + 2 * ((x.l.length + 1) - cntB my)) ⟨_, List.replicate (x.l.length + 1) false, true, (YI.start x.l), (fun h => by cases h), ((h105.sub (F' := [(0, x.v), (3, .int .i64 ((x.l.length : Nat) : Int)), (4, v12), (9, v101), (10, .bool true)]) ⟨rfl, rfl, rfl, rfl, rfl, trivial⟩).sel (L' := [.own 4 (⟨v101, List.replicate (x.l.length + 1) false⟩ : Ls Bool), .own 4 (⟨v12, rc⟩ : Ls Bool), .at_ x]) [0, 1, 2] (by decide) ⟨rfl, rfl, rfl, trivial⟩), rfl⟩ ?_
  clear h105
  rintro m106 a106 w106 ⟨my, agy, hyi, hyc, h106, hm106⟩
  have hd1 := hyi.l1
  refine wp_seq_k fun K107 hK107 => ?_
  refine wp_seq_k fun K108 hK108 => ?_
  refine wp_region_lit ?_
  refine wms 1 h106 rfl fun a109 h109 => ?_; clear h106
  refine wpList_nil ?_
  refine hK108 _ _ ?_
  refine x_cond h109 rfl (fun hb110 => ?_) (fun hb110 => ?_)
  ·
   skip
   refine wp_skip ?_
   refine hK107 _ _ ?_
   refine wp_block ?_
   refine wp_seq_k fun K111 hK111 => ?_
   refine wp_region_lit ?_
   refine wms 1 h109 rfl fun a112 h112 => ?_; clear h109
   refine wpList_nil ?_
   refine hK111 _ _ ?_
   refine wp_seq_k fun K113 hK113 => ?_
   refine wp_region_lit ?_
   refine wms 1 h112 rfl fun a114 h114 => ?_; clear h112
   refine wpList_nil ?_
   refine hK113 _ _ ?_
   refine wp_block ?_
   refine x_loop (fun m a w => ∃ (k : Nat) (my2 : List Bool) (agy2 : Bool), (k ≤ x.l.length) ∧ (YI x.l my2) ∧ (agy2 = false → my2 = my ∧ ∀ i, i < k → ClG (yA x.l rc) x.l my2 i) ∧ (agy2 = true → cntB my < cntB my2) ∧ St 128 (fun _ => False) W a w [(0, x.v), (3, .int .i64 ((x.l.length : Nat) : Int)), (4, v12), (9, v101), (10, .bool agy2), (11, .int .i64 ((k : Nat) : Int))] [.own 4 (⟨v101, my2⟩ : Ls Bool), .own 4 (⟨v12, rc⟩ : Ls Bool), .at_ x] ∧ m = x.l.length - k) ⟨_, 0, my, false, (by omega), (hyi), (fun _ => ⟨rfl, fun i hi => absurd hi (by omega)⟩), (fun h => by cases h), ((h114.sub (F' := [(0, x.v), (3, .int .i64 ((x.l.length : Nat) : Int)), (4, v12), (9, v101), (10, .bool false), (11, .int .i64 0)]) ⟨rfl, rfl, rfl, rfl, rfl, rfl, trivial⟩).sel (L' := [.own 4 (⟨v101, my⟩ : Ls Bool), .own 4 (⟨v12, rc⟩ : Ls Bool), .at_ x]) [0, 1, 2] (by decide) ⟨rfl, rfl, rfl, trivial⟩), rfl⟩ ?_
   clear h114
   rintro m115 a115 w115 ⟨k, my2, agy2, hk, hyi2, k20, k21, h115, hm115⟩
   have hd3 := hyi2.l1
   refine wp_seq_k fun K116 hK116 => ?_
   refine wp_seq_k fun K117 hK117 => ?_
   refine wp_region_lit ?_
   refine wms 2 h115 rfl fun a118 h118 => ?_; clear h115
   refine wv h118 (r_lssN (p := k) (q := x.l.length) rfl rfl rfl) rfl rfl fun a119 h119 => ?_; clear h118
   refine wpList_nil ?_
   refine hK117 _ _ ?_
   refine x_cond h119 rfl (fun hb120 => ?_) (fun hb120 => ?_)
   ·
    have hp120 : k < x.l.length := of_decide_eq_true hb120
    refine wp_skip ?_
    refine hK116 _ _ ?_
    refine wp_seq_k fun K121 hK121 => ?_
    refine wp_block ?_
    refine wp_seq_k fun K122 hK122 => ?_
    refine wp_region_lit ?_
    refine wms 2 h119 rfl fun a123 h123 => ?_; clear h119
    refine wv h123 (r_ixN (s := x) (q := k) sl_64 ti_73 rfl rfl rfl (fun w h => (h.at 2 rfl)) (show k < x.l.length from (by omega))) rfl rfl fun a124 h124 => ?_; clear h123
    refine wv h124 (r_fieldE (r := 0) fl_73_0 rfl rfl rfl) rfl rfl fun a125 h125 => ?_; clear h124
    refine wv h125 (r_lde (s := x) (i := k) (v := .int .i64 ((nth x.l k).op)) ti_3 rfl rfl rfl (fun w h => (h.at 2 rfl)) (show k < x.l.length from (by omega)) (Nat.le_of_ble_eq_true rfl) rfl) rfl rfl fun a126 h126 => ?_; clear h125
    refine wms 1 h126 rfl fun a127 h127 => ?_; clear h126
    refine wpList_nil ?_
    refine hK122 _ _ ?_
    refine wp_seq_k fun K128 hK128 => ?_
    refine wp_region_lit ?_
    refine wms 1 h127 rfl fun a129 h129 => ?_; clear h127
    refine wl_ex (x_call h129 bd_91 rfl rfl rfl rfl rfl (rWaits_c ((nth x.l k).op) _)) (wanted_none rfl _) ?_
    rintro a130 w130 ⟨_, ⟨rfl, hs130⟩, hf130⟩
    have h130 : St 128 (fun _ => False) W a130 w130 _ _ := ⟨hf130, h129.sh.call0 hs130⟩
    clear hf130 hs130
    clear h129
    refine wms 1 h130 rfl fun a131 h131 => ?_; clear h130
    refine wpList_nil ?_
    refine hK128 _ _ ?_
    refine wp_seq_k fun K132 hK132 => ?_
    refine wp_region_lit ?_
    refine wms 1 h131 rfl fun a133 h133 => ?_; clear h131
    refine wv h133 (r_eqlI (p := (nth x.l k).op) (q := 12) rfl rfl rfl) rfl rfl fun a134 h134 => ?_; clear h133
    refine wms 1 h134 rfl fun a135 h135 => ?_; clear h134
    rcases Bool.eq_false_or_eq_true (decide ((nth x.l k).op = 12)) with hb136 | hb136
    ·
     have hp136 : (nth x.l k).op = 12 := of_decide_eq_true hb136
     refine wl_skip h135 (wanted_no h135.fr rfl rfl rfl rfl hb136) rfl rfl fun a137 h137 => ?_; clear h135
     refine wl_skip h137 (wanted_no h137.fr rfl rfl rfl rfl hb136) rfl rfl fun a138 h138 => ?_; clear h137
     refine wv h138 (r_pickT rfl rfl hb136 rfl) rfl rfl fun a139 h139 => ?_; clear h138
     refine wms 1 h139 rfl fun a140 h140 => ?_; clear h139
     refine wl_skip h140 (wanted_no h140.fr rfl rfl rfl rfl rfl) rfl rfl fun a141 h141 => ?_; clear h140
     refine wl_skip h141 (wanted_no h141.fr rfl rfl rfl rfl rfl) rfl rfl fun a142 h142 => ?_; clear h141
     refine wv h142 (r_pickT rfl rfl rfl rfl) rfl rfl fun a143 h143 => ?_; clear h142
     refine wms 1 h143 rfl fun a144 h144 => ?_; clear h143
     refine wpList_nil ?_
     refine hK132 _ _ ?_
     refine wp_seq_k fun K145 hK145 => ?_
     refine wp_seq_k fun K146 hK146 => ?_
     refine wp_region_lit ?_
     refine wms 2 h144 rfl fun a147 h147 => ?_; clear h144
     have hl148 : rc.length ≤ 140737488355328 := (h147.sh.own 1 rfl).len
     refine wv h147 (r_ixN (s := (⟨v12, rc⟩ : Ls Bool)) (q := k) sl_66 ti_4 rfl rfl rfl (fun w h => (h.own 1 rfl)) (show k < rc.length from (by omega))) rfl rfl fun a149 h149 => ?_; clear h147
     refine wv h149 (r_lde (s := (⟨v12, rc⟩ : Ls Bool)) (i := k) (v := .bool (nth rc k)) ti_4 rfl rfl rfl (fun w h => (h.own 1 rfl)) (show k < rc.length from (by omega)) (Nat.le_of_ble_eq_true rfl) rfl) rfl rfl fun a150 h150 => ?_; clear h149
     refine wv h150 (r_not rfl rfl) rfl rfl fun a151 h151 => ?_; clear h150
     refine wms 1 h151 rfl fun a152 h152 => ?_; clear h151
     rcases Bool.eq_false_or_eq_true (!(nth rc k)) with hb153 | hb153
     ·
      have hn153 : nth rc k = false := (Bool.not_eq_true' _).mp hb153
      refine wl_skip h152 (wanted_no h152.fr rfl rfl rfl rfl hb153) rfl rfl fun a154 h154 => ?_; clear h152
      refine wl_skip h154 (wanted_no h154.fr rfl rfl rfl rfl hb153) rfl rfl fun a155 h155 => ?_; clear h154
      refine wl_skip h155 (wanted_no h155.fr rfl rfl rfl rfl hb153) rfl rfl fun a156 h156 => ?_; clear h155
      refine wl_skip h156 (wanted_no2 h156.fr rfl rfl rfl rfl) rfl rfl fun a157 h157 => ?_; clear h156
      refine wl_skip h157 (wanted_no2 h157.fr rfl rfl rfl rfl) rfl rfl fun a158 h158 => ?_; clear h157
      refine wl_skip h158 (wanted_no2 h158.fr rfl rfl rfl rfl) rfl rfl fun a159 h159 => ?_; clear h158
      refine wl_skip h159 (wanted_no2 h159.fr rfl rfl rfl rfl) rfl rfl fun a160 h160 => ?_; clear h159
      refine wl_skip h160 (wanted_no2 h160.fr rfl rfl rfl rfl) rfl rfl fun a161 h161 => ?_; clear h160
      refine wl_skip h161 (wanted_no2 h161.fr rfl rfl rfl rfl) rfl rfl fun a162 h162 => ?_; clear h161
      refine wl_skip h162 (wanted_no2 h162.fr rfl rfl rfl rfl) rfl rfl fun a163 h163 => ?_; clear h162
      refine wl_skip h163 (wanted_no2 h163.fr rfl rfl rfl rfl) rfl rfl fun a164 h164 => ?_; clear h163
      refine wl_skip h164 (wanted_no h164.fr rfl rfl rfl rfl hb153) rfl rfl fun a165 h165 => ?_; clear h164
      refine wv h165 (r_pickT rfl rfl hb153 rfl) rfl rfl fun a166 h166 => ?_; clear h165
      refine wpList_nil ?_
      refine hK146 _ _ ?_
      have h167 : St 128 (fun _ => False) W a166 w130 [(0, x.v), (3, .int .i64 ((x.l.length : Nat) : Int)), (4, v12), (9, v101), (10, .bool agy2), (11, .int .i64 ((k : Nat) : Int)), (103, .bool true)] [.own 4 (⟨v101, my2⟩ : Ls Bool), .own 4 (⟨v12, rc⟩ : Ls Bool), .at_ x] := h166.nrm ⟨rfl, rfl, rfl, rfl, rfl, rfl, rfl, trivial⟩ [0, 1, 2] (by decide) ⟨rfl, rfl, rfl, trivial⟩
      clear h166
      refine x_condT h167 rfl rfl ?_
      refine wp_exit ?_
      refine hK121 _ _ ?_
      refine wp_region_lit ?_
      refine wms 1 h167 rfl fun a168 h168 => ?_; clear h167
      refine wv h168 (r_addN (p := k) (q := 1) rfl rfl rfl (show k + 1 < 9223372036854775808 from (by omega))) rfl rfl fun a169 h169 => ?_; clear h168
      refine wms 1 h169 rfl fun a170 h170 => ?_; clear h169
      refine wpList_nil ?_
      refine x_again ⟨_, ?_, k + 1, my2, agy2, ?_, ?_, ?_, ?_, ((h170.sub (F' := [(0, x.v), (3, .int .i64 ((x.l.length : Nat) : Int)), (4, v12), (9, v101), (10, .bool agy2), (11, .int .i64 ((k + 1 : Nat) : Int))]) ⟨rfl, rfl, rfl, rfl, rfl, rfl, trivial⟩).sel (L' := [.own 4 (⟨v101, my2⟩ : Ls Bool), .own 4 (⟨v12, rc⟩ : Ls Bool), .at_ x]) [0, 1, 2] (by decide) ⟨rfl, rfl, rfl, trivial⟩), rfl⟩
      · rw [hm115]; first | omega | (simp only [List.length_append, List.length_cons, List.length_nil, List.length_set, List.length_replicate, List.length_map, List.length_range]; omega)
      · omega
      · first | exact hyi3 | exact hyi2
      · first | exact fp_close k20 k30 (by omega) | exact fp_skip k20 (fun h => absurd (h.1.symm.trans (show _ = false by assumption)) (by decide)) | exact fp_skip k20 (fun h => absurd ((outB_e (by assumption) (by omega)).trans h.2) (by decide)) | exact fp_skip k20 (fun h => absurd (((by assumption : nth my2 k = false).symm.trans (outB_p (by assumption) (by omega))).trans h.2) (by decide))
      · first | exact k31 | exact k21
     ·
      have hn153 : nth rc k = true := (Bool.not_eq_false' _).mp hb153
      refine wl_val h152 (r_move rfl rfl) (wanted_yes h152.fr rfl rfl rfl rfl hb153) rfl rfl fun a171 h171 => ?_; clear h152
      refine wl_val h171 (r_not rfl rfl) (wanted_yes h171.fr rfl rfl rfl rfl hb153) rfl rfl fun a172 h172 => ?_; clear h171
      refine wl_val h172 (r_move rfl rfl) (wanted_yes h172.fr rfl rfl rfl rfl hb153) rfl rfl fun a173 h173 => ?_; clear h172
      rcases Bool.eq_false_or_eq_true (!(waitsB ((nth x.l k).op))) with hb174 | hb174
      ·
       have hn174 : waitsB ((nth x.l k).op) = false := (Bool.not_eq_true' _).mp hb174
       refine wl_val h173 (r_move rfl rfl) (wanted_yes h173.fr rfl rfl rfl rfl hb174) rfl rfl fun a175 h175 => ?_; clear h173
       refine wl_val h175 (r_move rfl rfl) (wanted_yes h175.fr rfl rfl rfl rfl hb174) rfl rfl fun a176 h176 => ?_; clear h175
       refine wl_skip h176 (wanted_no h176.fr rfl rfl rfl rfl rfl) rfl rfl fun a177 h177 => ?_; clear h176
       refine wl_skip h177 (wanted_no h177.fr rfl rfl rfl rfl rfl) rfl rfl fun a178 h178 => ?_; clear h177
       refine wl_skip h178 (wanted_no h178.fr rfl rfl rfl rfl rfl) rfl rfl fun a179 h179 => ?_; clear h178
       refine wl_skip h179 (wanted_no h179.fr rfl rfl rfl rfl rfl) rfl rfl fun a180 h180 => ?_; clear h179
       refine wl_skip h180 (wanted_no h180.fr rfl rfl rfl rfl rfl) rfl rfl fun a181 h181 => ?_; clear h180
       refine wl_val h181 (r_pickT rfl rfl rfl rfl) (wanted_yes h181.fr rfl rfl rfl rfl hb174) rfl rfl fun a182 h182 => ?_; clear h181
       refine wl_val h182 (r_pickT rfl rfl hb174 rfl) (wanted_yes h182.fr rfl rfl rfl rfl hb153) rfl rfl fun a183 h183 => ?_; clear h182
       refine wv h183 (r_pickF rfl rfl hb153 rfl) rfl rfl fun a184 h184 => ?_; clear h183
       refine wpList_nil ?_
       refine hK146 _ _ ?_
       have h185 : St 128 (fun _ => False) W a184 w130 [(0, x.v), (3, .int .i64 ((x.l.length : Nat) : Int)), (4, v12), (9, v101), (10, .bool agy2), (11, .int .i64 ((k : Nat) : Int)), (103, .bool true)] [.own 4 (⟨v101, my2⟩ : Ls Bool), .own 4 (⟨v12, rc⟩ : Ls Bool), .at_ x] := h184.nrm ⟨rfl, rfl, rfl, rfl, rfl, rfl, rfl, trivial⟩ [0, 1, 2] (by decide) ⟨rfl, rfl, rfl, trivial⟩
       clear h184
       refine x_condT h185 rfl rfl ?_
       refine wp_exit ?_
       refine hK121 _ _ ?_
       refine wp_region_lit ?_
       refine wms 1 h185 rfl fun a186 h186 => ?_; clear h185
       refine wv h186 (r_addN (p := k) (q := 1) rfl rfl rfl (show k + 1 < 9223372036854775808 from (by omega))) rfl rfl fun a187 h187 => ?_; clear h186
       refine wms 1 h187 rfl fun a188 h188 => ?_; clear h187
       refine wpList_nil ?_
       refine x_again ⟨_, ?_, k + 1, my2, agy2, ?_, ?_, ?_, ?_, ((h188.sub (F' := [(0, x.v), (3, .int .i64 ((x.l.length : Nat) : Int)), (4, v12), (9, v101), (10, .bool agy2), (11, .int .i64 ((k + 1 : Nat) : Int))]) ⟨rfl, rfl, rfl, rfl, rfl, rfl, trivial⟩).sel (L' := [.own 4 (⟨v101, my2⟩ : Ls Bool), .own 4 (⟨v12, rc⟩ : Ls Bool), .at_ x]) [0, 1, 2] (by decide) ⟨rfl, rfl, rfl, trivial⟩), rfl⟩
       · rw [hm115]; first | omega | (simp only [List.length_append, List.length_cons, List.length_nil, List.length_set, List.length_replicate, List.length_map, List.length_range]; omega)
       · omega
       · first | exact hyi3 | exact hyi2
       · first | exact fp_close k20 k30 (by omega) | exact fp_skip k20 (fun h => absurd (h.1.symm.trans (show _ = false by assumption)) (by decide)) | exact fp_skip k20 (fun h => absurd ((outB_e (by assumption) (by omega)).trans h.2) (by decide)) | exact fp_skip k20 (fun h => absurd (((by assumption : nth my2 k = false).symm.trans (outB_p (by assumption) (by omega))).trans h.2) (by decide))
       · first | exact k31 | exact k21
      ·
       have hn174 : waitsB ((nth x.l k).op) = true := (Bool.not_eq_false' _).mp hb174
       refine wl_skip h173 (wanted_no h173.fr rfl rfl rfl rfl hb174) rfl rfl fun a189 h189 => ?_; clear h173
       refine wl_skip h189 (wanted_no h189.fr rfl rfl rfl rfl hb174) rfl rfl fun a190 h190 => ?_; clear h189
       refine wl_skip h190 (wanted_no2 h190.fr rfl rfl rfl rfl) rfl rfl fun a191 h191 => ?_; clear h190
       refine wl_skip h191 (wanted_no2 h191.fr rfl rfl rfl rfl) rfl rfl fun a192 h192 => ?_; clear h191
       refine wl_skip h192 (wanted_no2 h192.fr rfl rfl rfl rfl) rfl rfl fun a193 h193 => ?_; clear h192
       refine wl_skip h193 (wanted_no2 h193.fr rfl rfl rfl rfl) rfl rfl fun a194 h194 => ?_; clear h193
       refine wl_skip h194 (wanted_no2 h194.fr rfl rfl rfl rfl) rfl rfl fun a195 h195 => ?_; clear h194
       refine wl_skip h195 (wanted_no h195.fr rfl rfl rfl rfl hb174) rfl rfl fun a196 h196 => ?_; clear h195
       refine wl_val h196 (r_pickF rfl rfl hb174 rfl) (wanted_yes h196.fr rfl rfl rfl rfl hb153) rfl rfl fun a197 h197 => ?_; clear h196
       refine wv h197 (r_pickF rfl rfl hb153 rfl) rfl rfl fun a198 h198 => ?_; clear h197
       refine wpList_nil ?_
       refine hK146 _ _ ?_
       have h199 : St 128 (fun _ => False) W a198 w130 [(0, x.v), (3, .int .i64 ((x.l.length : Nat) : Int)), (4, v12), (9, v101), (10, .bool agy2), (11, .int .i64 ((k : Nat) : Int)), (103, .bool false)] [.own 4 (⟨v101, my2⟩ : Ls Bool), .own 4 (⟨v12, rc⟩ : Ls Bool), .at_ x] := h198.nrm ⟨rfl, rfl, rfl, rfl, rfl, rfl, rfl, trivial⟩ [0, 1, 2] (by decide) ⟨rfl, rfl, rfl, trivial⟩
       clear h198
       refine x_condF h199 rfl rfl ?_
       refine wp_skip ?_
       refine hK145 _ _ ?_
       refine wp_seq_k fun K200 hK200 => ?_
       refine wp_region_lit ?_
       refine wms 2 h199 rfl fun a201 h201 => ?_; clear h199
       refine wl_ex (x_call h201 bd_85 rfl rfl rfl rfl rfl (rNexts_c x k _ (h201.sh.at 2 rfl) (by omega) (by omega))) (wanted_none rfl _) ?_
       rintro a202 w202 ⟨_, ⟨s202, rfl, hs202⟩, hf202⟩
       have h202 := (⟨hf202, h201.sh.call hs202 (by intro A hA b hb; first | (simp at hA; done) | (simp at hA; subst hA; first | exact Flat.noRd hb | exact (hb : False).elim) | (simp at hA; rcases hA with rfl | rfl <;> first | exact Flat.noRd hb | exact (hb : False).elim))⟩ : St 128 (fun _ => False) W a202 w202 _ _)
       clear hf202 hs202
       clear h201
       refine wms 1 h202 rfl fun a203 h203 => ?_; clear h202
       refine wpList_nil ?_
       refine hK200 _ _ ?_
       refine wp_seq_k fun K204 hK204 => ?_
       refine wp_region_lit ?_
       refine wms 1 h203 rfl fun a205 h205 => ?_; clear h203
       refine wpList_nil ?_
       refine hK204 _ _ ?_
       refine wp_block ?_
       have hn2 := nexts_len x.l k
       have hA2 : yA x.l rc my2 k := ⟨by assumption, by first | exact (outB_w (by assumption)).symm | exact ((outB_p (by assumption) (by omega)).symm.trans (by assumption))⟩
       refine x_loop (fun m a w => ∃ (q : Nat) (my3 : List Bool) (agy3 : Bool), (q ≤ (nextsL x.l k).length) ∧ (YI x.l my3) ∧ (agy3 = false → agy2 = false ∧ my3 = my2 ∧ ∀ p, p < q → yA x.l rc my2 k → nth my3 (nth (nextsL x.l k) p).toNat = true) ∧ (agy3 = true → cntB my < cntB my3) ∧ St 128 (fun _ => False) W a w [(0, x.v), (3, .int .i64 ((x.l.length : Nat) : Int)), (4, v12), (9, v101), (10, .bool agy3), (11, .int .i64 ((k : Nat) : Int)), (15, s202.v), (16, .int .i64 ((q : Nat) : Int))] [.own 3 (⟨s202.v, nextsL x.l k⟩ : Ls Int), .own 4 (⟨v101, my3⟩ : Ls Bool), .own 4 (⟨v12, rc⟩ : Ls Bool), .at_ x] ∧ m = (nextsL x.l k).length - q) ⟨_, 0, my2, agy2, (by omega), (hyi2), (fun h => ⟨h, rfl, fun p hp => absurd hp (by omega)⟩), (k21), ((h205.sub (F' := [(0, x.v), (3, .int .i64 ((x.l.length : Nat) : Int)), (4, v12), (9, v101), (10, .bool agy2), (11, .int .i64 ((k : Nat) : Int)), (15, s202.v), (16, .int .i64 0)]) ⟨rfl, rfl, rfl, rfl, rfl, rfl, rfl, rfl, trivial⟩).sel (L' := [.own 3 (⟨s202.v, nextsL x.l k⟩ : Ls Int), .own 4 (⟨v101, my2⟩ : Ls Bool), .own 4 (⟨v12, rc⟩ : Ls Bool), .at_ x]) [0, 1, 2, 3] (by decide) ⟨rfl, rfl, rfl, rfl, trivial⟩), rfl⟩ ?_
       clear h205
       rintro m206 a206 w206 ⟨q, my3, agy3, hq, hyi3, k30, k31, h206, hm206⟩
       have hd5 := hyi3.l1
       have hle := fp_le k20 k30 k31
       refine wp_seq_k fun K207 hK207 => ?_
       refine wp_seq_k fun K208 hK208 => ?_
       refine wp_region_lit ?_
       refine wms 2 h206 rfl fun a209 h209 => ?_; clear h206
       have hl210 : (nextsL x.l k).length ≤ 140737488355328 := (h209.sh.own 0 rfl).len
       refine wv h209 (r_len (s := (⟨s202.v, nextsL x.l k⟩ : Ls Int)) (n := (nextsL x.l k).length) sl_24 rfl rfl (fun w h => (h.own 0 rfl)) rfl) rfl rfl fun a211 h211 => ?_; clear h209
       refine wv h211 (r_lssN (p := q) (q := (nextsL x.l k).length) rfl rfl rfl) rfl rfl fun a212 h212 => ?_; clear h211
       refine wpList_nil ?_
       refine hK208 _ _ ?_
       refine x_cond h212 rfl (fun hb213 => ?_) (fun hb213 => ?_)
       ·
        have hp213 : q < (nextsL x.l k).length := of_decide_eq_true hb213
        refine wp_skip ?_
        refine hK207 _ _ ?_
        have hmm : nth (nextsL x.l k) q ∈ nextsL x.l k := nth_mem _ _ (by omega)
        have hnx := nexts_ok hj (by omega) hmm
        refine wp_seq_k fun K214 hK214 => ?_
        refine wp_block ?_
        refine wp_seq_k fun K215 hK215 => ?_
        refine wp_region_lit ?_
        refine wms 3 h212 rfl fun a216 h216 => ?_; clear h212
        refine wv h216 (r_ixN (s := (⟨s202.v, nextsL x.l k⟩ : Ls Int)) (q := q) sl_24 ti_3 rfl rfl rfl (fun w h => (h.own 0 rfl)) (show q < (nextsL x.l k).length from (by omega))) rfl rfl fun a217 h217 => ?_; clear h216
        refine wv h217 (r_lde (s := (⟨s202.v, nextsL x.l k⟩ : Ls Int)) (i := q) (v := .int .i64 (nth (nextsL x.l k) q)) ti_3 rfl rfl rfl (fun w h => (h.own 0 rfl)) (show q < (nextsL x.l k).length from (by omega)) (Nat.le_of_ble_eq_true rfl) rfl) rfl rfl fun a218 h218 => ?_; clear h217
        have hl219 : my3.length ≤ 140737488355328 := (h218.sh.own 1 rfl).len
        refine wv h218 (r_ixI (s := (⟨v101, my3⟩ : Ls Bool)) (q := nth (nextsL x.l k) q) sl_66 ti_4 rfl rfl rfl (fun w h => (h.own 1 rfl)) (show 0 ≤ nth (nextsL x.l k) q ∧ nth (nextsL x.l k) q < my3.length from (by omega))) rfl rfl fun a220 h220 => ?_; clear h218
        refine wv h220 (r_lde (s := (⟨v101, my3⟩ : Ls Bool)) (i := (nth (nextsL x.l k) q).toNat) (v := .bool (nth my3 ((nth (nextsL x.l k) q).toNat))) ti_4 rfl rfl rfl (fun w h => (h.own 1 rfl)) (show (nth (nextsL x.l k) q).toNat < my3.length from (by omega)) (Nat.le_of_ble_eq_true rfl) rfl) rfl rfl fun a221 h221 => ?_; clear h220
        refine wv h221 (r_not rfl rfl) rfl rfl fun a222 h222 => ?_; clear h221
        refine wpList_nil ?_
        refine hK215 _ _ ?_
        refine x_cond h222 rfl (fun hb223 => ?_) (fun hb223 => ?_)
        ·
         have hn223 : nth my3 ((nth (nextsL x.l k) q).toNat) = false := (Bool.not_eq_true' _).mp hb223
         refine wp_seq_k fun K224 hK224 => ?_
         refine wp_region_lit ?_
         refine wms 3 h222 rfl fun a225 h225 => ?_; clear h222
         refine wv h225 (r_ixN (s := (⟨s202.v, nextsL x.l k⟩ : Ls Int)) (q := q) sl_24 ti_3 rfl rfl rfl (fun w h => (h.own 0 rfl)) (show q < (nextsL x.l k).length from (by omega))) rfl rfl fun a226 h226 => ?_; clear h225
         refine wv h226 (r_lde (s := (⟨s202.v, nextsL x.l k⟩ : Ls Int)) (i := q) (v := .int .i64 (nth (nextsL x.l k) q)) ti_3 rfl rfl rfl (fun w h => (h.own 0 rfl)) (show q < (nextsL x.l k).length from (by omega)) (Nat.le_of_ble_eq_true rfl) rfl) rfl rfl fun a227 h227 => ?_; clear h226
         refine wv h227 (r_ixI (s := (⟨v101, my3⟩ : Ls Bool)) (q := nth (nextsL x.l k) q) sl_66 ti_4 rfl rfl rfl (fun w h => (h.own 1 rfl)) (show 0 ≤ nth (nextsL x.l k) q ∧ nth (nextsL x.l k) q < my3.length from (by omega))) rfl rfl fun a228 h228 => ?_; clear h227
         refine wl_ex (x_ste (r := 1) (i := (nth (nextsL x.l k) q).toNat) (j := 0) (x' := (true : Bool)) h228 ti_4 rfl rfl rfl rfl rfl (show (nth (nextsL x.l k) q).toNat < my3.length from (by omega)) (Nat.le_of_ble_eq_true rfl) rfl rfl rfl (by intro q hq; obtain rfl : q = 0 := (by omega); rfl) (fun w h => Flat.inner _ _) (fun b hb => (Flat.on _ _ hb).elim)) (wanted_none rfl _) ?_
         rintro a229 w229 h229
         clear h228
         refine wpList_nil ?_
         refine hK224 _ _ ?_
         refine wp_region_lit ?_
         refine wms 1 h229 rfl fun a230 h230 => ?_; clear h229
         refine wpList_nil ?_
         refine hK214 _ _ ?_
         refine wp_region_lit ?_
         refine wms 1 h230 rfl fun a231 h231 => ?_; clear h230
         refine wv h231 (r_addN (p := q) (q := 1) rfl rfl rfl (show q + 1 < 9223372036854775808 from (by omega))) rfl rfl fun a232 h232 => ?_; clear h231
         refine wms 1 h232 rfl fun a233 h233 => ?_; clear h232
         refine wpList_nil ?_
         refine x_again ⟨_, ?_, q + 1, my3.set ((nth (nextsL x.l k) q).toNat) true, true, ?_, ?_, ?_, ?_, ((h233.sub (F' := [(0, x.v), (3, .int .i64 ((x.l.length : Nat) : Int)), (4, v12), (9, v101), (10, .bool true), (11, .int .i64 ((k : Nat) : Int)), (15, s202.v), (16, .int .i64 ((q + 1 : Nat) : Int))]) ⟨rfl, rfl, rfl, rfl, rfl, rfl, rfl, rfl, trivial⟩).sel (L' := [.own 3 (⟨s202.v, nextsL x.l k⟩ : Ls Int), .own 4 (⟨v101, my3.set ((nth (nextsL x.l k) q).toNat) true⟩ : Ls Bool), .own 4 (⟨v12, rc⟩ : Ls Bool), .at_ x]) [0, 1, 2, 3] (by decide) ⟨rfl, rfl, rfl, rfl, trivial⟩), rfl⟩
         · rw [hm206]; first | omega | (simp only [List.length_append, List.length_cons, List.length_nil, List.length_set, List.length_replicate, List.length_map, List.length_range]; omega)
         · omega
         · first | exact hyi3 | exact hyi3.set (may_of ((hrc k).1 hA2.1) (by omega) (hyi2.s1 k) hA2.2 hmm)
         · first | (intro h; cases h; done) | (intro h; obtain ⟨e0, e1, hp⟩ := k30 h; refine ⟨e0, e1, fun p hp2 hA => ?_⟩; rcases Nat.lt_or_ge p q with h9 | h9; (exact hp p h9 hA); obtain rfl : p = q := (by omega); assumption)
         · first | exact k31 | (intro _; exact fp_grow hle (by omega) (by assumption))
        ·
         have hn223 : nth my3 ((nth (nextsL x.l k) q).toNat) = true := (Bool.not_eq_false' _).mp hb223
         refine wp_skip ?_
         refine hK214 _ _ ?_
         refine wp_region_lit ?_
         refine wms 1 h222 rfl fun a234 h234 => ?_; clear h222
         refine wv h234 (r_addN (p := q) (q := 1) rfl rfl rfl (show q + 1 < 9223372036854775808 from (by omega))) rfl rfl fun a235 h235 => ?_; clear h234
         refine wms 1 h235 rfl fun a236 h236 => ?_; clear h235
         refine wpList_nil ?_
         refine x_again ⟨_, ?_, q + 1, my3, agy3, ?_, ?_, ?_, ?_, ((h236.sub (F' := [(0, x.v), (3, .int .i64 ((x.l.length : Nat) : Int)), (4, v12), (9, v101), (10, .bool agy3), (11, .int .i64 ((k : Nat) : Int)), (15, s202.v), (16, .int .i64 ((q + 1 : Nat) : Int))]) ⟨rfl, rfl, rfl, rfl, rfl, rfl, rfl, rfl, trivial⟩).sel (L' := [.own 3 (⟨s202.v, nextsL x.l k⟩ : Ls Int), .own 4 (⟨v101, my3⟩ : Ls Bool), .own 4 (⟨v12, rc⟩ : Ls Bool), .at_ x]) [0, 1, 2, 3] (by decide) ⟨rfl, rfl, rfl, rfl, trivial⟩), rfl⟩
         · rw [hm206]; first | omega | (simp only [List.length_append, List.length_cons, List.length_nil, List.length_set, List.length_replicate, List.length_map, List.length_range]; omega)
         · omega
         · first | exact hyi3 | exact hyi3.set (may_of ((hrc k).1 hA2.1) (by omega) (hyi2.s1 k) hA2.2 hmm)
         · first | (intro h; cases h; done) | (intro h; obtain ⟨e0, e1, hp⟩ := k30 h; refine ⟨e0, e1, fun p hp2 hA => ?_⟩; rcases Nat.lt_or_ge p q with h9 | h9; (exact hp p h9 hA); obtain rfl : p = q := (by omega); assumption)
         · first | exact k31 | (intro _; exact fp_grow hle (by omega) (by assumption))
       ·
        have hp213 : ¬ (q < (nextsL x.l k).length) := of_decide_eq_false hb213
        refine wp_exit ?_
        refine hK121 _ _ ?_
        refine wp_region_lit ?_
        refine wms 1 h212 rfl fun a237 h237 => ?_; clear h212
        refine wv h237 (r_addN (p := k) (q := 1) rfl rfl rfl (show k + 1 < 9223372036854775808 from (by omega))) rfl rfl fun a238 h238 => ?_; clear h237
        refine wms 1 h238 rfl fun a239 h239 => ?_; clear h238
        refine wpList_nil ?_
        refine x_again ⟨_, ?_, k + 1, my3, agy3, ?_, ?_, ?_, ?_, ((h239.sub (F' := [(0, x.v), (3, .int .i64 ((x.l.length : Nat) : Int)), (4, v12), (9, v101), (10, .bool agy3), (11, .int .i64 ((k + 1 : Nat) : Int))]) ⟨rfl, rfl, rfl, rfl, rfl, rfl, trivial⟩).sel (L' := [.own 4 (⟨v101, my3⟩ : Ls Bool), .own 4 (⟨v12, rc⟩ : Ls Bool), .at_ x]) [1, 2, 3] (by decide) ⟨rfl, rfl, rfl, trivial⟩), rfl⟩
        · rw [hm115]; first | omega | (simp only [List.length_append, List.length_cons, List.length_nil, List.length_set, List.length_replicate, List.length_map, List.length_range]; omega)
        · omega
        · first | exact hyi3 | exact hyi2
        · first | exact fp_close k20 k30 (by omega) | exact fp_skip k20 (fun h => absurd (h.1.symm.trans (show _ = false by assumption)) (by decide)) | exact fp_skip k20 (fun h => absurd ((outB_e (by assumption) (by omega)).trans h.2) (by decide)) | exact fp_skip k20 (fun h => absurd (((by assumption : nth my2 k = false).symm.trans (outB_p (by assumption) (by omega))).trans h.2) (by decide))
        · first | exact k31 | exact k21
    ·
     have hp136 : ¬ ((nth x.l k).op = 12) := of_decide_eq_false hb136
     refine wl_val h135 (r_move rfl rfl) (wanted_yes h135.fr rfl rfl rfl rfl hb136) rfl rfl fun a240 h240 => ?_; clear h135
     refine wl_val h240 (r_eqlI (p := (nth x.l k).op) (q := 13) rfl rfl rfl) (wanted_yes h240.fr rfl rfl rfl rfl hb136) rfl rfl fun a241 h241 => ?_; clear h240
     refine wv h241 (r_pickF rfl rfl hb136 rfl) rfl rfl fun a242 h242 => ?_; clear h241
     refine wms 1 h242 rfl fun a243 h243 => ?_; clear h242
     rcases Bool.eq_false_or_eq_true (decide ((nth x.l k).op = 13)) with hb244 | hb244
     ·
      have hp244 : (nth x.l k).op = 13 := of_decide_eq_true hb244
      refine wl_skip h243 (wanted_no h243.fr rfl rfl rfl rfl hb244) rfl rfl fun a245 h245 => ?_; clear h243
      refine wl_skip h245 (wanted_no h245.fr rfl rfl rfl rfl hb244) rfl rfl fun a246 h246 => ?_; clear h245
      refine wv h246 (r_pickT rfl rfl hb244 rfl) rfl rfl fun a247 h247 => ?_; clear h246
      refine wms 1 h247 rfl fun a248 h248 => ?_; clear h247
      refine wpList_nil ?_
      refine hK132 _ _ ?_
      refine wp_seq_k fun K249 hK249 => ?_
      refine wp_seq_k fun K250 hK250 => ?_
      refine wp_region_lit ?_
      refine wms 2 h248 rfl fun a251 h251 => ?_; clear h248
      have hl252 : rc.length ≤ 140737488355328 := (h251.sh.own 1 rfl).len
      refine wv h251 (r_ixN (s := (⟨v12, rc⟩ : Ls Bool)) (q := k) sl_66 ti_4 rfl rfl rfl (fun w h => (h.own 1 rfl)) (show k < rc.length from (by omega))) rfl rfl fun a253 h253 => ?_; clear h251
      refine wv h253 (r_lde (s := (⟨v12, rc⟩ : Ls Bool)) (i := k) (v := .bool (nth rc k)) ti_4 rfl rfl rfl (fun w h => (h.own 1 rfl)) (show k < rc.length from (by omega)) (Nat.le_of_ble_eq_true rfl) rfl) rfl rfl fun a254 h254 => ?_; clear h253
      refine wv h254 (r_not rfl rfl) rfl rfl fun a255 h255 => ?_; clear h254
      refine wms 1 h255 rfl fun a256 h256 => ?_; clear h255
      rcases Bool.eq_false_or_eq_true (!(nth rc k)) with hb257 | hb257
      ·
       have hn257 : nth rc k = false := (Bool.not_eq_true' _).mp hb257
       refine wl_skip h256 (wanted_no h256.fr rfl rfl rfl rfl hb257) rfl rfl fun a258 h258 => ?_; clear h256
       refine wl_skip h258 (wanted_no h258.fr rfl rfl rfl rfl hb257) rfl rfl fun a259 h259 => ?_; clear h258
       refine wl_skip h259 (wanted_no h259.fr rfl rfl rfl rfl hb257) rfl rfl fun a260 h260 => ?_; clear h259
       refine wl_skip h260 (wanted_no2 h260.fr rfl rfl rfl rfl) rfl rfl fun a261 h261 => ?_; clear h260
       refine wl_skip h261 (wanted_no2 h261.fr rfl rfl rfl rfl) rfl rfl fun a262 h262 => ?_; clear h261
       refine wl_skip h262 (wanted_no2 h262.fr rfl rfl rfl rfl) rfl rfl fun a263 h263 => ?_; clear h262
       refine wl_skip h263 (wanted_no2 h263.fr rfl rfl rfl rfl) rfl rfl fun a264 h264 => ?_; clear h263
       refine wl_skip h264 (wanted_no2 h264.fr rfl rfl rfl rfl) rfl rfl fun a265 h265 => ?_; clear h264
       refine wl_skip h265 (wanted_no2 h265.fr rfl rfl rfl rfl) rfl rfl fun a266 h266 => ?_; clear h265
       refine wl_skip h266 (wanted_no2 h266.fr rfl rfl rfl rfl) rfl rfl fun a267 h267 => ?_; clear h266
       refine wl_skip h267 (wanted_no2 h267.fr rfl rfl rfl rfl) rfl rfl fun a268 h268 => ?_; clear h267
       refine wl_skip h268 (wanted_no h268.fr rfl rfl rfl rfl hb257) rfl rfl fun a269 h269 => ?_; clear h268
       refine wv h269 (r_pickT rfl rfl hb257 rfl) rfl rfl fun a270 h270 => ?_; clear h269
       refine wpList_nil ?_
       refine hK250 _ _ ?_
       have h271 : St 128 (fun _ => False) W a270 w130 [(0, x.v), (3, .int .i64 ((x.l.length : Nat) : Int)), (4, v12), (9, v101), (10, .bool agy2), (11, .int .i64 ((k : Nat) : Int)), (103, .bool true)] [.own 4 (⟨v101, my2⟩ : Ls Bool), .own 4 (⟨v12, rc⟩ : Ls Bool), .at_ x] := h270.nrm ⟨rfl, rfl, rfl, rfl, rfl, rfl, rfl, trivial⟩ [0, 1, 2] (by decide) ⟨rfl, rfl, rfl, trivial⟩
       clear h270
       refine x_condT h271 rfl rfl ?_
       refine wp_exit ?_
       refine hK121 _ _ ?_
       refine wp_region_lit ?_
       refine wms 1 h271 rfl fun a272 h272 => ?_; clear h271
       refine wv h272 (r_addN (p := k) (q := 1) rfl rfl rfl (show k + 1 < 9223372036854775808 from (by omega))) rfl rfl fun a273 h273 => ?_; clear h272
       refine wms 1 h273 rfl fun a274 h274 => ?_; clear h273
       refine wpList_nil ?_
       refine x_again ⟨_, ?_, k + 1, my2, agy2, ?_, ?_, ?_, ?_, ((h274.sub (F' := [(0, x.v), (3, .int .i64 ((x.l.length : Nat) : Int)), (4, v12), (9, v101), (10, .bool agy2), (11, .int .i64 ((k + 1 : Nat) : Int))]) ⟨rfl, rfl, rfl, rfl, rfl, rfl, trivial⟩).sel (L' := [.own 4 (⟨v101, my2⟩ : Ls Bool), .own 4 (⟨v12, rc⟩ : Ls Bool), .at_ x]) [0, 1, 2] (by decide) ⟨rfl, rfl, rfl, trivial⟩), rfl⟩
       · rw [hm115]; first | omega | (simp only [List.length_append, List.length_cons, List.length_nil, List.length_set, List.length_replicate, List.length_map, List.length_range]; omega)
       · omega
       · first | exact hyi3 | exact hyi2
       · first | exact fp_close k20 k30 (by omega) | exact fp_skip k20 (fun h => absurd (h.1.symm.trans (show _ = false by assumption)) (by decide)) | exact fp_skip k20 (fun h => absurd ((outB_e (by assumption) (by omega)).trans h.2) (by decide)) | exact fp_skip k20 (fun h => absurd (((by assumption : nth my2 k = false).symm.trans (outB_p (by assumption) (by omega))).trans h.2) (by decide))
       · first | exact k31 | exact k21
      ·
       have hn257 : nth rc k = true := (Bool.not_eq_false' _).mp hb257
       refine wl_val h256 (r_move rfl rfl) (wanted_yes h256.fr rfl rfl rfl rfl hb257) rfl rfl fun a275 h275 => ?_; clear h256
       refine wl_val h275 (r_not rfl rfl) (wanted_yes h275.fr rfl rfl rfl rfl hb257) rfl rfl fun a276 h276 => ?_; clear h275
       refine wl_val h276 (r_move rfl rfl) (wanted_yes h276.fr rfl rfl rfl rfl hb257) rfl rfl fun a277 h277 => ?_; clear h276
       rcases Bool.eq_false_or_eq_true (!(waitsB ((nth x.l k).op))) with hb278 | hb278
       ·
        have hn278 : waitsB ((nth x.l k).op) = false := (Bool.not_eq_true' _).mp hb278
        refine wl_val h277 (r_move rfl rfl) (wanted_yes h277.fr rfl rfl rfl rfl hb278) rfl rfl fun a279 h279 => ?_; clear h277
        refine wl_val h279 (r_move rfl rfl) (wanted_yes h279.fr rfl rfl rfl rfl hb278) rfl rfl fun a280 h280 => ?_; clear h279
        refine wl_skip h280 (wanted_no h280.fr rfl rfl rfl rfl rfl) rfl rfl fun a281 h281 => ?_; clear h280
        refine wl_skip h281 (wanted_no h281.fr rfl rfl rfl rfl rfl) rfl rfl fun a282 h282 => ?_; clear h281
        refine wl_skip h282 (wanted_no h282.fr rfl rfl rfl rfl rfl) rfl rfl fun a283 h283 => ?_; clear h282
        refine wl_skip h283 (wanted_no h283.fr rfl rfl rfl rfl rfl) rfl rfl fun a284 h284 => ?_; clear h283
        refine wl_skip h284 (wanted_no h284.fr rfl rfl rfl rfl rfl) rfl rfl fun a285 h285 => ?_; clear h284
        refine wl_val h285 (r_pickT rfl rfl rfl rfl) (wanted_yes h285.fr rfl rfl rfl rfl hb278) rfl rfl fun a286 h286 => ?_; clear h285
        refine wl_val h286 (r_pickT rfl rfl hb278 rfl) (wanted_yes h286.fr rfl rfl rfl rfl hb257) rfl rfl fun a287 h287 => ?_; clear h286
        refine wv h287 (r_pickF rfl rfl hb257 rfl) rfl rfl fun a288 h288 => ?_; clear h287
        refine wpList_nil ?_
        refine hK250 _ _ ?_
        have h289 : St 128 (fun _ => False) W a288 w130 [(0, x.v), (3, .int .i64 ((x.l.length : Nat) : Int)), (4, v12), (9, v101), (10, .bool agy2), (11, .int .i64 ((k : Nat) : Int)), (103, .bool true)] [.own 4 (⟨v101, my2⟩ : Ls Bool), .own 4 (⟨v12, rc⟩ : Ls Bool), .at_ x] := h288.nrm ⟨rfl, rfl, rfl, rfl, rfl, rfl, rfl, trivial⟩ [0, 1, 2] (by decide) ⟨rfl, rfl, rfl, trivial⟩
        clear h288
        refine x_condT h289 rfl rfl ?_
        refine wp_exit ?_
        refine hK121 _ _ ?_
        refine wp_region_lit ?_
        refine wms 1 h289 rfl fun a290 h290 => ?_; clear h289
        refine wv h290 (r_addN (p := k) (q := 1) rfl rfl rfl (show k + 1 < 9223372036854775808 from (by omega))) rfl rfl fun a291 h291 => ?_; clear h290
        refine wms 1 h291 rfl fun a292 h292 => ?_; clear h291
        refine wpList_nil ?_
        refine x_again ⟨_, ?_, k + 1, my2, agy2, ?_, ?_, ?_, ?_, ((h292.sub (F' := [(0, x.v), (3, .int .i64 ((x.l.length : Nat) : Int)), (4, v12), (9, v101), (10, .bool agy2), (11, .int .i64 ((k + 1 : Nat) : Int))]) ⟨rfl, rfl, rfl, rfl, rfl, rfl, trivial⟩).sel (L' := [.own 4 (⟨v101, my2⟩ : Ls Bool), .own 4 (⟨v12, rc⟩ : Ls Bool), .at_ x]) [0, 1, 2] (by decide) ⟨rfl, rfl, rfl, trivial⟩), rfl⟩
        · rw [hm115]; first | omega | (simp only [List.length_append, List.length_cons, List.length_nil, List.length_set, List.length_replicate, List.length_map, List.length_range]; omega)
        · omega
        · first | exact hyi3 | exact hyi2
        · first | exact fp_close k20 k30 (by omega) | exact fp_skip k20 (fun h => absurd (h.1.symm.trans (show _ = false by assumption)) (by decide)) | exact fp_skip k20 (fun h => absurd ((outB_e (by assumption) (by omega)).trans h.2) (by decide)) | exact fp_skip k20 (fun h => absurd (((by assumption : nth my2 k = false).symm.trans (outB_p (by assumption) (by omega))).trans h.2) (by decide))
        · first | exact k31 | exact k21
       ·
        have hn278 : waitsB ((nth x.l k).op) = true := (Bool.not_eq_false' _).mp hb278
        refine wl_skip h277 (wanted_no h277.fr rfl rfl rfl rfl hb278) rfl rfl fun a293 h293 => ?_; clear h277
        refine wl_skip h293 (wanted_no h293.fr rfl rfl rfl rfl hb278) rfl rfl fun a294 h294 => ?_; clear h293
        refine wl_skip h294 (wanted_no2 h294.fr rfl rfl rfl rfl) rfl rfl fun a295 h295 => ?_; clear h294
        refine wl_skip h295 (wanted_no2 h295.fr rfl rfl rfl rfl) rfl rfl fun a296 h296 => ?_; clear h295
        refine wl_skip h296 (wanted_no2 h296.fr rfl rfl rfl rfl) rfl rfl fun a297 h297 => ?_; clear h296
        refine wl_skip h297 (wanted_no2 h297.fr rfl rfl rfl rfl) rfl rfl fun a298 h298 => ?_; clear h297
        refine wl_skip h298 (wanted_no2 h298.fr rfl rfl rfl rfl) rfl rfl fun a299 h299 => ?_; clear h298
        refine wl_skip h299 (wanted_no h299.fr rfl rfl rfl rfl hb278) rfl rfl fun a300 h300 => ?_; clear h299
        refine wl_val h300 (r_pickF rfl rfl hb278 rfl) (wanted_yes h300.fr rfl rfl rfl rfl hb257) rfl rfl fun a301 h301 => ?_; clear h300
        refine wv h301 (r_pickF rfl rfl hb257 rfl) rfl rfl fun a302 h302 => ?_; clear h301
        refine wpList_nil ?_
        refine hK250 _ _ ?_
        have h303 : St 128 (fun _ => False) W a302 w130 [(0, x.v), (3, .int .i64 ((x.l.length : Nat) : Int)), (4, v12), (9, v101), (10, .bool agy2), (11, .int .i64 ((k : Nat) : Int)), (103, .bool false)] [.own 4 (⟨v101, my2⟩ : Ls Bool), .own 4 (⟨v12, rc⟩ : Ls Bool), .at_ x] := h302.nrm ⟨rfl, rfl, rfl, rfl, rfl, rfl, rfl, trivial⟩ [0, 1, 2] (by decide) ⟨rfl, rfl, rfl, trivial⟩
        clear h302
        refine x_condF h303 rfl rfl ?_
        refine wp_skip ?_
        refine hK249 _ _ ?_
        refine wp_seq_k fun K304 hK304 => ?_
        refine wp_region_lit ?_
        refine wms 2 h303 rfl fun a305 h305 => ?_; clear h303
        refine wl_ex (x_call h305 bd_85 rfl rfl rfl rfl rfl (rNexts_c x k _ (h305.sh.at 2 rfl) (by omega) (by omega))) (wanted_none rfl _) ?_
        rintro a306 w306 ⟨_, ⟨s306, rfl, hs306⟩, hf306⟩
        have h306 := (⟨hf306, h305.sh.call hs306 (by intro A hA b hb; first | (simp at hA; done) | (simp at hA; subst hA; first | exact Flat.noRd hb | exact (hb : False).elim) | (simp at hA; rcases hA with rfl | rfl <;> first | exact Flat.noRd hb | exact (hb : False).elim))⟩ : St 128 (fun _ => False) W a306 w306 _ _)
        clear hf306 hs306
        clear h305
        refine wms 1 h306 rfl fun a307 h307 => ?_; clear h306
        refine wpList_nil ?_
        refine hK304 _ _ ?_
        refine wp_seq_k fun K308 hK308 => ?_
        refine wp_region_lit ?_
        refine wms 1 h307 rfl fun a309 h309 => ?_; clear h307
        refine wpList_nil ?_
        refine hK308 _ _ ?_
        refine wp_block ?_
        have hn2 := nexts_len x.l k
        have hA2 : yA x.l rc my2 k := ⟨by assumption, by first | exact (outB_w (by assumption)).symm | exact ((outB_p (by assumption) (by omega)).symm.trans (by assumption))⟩
        refine x_loop (fun m a w => ∃ (q : Nat) (my3 : List Bool) (agy3 : Bool), (q ≤ (nextsL x.l k).length) ∧ (YI x.l my3) ∧ (agy3 = false → agy2 = false ∧ my3 = my2 ∧ ∀ p, p < q → yA x.l rc my2 k → nth my3 (nth (nextsL x.l k) p).toNat = true) ∧ (agy3 = true → cntB my < cntB my3) ∧ St 128 (fun _ => False) W a w [(0, x.v), (3, .int .i64 ((x.l.length : Nat) : Int)), (4, v12), (9, v101), (10, .bool agy3), (11, .int .i64 ((k : Nat) : Int)), (15, s306.v), (16, .int .i64 ((q : Nat) : Int))] [.own 3 (⟨s306.v, nextsL x.l k⟩ : Ls Int), .own 4 (⟨v101, my3⟩ : Ls Bool), .own 4 (⟨v12, rc⟩ : Ls Bool), .at_ x] ∧ m = (nextsL x.l k).length - q) ⟨_, 0, my2, agy2, (by omega), (hyi2), (fun h => ⟨h, rfl, fun p hp => absurd hp (by omega)⟩), (k21), ((h309.sub (F' := [(0, x.v), (3, .int .i64 ((x.l.length : Nat) : Int)), (4, v12), (9, v101), (10, .bool agy2), (11, .int .i64 ((k : Nat) : Int)), (15, s306.v), (16, .int .i64 0)]) ⟨rfl, rfl, rfl, rfl, rfl, rfl, rfl, rfl, trivial⟩).sel (L' := [.own 3 (⟨s306.v, nextsL x.l k⟩ : Ls Int), .own 4 (⟨v101, my2⟩ : Ls Bool), .own 4 (⟨v12, rc⟩ : Ls Bool), .at_ x]) [0, 1, 2, 3] (by decide) ⟨rfl, rfl, rfl, rfl, trivial⟩), rfl⟩ ?_
        clear h309
        rintro m310 a310 w310 ⟨q, my3, agy3, hq, hyi3, k30, k31, h310, hm310⟩
        have hd5 := hyi3.l1
        have hle := fp_le k20 k30 k31
        refine wp_seq_k fun K311 hK311 => ?_
        refine wp_seq_k fun K312 hK312 => ?_
        refine wp_region_lit ?_
        refine wms 2 h310 rfl fun a313 h313 => ?_; clear h310
        have hl314 : (nextsL x.l k).length ≤ 140737488355328 := (h313.sh.own 0 rfl).len
        refine wv h313 (r_len (s := (⟨s306.v, nextsL x.l k⟩ : Ls Int)) (n := (nextsL x.l k).length) sl_24 rfl rfl (fun w h => (h.own 0 rfl)) rfl) rfl rfl fun a315 h315 => ?_; clear h313
        refine wv h315 (r_lssN (p := q) (q := (nextsL x.l k).length) rfl rfl rfl) rfl rfl fun a316 h316 => ?_; clear h315
        refine wpList_nil ?_
        refine hK312 _ _ ?_
        refine x_cond h316 rfl (fun hb317 => ?_) (fun hb317 => ?_)
        ·
         have hp317 : q < (nextsL x.l k).length := of_decide_eq_true hb317
         refine wp_skip ?_
         refine hK311 _ _ ?_
         have hmm : nth (nextsL x.l k) q ∈ nextsL x.l k := nth_mem _ _ (by omega)
         have hnx := nexts_ok hj (by omega) hmm
         refine wp_seq_k fun K318 hK318 => ?_
         refine wp_block ?_
         refine wp_seq_k fun K319 hK319 => ?_
         refine wp_region_lit ?_
         refine wms 3 h316 rfl fun a320 h320 => ?_; clear h316
         refine wv h320 (r_ixN (s := (⟨s306.v, nextsL x.l k⟩ : Ls Int)) (q := q) sl_24 ti_3 rfl rfl rfl (fun w h => (h.own 0 rfl)) (show q < (nextsL x.l k).length from (by omega))) rfl rfl fun a321 h321 => ?_; clear h320
         refine wv h321 (r_lde (s := (⟨s306.v, nextsL x.l k⟩ : Ls Int)) (i := q) (v := .int .i64 (nth (nextsL x.l k) q)) ti_3 rfl rfl rfl (fun w h => (h.own 0 rfl)) (show q < (nextsL x.l k).length from (by omega)) (Nat.le_of_ble_eq_true rfl) rfl) rfl rfl fun a322 h322 => ?_; clear h321
         have hl323 : my3.length ≤ 140737488355328 := (h322.sh.own 1 rfl).len
         refine wv h322 (r_ixI (s := (⟨v101, my3⟩ : Ls Bool)) (q := nth (nextsL x.l k) q) sl_66 ti_4 rfl rfl rfl (fun w h => (h.own 1 rfl)) (show 0 ≤ nth (nextsL x.l k) q ∧ nth (nextsL x.l k) q < my3.length from (by omega))) rfl rfl fun a324 h324 => ?_; clear h322
         refine wv h324 (r_lde (s := (⟨v101, my3⟩ : Ls Bool)) (i := (nth (nextsL x.l k) q).toNat) (v := .bool (nth my3 ((nth (nextsL x.l k) q).toNat))) ti_4 rfl rfl rfl (fun w h => (h.own 1 rfl)) (show (nth (nextsL x.l k) q).toNat < my3.length from (by omega)) (Nat.le_of_ble_eq_true rfl) rfl) rfl rfl fun a325 h325 => ?_; clear h324
         refine wv h325 (r_not rfl rfl) rfl rfl fun a326 h326 => ?_; clear h325
         refine wpList_nil ?_
         refine hK319 _ _ ?_
         refine x_cond h326 rfl (fun hb327 => ?_) (fun hb327 => ?_)
         ·
          have hn327 : nth my3 ((nth (nextsL x.l k) q).toNat) = false := (Bool.not_eq_true' _).mp hb327
          refine wp_seq_k fun K328 hK328 => ?_
          refine wp_region_lit ?_
          refine wms 3 h326 rfl fun a329 h329 => ?_; clear h326
          refine wv h329 (r_ixN (s := (⟨s306.v, nextsL x.l k⟩ : Ls Int)) (q := q) sl_24 ti_3 rfl rfl rfl (fun w h => (h.own 0 rfl)) (show q < (nextsL x.l k).length from (by omega))) rfl rfl fun a330 h330 => ?_; clear h329
          refine wv h330 (r_lde (s := (⟨s306.v, nextsL x.l k⟩ : Ls Int)) (i := q) (v := .int .i64 (nth (nextsL x.l k) q)) ti_3 rfl rfl rfl (fun w h => (h.own 0 rfl)) (show q < (nextsL x.l k).length from (by omega)) (Nat.le_of_ble_eq_true rfl) rfl) rfl rfl fun a331 h331 => ?_; clear h330
          refine wv h331 (r_ixI (s := (⟨v101, my3⟩ : Ls Bool)) (q := nth (nextsL x.l k) q) sl_66 ti_4 rfl rfl rfl (fun w h => (h.own 1 rfl)) (show 0 ≤ nth (nextsL x.l k) q ∧ nth (nextsL x.l k) q < my3.length from (by omega))) rfl rfl fun a332 h332 => ?_; clear h331
          refine wl_ex (x_ste (r := 1) (i := (nth (nextsL x.l k) q).toNat) (j := 0) (x' := (true : Bool)) h332 ti_4 rfl rfl rfl rfl rfl (show (nth (nextsL x.l k) q).toNat < my3.length from (by omega)) (Nat.le_of_ble_eq_true rfl) rfl rfl rfl (by intro q hq; obtain rfl : q = 0 := (by omega); rfl) (fun w h => Flat.inner _ _) (fun b hb => (Flat.on _ _ hb).elim)) (wanted_none rfl _) ?_
          rintro a333 w333 h333
          clear h332
          refine wpList_nil ?_
          refine hK328 _ _ ?_
          refine wp_region_lit ?_
          refine wms 1 h333 rfl fun a334 h334 => ?_; clear h333
          refine wpList_nil ?_
          refine hK318 _ _ ?_
          refine wp_region_lit ?_
          refine wms 1 h334 rfl fun a335 h335 => ?_; clear h334
          refine wv h335 (r_addN (p := q) (q := 1) rfl rfl rfl (show q + 1 < 9223372036854775808 from (by omega))) rfl rfl fun a336 h336 => ?_; clear h335
          refine wms 1 h336 rfl fun a337 h337 => ?_; clear h336
          refine wpList_nil ?_
          refine x_again ⟨_, ?_, q + 1, my3.set ((nth (nextsL x.l k) q).toNat) true, true, ?_, ?_, ?_, ?_, ((h337.sub (F' := [(0, x.v), (3, .int .i64 ((x.l.length : Nat) : Int)), (4, v12), (9, v101), (10, .bool true), (11, .int .i64 ((k : Nat) : Int)), (15, s306.v), (16, .int .i64 ((q + 1 : Nat) : Int))]) ⟨rfl, rfl, rfl, rfl, rfl, rfl, rfl, rfl, trivial⟩).sel (L' := [.own 3 (⟨s306.v, nextsL x.l k⟩ : Ls Int), .own 4 (⟨v101, my3.set ((nth (nextsL x.l k) q).toNat) true⟩ : Ls Bool), .own 4 (⟨v12, rc⟩ : Ls Bool), .at_ x]) [0, 1, 2, 3] (by decide) ⟨rfl, rfl, rfl, rfl, trivial⟩), rfl⟩
          · rw [hm310]; first | omega | (simp only [List.length_append, List.length_cons, List.length_nil, List.length_set, List.length_replicate, List.length_map, List.length_range]; omega)
          · omega
          · first | exact hyi3 | exact hyi3.set (may_of ((hrc k).1 hA2.1) (by omega) (hyi2.s1 k) hA2.2 hmm)
          · first | (intro h; cases h; done) | (intro h; obtain ⟨e0, e1, hp⟩ := k30 h; refine ⟨e0, e1, fun p hp2 hA => ?_⟩; rcases Nat.lt_or_ge p q with h9 | h9; (exact hp p h9 hA); obtain rfl : p = q := (by omega); assumption)
          · first | exact k31 | (intro _; exact fp_grow hle (by omega) (by assumption))
         ·
          have hn327 : nth my3 ((nth (nextsL x.l k) q).toNat) = true := (Bool.not_eq_false' _).mp hb327
          refine wp_skip ?_
          refine hK318 _ _ ?_
          refine wp_region_lit ?_
          refine wms 1 h326 rfl fun a338 h338 => ?_; clear h326
          refine wv h338 (r_addN (p := q) (q := 1) rfl rfl rfl (show q + 1 < 9223372036854775808 from (by omega))) rfl rfl fun a339 h339 => ?_; clear h338
          refine wms 1 h339 rfl fun a340 h340 => ?_; clear h339
          refine wpList_nil ?_
          refine x_again ⟨_, ?_, q + 1, my3, agy3, ?_, ?_, ?_, ?_, ((h340.sub (F' := [(0, x.v), (3, .int .i64 ((x.l.length : Nat) : Int)), (4, v12), (9, v101), (10, .bool agy3), (11, .int .i64 ((k : Nat) : Int)), (15, s306.v), (16, .int .i64 ((q + 1 : Nat) : Int))]) ⟨rfl, rfl, rfl, rfl, rfl, rfl, rfl, rfl, trivial⟩).sel (L' := [.own 3 (⟨s306.v, nextsL x.l k⟩ : Ls Int), .own 4 (⟨v101, my3⟩ : Ls Bool), .own 4 (⟨v12, rc⟩ : Ls Bool), .at_ x]) [0, 1, 2, 3] (by decide) ⟨rfl, rfl, rfl, rfl, trivial⟩), rfl⟩
          · rw [hm310]; first | omega | (simp only [List.length_append, List.length_cons, List.length_nil, List.length_set, List.length_replicate, List.length_map, List.length_range]; omega)
          · omega
          · first | exact hyi3 | exact hyi3.set (may_of ((hrc k).1 hA2.1) (by omega) (hyi2.s1 k) hA2.2 hmm)
          · first | (intro h; cases h; done) | (intro h; obtain ⟨e0, e1, hp⟩ := k30 h; refine ⟨e0, e1, fun p hp2 hA => ?_⟩; rcases Nat.lt_or_ge p q with h9 | h9; (exact hp p h9 hA); obtain rfl : p = q := (by omega); assumption)
          · first | exact k31 | (intro _; exact fp_grow hle (by omega) (by assumption))
        ·
         have hp317 : ¬ (q < (nextsL x.l k).length) := of_decide_eq_false hb317
         refine wp_exit ?_
         refine hK121 _ _ ?_
         refine wp_region_lit ?_
         refine wms 1 h316 rfl fun a341 h341 => ?_; clear h316
         refine wv h341 (r_addN (p := k) (q := 1) rfl rfl rfl (show k + 1 < 9223372036854775808 from (by omega))) rfl rfl fun a342 h342 => ?_; clear h341
         refine wms 1 h342 rfl fun a343 h343 => ?_; clear h342
         refine wpList_nil ?_
         refine x_again ⟨_, ?_, k + 1, my3, agy3, ?_, ?_, ?_, ?_, ((h343.sub (F' := [(0, x.v), (3, .int .i64 ((x.l.length : Nat) : Int)), (4, v12), (9, v101), (10, .bool agy3), (11, .int .i64 ((k + 1 : Nat) : Int))]) ⟨rfl, rfl, rfl, rfl, rfl, rfl, trivial⟩).sel (L' := [.own 4 (⟨v101, my3⟩ : Ls Bool), .own 4 (⟨v12, rc⟩ : Ls Bool), .at_ x]) [1, 2, 3] (by decide) ⟨rfl, rfl, rfl, trivial⟩), rfl⟩
         · rw [hm115]; first | omega | (simp only [List.length_append, List.length_cons, List.length_nil, List.length_set, List.length_replicate, List.length_map, List.length_range]; omega)
         · omega
         · first | exact hyi3 | exact hyi2
         · first | exact fp_close k20 k30 (by omega) | exact fp_skip k20 (fun h => absurd (h.1.symm.trans (show _ = false by assumption)) (by decide)) | exact fp_skip k20 (fun h => absurd ((outB_e (by assumption) (by omega)).trans h.2) (by decide)) | exact fp_skip k20 (fun h => absurd (((by assumption : nth my2 k = false).symm.trans (outB_p (by assumption) (by omega))).trans h.2) (by decide))
         · first | exact k31 | exact k21
     ·
      have hp244 : ¬ ((nth x.l k).op = 13) := of_decide_eq_false hb244
      refine wl_val h243 (r_move rfl rfl) (wanted_yes h243.fr rfl rfl rfl rfl hb244) rfl rfl fun a344 h344 => ?_; clear h243
      refine wl_val h344 (r_eqlI (p := (nth x.l k).op) (q := 17) rfl rfl rfl) (wanted_yes h344.fr rfl rfl rfl rfl hb244) rfl rfl fun a345 h345 => ?_; clear h344
      refine wv h345 (r_pickF rfl rfl hb244 rfl) rfl rfl fun a346 h346 => ?_; clear h345
      refine wms 1 h346 rfl fun a347 h347 => ?_; clear h346
      refine wpList_nil ?_
      refine hK132 _ _ ?_
      refine wp_seq_k fun K348 hK348 => ?_
      refine wp_seq_k fun K349 hK349 => ?_
      refine wp_region_lit ?_
      refine wms 2 h347 rfl fun a350 h350 => ?_; clear h347
      have hl351 : rc.length ≤ 140737488355328 := (h350.sh.own 1 rfl).len
      refine wv h350 (r_ixN (s := (⟨v12, rc⟩ : Ls Bool)) (q := k) sl_66 ti_4 rfl rfl rfl (fun w h => (h.own 1 rfl)) (show k < rc.length from (by omega))) rfl rfl fun a352 h352 => ?_; clear h350
      refine wv h352 (r_lde (s := (⟨v12, rc⟩ : Ls Bool)) (i := k) (v := .bool (nth rc k)) ti_4 rfl rfl rfl (fun w h => (h.own 1 rfl)) (show k < rc.length from (by omega)) (Nat.le_of_ble_eq_true rfl) rfl) rfl rfl fun a353 h353 => ?_; clear h352
      refine wv h353 (r_not rfl rfl) rfl rfl fun a354 h354 => ?_; clear h353
      refine wms 1 h354 rfl fun a355 h355 => ?_; clear h354
      rcases Bool.eq_false_or_eq_true (!(nth rc k)) with hb356 | hb356
      ·
       have hn356 : nth rc k = false := (Bool.not_eq_true' _).mp hb356
       refine wl_skip h355 (wanted_no h355.fr rfl rfl rfl rfl hb356) rfl rfl fun a357 h357 => ?_; clear h355
       refine wl_skip h357 (wanted_no h357.fr rfl rfl rfl rfl hb356) rfl rfl fun a358 h358 => ?_; clear h357
       refine wl_skip h358 (wanted_no h358.fr rfl rfl rfl rfl hb356) rfl rfl fun a359 h359 => ?_; clear h358
       refine wl_skip h359 (wanted_no2 h359.fr rfl rfl rfl rfl) rfl rfl fun a360 h360 => ?_; clear h359
       refine wl_skip h360 (wanted_no2 h360.fr rfl rfl rfl rfl) rfl rfl fun a361 h361 => ?_; clear h360
       refine wl_skip h361 (wanted_no2 h361.fr rfl rfl rfl rfl) rfl rfl fun a362 h362 => ?_; clear h361
       refine wl_skip h362 (wanted_no2 h362.fr rfl rfl rfl rfl) rfl rfl fun a363 h363 => ?_; clear h362
       refine wl_skip h363 (wanted_no2 h363.fr rfl rfl rfl rfl) rfl rfl fun a364 h364 => ?_; clear h363
       refine wl_skip h364 (wanted_no2 h364.fr rfl rfl rfl rfl) rfl rfl fun a365 h365 => ?_; clear h364
       refine wl_skip h365 (wanted_no2 h365.fr rfl rfl rfl rfl) rfl rfl fun a366 h366 => ?_; clear h365
       refine wl_skip h366 (wanted_no2 h366.fr rfl rfl rfl rfl) rfl rfl fun a367 h367 => ?_; clear h366
       refine wl_skip h367 (wanted_no h367.fr rfl rfl rfl rfl hb356) rfl rfl fun a368 h368 => ?_; clear h367
       refine wv h368 (r_pickT rfl rfl hb356 rfl) rfl rfl fun a369 h369 => ?_; clear h368
       refine wpList_nil ?_
       refine hK349 _ _ ?_
       have h370 : St 128 (fun _ => False) W a369 w130 [(0, x.v), (3, .int .i64 ((x.l.length : Nat) : Int)), (4, v12), (9, v101), (10, .bool agy2), (11, .int .i64 ((k : Nat) : Int)), (103, .bool true)] [.own 4 (⟨v101, my2⟩ : Ls Bool), .own 4 (⟨v12, rc⟩ : Ls Bool), .at_ x] := h369.nrm ⟨rfl, rfl, rfl, rfl, rfl, rfl, rfl, trivial⟩ [0, 1, 2] (by decide) ⟨rfl, rfl, rfl, trivial⟩
       clear h369
       refine x_condT h370 rfl rfl ?_
       refine wp_exit ?_
       refine hK121 _ _ ?_
       refine wp_region_lit ?_
       refine wms 1 h370 rfl fun a371 h371 => ?_; clear h370
       refine wv h371 (r_addN (p := k) (q := 1) rfl rfl rfl (show k + 1 < 9223372036854775808 from (by omega))) rfl rfl fun a372 h372 => ?_; clear h371
       refine wms 1 h372 rfl fun a373 h373 => ?_; clear h372
       refine wpList_nil ?_
       refine x_again ⟨_, ?_, k + 1, my2, agy2, ?_, ?_, ?_, ?_, ((h373.sub (F' := [(0, x.v), (3, .int .i64 ((x.l.length : Nat) : Int)), (4, v12), (9, v101), (10, .bool agy2), (11, .int .i64 ((k + 1 : Nat) : Int))]) ⟨rfl, rfl, rfl, rfl, rfl, rfl, trivial⟩).sel (L' := [.own 4 (⟨v101, my2⟩ : Ls Bool), .own 4 (⟨v12, rc⟩ : Ls Bool), .at_ x]) [0, 1, 2] (by decide) ⟨rfl, rfl, rfl, trivial⟩), rfl⟩
       · rw [hm115]; first | omega | (simp only [List.length_append, List.length_cons, List.length_nil, List.length_set, List.length_replicate, List.length_map, List.length_range]; omega)
       · omega
       · first | exact hyi3 | exact hyi2
       · first | exact fp_close k20 k30 (by omega) | exact fp_skip k20 (fun h => absurd (h.1.symm.trans (show _ = false by assumption)) (by decide)) | exact fp_skip k20 (fun h => absurd ((outB_e (by assumption) (by omega)).trans h.2) (by decide)) | exact fp_skip k20 (fun h => absurd (((by assumption : nth my2 k = false).symm.trans (outB_p (by assumption) (by omega))).trans h.2) (by decide))
       · first | exact k31 | exact k21
      ·
       have hn356 : nth rc k = true := (Bool.not_eq_false' _).mp hb356
       refine wl_val h355 (r_move rfl rfl) (wanted_yes h355.fr rfl rfl rfl rfl hb356) rfl rfl fun a374 h374 => ?_; clear h355
       refine wl_val h374 (r_not rfl rfl) (wanted_yes h374.fr rfl rfl rfl rfl hb356) rfl rfl fun a375 h375 => ?_; clear h374
       refine wl_val h375 (r_move rfl rfl) (wanted_yes h375.fr rfl rfl rfl rfl hb356) rfl rfl fun a376 h376 => ?_; clear h375
       rcases Bool.eq_false_or_eq_true (!(waitsB ((nth x.l k).op))) with hb377 | hb377
       ·
        have hn377 : waitsB ((nth x.l k).op) = false := (Bool.not_eq_true' _).mp hb377
        refine wl_val h376 (r_move rfl rfl) (wanted_yes h376.fr rfl rfl rfl rfl hb377) rfl rfl fun a378 h378 => ?_; clear h376
        refine wl_val h378 (r_move rfl rfl) (wanted_yes h378.fr rfl rfl rfl rfl hb377) rfl rfl fun a379 h379 => ?_; clear h378
        rcases Bool.eq_false_or_eq_true (decide ((nth x.l k).op = 17)) with hb380 | hb380
        ·
         have hp380 : (nth x.l k).op = 17 := of_decide_eq_true hb380
         refine wl_skip h379 (wanted_no h379.fr rfl rfl rfl rfl hb380) rfl rfl fun a381 h381 => ?_; clear h379
         refine wl_skip h381 (wanted_no h381.fr rfl rfl rfl rfl hb380) rfl rfl fun a382 h382 => ?_; clear h381
         refine wl_skip h382 (wanted_no h382.fr rfl rfl rfl rfl hb380) rfl rfl fun a383 h383 => ?_; clear h382
         refine wl_skip h383 (wanted_no h383.fr rfl rfl rfl rfl hb380) rfl rfl fun a384 h384 => ?_; clear h383
         refine wl_skip h384 (wanted_no h384.fr rfl rfl rfl rfl hb380) rfl rfl fun a385 h385 => ?_; clear h384
         refine wl_val h385 (r_pickT rfl rfl hb380 rfl) (wanted_yes h385.fr rfl rfl rfl rfl hb377) rfl rfl fun a386 h386 => ?_; clear h385
         refine wl_val h386 (r_pickT rfl rfl hb377 rfl) (wanted_yes h386.fr rfl rfl rfl rfl hb356) rfl rfl fun a387 h387 => ?_; clear h386
         refine wv h387 (r_pickF rfl rfl hb356 rfl) rfl rfl fun a388 h388 => ?_; clear h387
         refine wpList_nil ?_
         refine hK349 _ _ ?_
         have h389 : St 128 (fun _ => False) W a388 w130 [(0, x.v), (3, .int .i64 ((x.l.length : Nat) : Int)), (4, v12), (9, v101), (10, .bool agy2), (11, .int .i64 ((k : Nat) : Int)), (103, .bool true)] [.own 4 (⟨v101, my2⟩ : Ls Bool), .own 4 (⟨v12, rc⟩ : Ls Bool), .at_ x] := h388.nrm ⟨rfl, rfl, rfl, rfl, rfl, rfl, rfl, trivial⟩ [0, 1, 2] (by decide) ⟨rfl, rfl, rfl, trivial⟩
         clear h388
         refine x_condT h389 rfl rfl ?_
         refine wp_exit ?_
         refine hK121 _ _ ?_
         refine wp_region_lit ?_
         refine wms 1 h389 rfl fun a390 h390 => ?_; clear h389
         refine wv h390 (r_addN (p := k) (q := 1) rfl rfl rfl (show k + 1 < 9223372036854775808 from (by omega))) rfl rfl fun a391 h391 => ?_; clear h390
         refine wms 1 h391 rfl fun a392 h392 => ?_; clear h391
         refine wpList_nil ?_
         refine x_again ⟨_, ?_, k + 1, my2, agy2, ?_, ?_, ?_, ?_, ((h392.sub (F' := [(0, x.v), (3, .int .i64 ((x.l.length : Nat) : Int)), (4, v12), (9, v101), (10, .bool agy2), (11, .int .i64 ((k + 1 : Nat) : Int))]) ⟨rfl, rfl, rfl, rfl, rfl, rfl, trivial⟩).sel (L' := [.own 4 (⟨v101, my2⟩ : Ls Bool), .own 4 (⟨v12, rc⟩ : Ls Bool), .at_ x]) [0, 1, 2] (by decide) ⟨rfl, rfl, rfl, trivial⟩), rfl⟩
         · rw [hm115]; first | omega | (simp only [List.length_append, List.length_cons, List.length_nil, List.length_set, List.length_replicate, List.length_map, List.length_range]; omega)
         · omega
         · first | exact hyi3 | exact hyi2
         · first | exact fp_close k20 k30 (by omega) | exact fp_skip k20 (fun h => absurd (h.1.symm.trans (show _ = false by assumption)) (by decide)) | exact fp_skip k20 (fun h => absurd ((outB_e (by assumption) (by omega)).trans h.2) (by decide)) | exact fp_skip k20 (fun h => absurd (((by assumption : nth my2 k = false).symm.trans (outB_p (by assumption) (by omega))).trans h.2) (by decide))
         · first | exact k31 | exact k21
        ·
         have hp380 : ¬ ((nth x.l k).op = 17) := of_decide_eq_false hb380
         refine wl_val h379 (r_move rfl rfl) (wanted_yes h379.fr rfl rfl rfl rfl hb380) rfl rfl fun a393 h393 => ?_; clear h379
         refine wl_val h393 (r_move rfl rfl) (wanted_yes h393.fr rfl rfl rfl rfl hb380) rfl rfl fun a394 h394 => ?_; clear h393
         have hl395 : my2.length ≤ 140737488355328 := (h394.sh.own 0 rfl).len
         refine wl_val h394 (r_ixN (s := (⟨v101, my2⟩ : Ls Bool)) (q := k) sl_66 ti_4 rfl rfl rfl (fun w h => (h.own 0 rfl)) (show k < my2.length from (by omega))) (wanted_yes h394.fr rfl rfl rfl rfl hb380) rfl rfl fun a396 h396 => ?_; clear h394
         refine wl_val h396 (r_lde (s := (⟨v101, my2⟩ : Ls Bool)) (i := k) (v := .bool (nth my2 k)) ti_4 rfl rfl rfl (fun w h => (h.own 0 rfl)) (show k < my2.length from (by omega)) (Nat.le_of_ble_eq_true rfl) rfl) (wanted_yes h396.fr rfl rfl rfl rfl hb380) rfl rfl fun a397 h397 => ?_; clear h396
         refine wl_val h397 (r_not rfl rfl) (wanted_yes h397.fr rfl rfl rfl rfl hb380) rfl rfl fun a398 h398 => ?_; clear h397
         refine wl_val h398 (r_pickF rfl rfl hb380 rfl) (wanted_yes h398.fr rfl rfl rfl rfl hb377) rfl rfl fun a399 h399 => ?_; clear h398
         refine wl_val h399 (r_pickT rfl rfl hb377 rfl) (wanted_yes h399.fr rfl rfl rfl rfl hb356) rfl rfl fun a400 h400 => ?_; clear h399
         refine wv h400 (r_pickF rfl rfl hb356 rfl) rfl rfl fun a401 h401 => ?_; clear h400
         refine wpList_nil ?_
         refine hK349 _ _ ?_
         have h402 : St 128 (fun _ => False) W a401 w130 [(0, x.v), (3, .int .i64 ((x.l.length : Nat) : Int)), (4, v12), (9, v101), (10, .bool agy2), (11, .int .i64 ((k : Nat) : Int)), (103, .bool (!(nth my2 k)))] [.own 4 (⟨v101, my2⟩ : Ls Bool), .own 4 (⟨v12, rc⟩ : Ls Bool), .at_ x] := h401.nrm ⟨rfl, rfl, rfl, rfl, rfl, rfl, rfl, trivial⟩ [0, 1, 2] (by decide) ⟨rfl, rfl, rfl, trivial⟩
         clear h401
         refine x_cond h402 rfl (fun hb403 => ?_) (fun hb403 => ?_)
         ·
          have hn403 : nth my2 k = false := (Bool.not_eq_true' _).mp hb403
          refine wp_exit ?_
          refine hK121 _ _ ?_
          refine wp_region_lit ?_
          refine wms 1 h402 rfl fun a404 h404 => ?_; clear h402
          refine wv h404 (r_addN (p := k) (q := 1) rfl rfl rfl (show k + 1 < 9223372036854775808 from (by omega))) rfl rfl fun a405 h405 => ?_; clear h404
          refine wms 1 h405 rfl fun a406 h406 => ?_; clear h405
          refine wpList_nil ?_
          refine x_again ⟨_, ?_, k + 1, my2, agy2, ?_, ?_, ?_, ?_, ((h406.sub (F' := [(0, x.v), (3, .int .i64 ((x.l.length : Nat) : Int)), (4, v12), (9, v101), (10, .bool agy2), (11, .int .i64 ((k + 1 : Nat) : Int))]) ⟨rfl, rfl, rfl, rfl, rfl, rfl, trivial⟩).sel (L' := [.own 4 (⟨v101, my2⟩ : Ls Bool), .own 4 (⟨v12, rc⟩ : Ls Bool), .at_ x]) [0, 1, 2] (by decide) ⟨rfl, rfl, rfl, trivial⟩), rfl⟩
          · rw [hm115]; first | omega | (simp only [List.length_append, List.length_cons, List.length_nil, List.length_set, List.length_replicate, List.length_map, List.length_range]; omega)
          · omega
          · first | exact hyi3 | exact hyi2
          · first | exact fp_close k20 k30 (by omega) | exact fp_skip k20 (fun h => absurd (h.1.symm.trans (show _ = false by assumption)) (by decide)) | exact fp_skip k20 (fun h => absurd ((outB_e (by assumption) (by omega)).trans h.2) (by decide)) | exact fp_skip k20 (fun h => absurd (((by assumption : nth my2 k = false).symm.trans (outB_p (by assumption) (by omega))).trans h.2) (by decide))
          · first | exact k31 | exact k21
         ·
          have hn403 : nth my2 k = true := (Bool.not_eq_false' _).mp hb403
          refine wp_skip ?_
          refine hK348 _ _ ?_
          refine wp_seq_k fun K407 hK407 => ?_
          refine wp_region_lit ?_
          refine wms 2 h402 rfl fun a408 h408 => ?_; clear h402
          refine wl_ex (x_call h408 bd_85 rfl rfl rfl rfl rfl (rNexts_c x k _ (h408.sh.at 2 rfl) (by omega) (by omega))) (wanted_none rfl _) ?_
          rintro a409 w409 ⟨_, ⟨s409, rfl, hs409⟩, hf409⟩
          have h409 := (⟨hf409, h408.sh.call hs409 (by intro A hA b hb; first | (simp at hA; done) | (simp at hA; subst hA; first | exact Flat.noRd hb | exact (hb : False).elim) | (simp at hA; rcases hA with rfl | rfl <;> first | exact Flat.noRd hb | exact (hb : False).elim))⟩ : St 128 (fun _ => False) W a409 w409 _ _)
          clear hf409 hs409
          clear h408
          refine wms 1 h409 rfl fun a410 h410 => ?_; clear h409
          refine wpList_nil ?_
          refine hK407 _ _ ?_
          refine wp_seq_k fun K411 hK411 => ?_
          refine wp_region_lit ?_
          refine wms 1 h410 rfl fun a412 h412 => ?_; clear h410
          refine wpList_nil ?_
          refine hK411 _ _ ?_
          refine wp_block ?_
          have hn2 := nexts_len x.l k
          have hA2 : yA x.l rc my2 k := ⟨by assumption, by first | exact (outB_w (by assumption)).symm | exact ((outB_p (by assumption) (by omega)).symm.trans (by assumption))⟩
          refine x_loop (fun m a w => ∃ (q : Nat) (my3 : List Bool) (agy3 : Bool), (q ≤ (nextsL x.l k).length) ∧ (YI x.l my3) ∧ (agy3 = false → agy2 = false ∧ my3 = my2 ∧ ∀ p, p < q → yA x.l rc my2 k → nth my3 (nth (nextsL x.l k) p).toNat = true) ∧ (agy3 = true → cntB my < cntB my3) ∧ St 128 (fun _ => False) W a w [(0, x.v), (3, .int .i64 ((x.l.length : Nat) : Int)), (4, v12), (9, v101), (10, .bool agy3), (11, .int .i64 ((k : Nat) : Int)), (15, s409.v), (16, .int .i64 ((q : Nat) : Int))] [.own 3 (⟨s409.v, nextsL x.l k⟩ : Ls Int), .own 4 (⟨v101, my3⟩ : Ls Bool), .own 4 (⟨v12, rc⟩ : Ls Bool), .at_ x] ∧ m = (nextsL x.l k).length - q) ⟨_, 0, my2, agy2, (by omega), (hyi2), (fun h => ⟨h, rfl, fun p hp => absurd hp (by omega)⟩), (k21), ((h412.sub (F' := [(0, x.v), (3, .int .i64 ((x.l.length : Nat) : Int)), (4, v12), (9, v101), (10, .bool agy2), (11, .int .i64 ((k : Nat) : Int)), (15, s409.v), (16, .int .i64 0)]) ⟨rfl, rfl, rfl, rfl, rfl, rfl, rfl, rfl, trivial⟩).sel (L' := [.own 3 (⟨s409.v, nextsL x.l k⟩ : Ls Int), .own 4 (⟨v101, my2⟩ : Ls Bool), .own 4 (⟨v12, rc⟩ : Ls Bool), .at_ x]) [0, 1, 2, 3] (by decide) ⟨rfl, rfl, rfl, rfl, trivial⟩), rfl⟩ ?_
          clear h412
          rintro m413 a413 w413 ⟨q, my3, agy3, hq, hyi3, k30, k31, h413, hm413⟩
          have hd5 := hyi3.l1
          have hle := fp_le k20 k30 k31
          refine wp_seq_k fun K414 hK414 => ?_
          refine wp_seq_k fun K415 hK415 => ?_
          refine wp_region_lit ?_
          refine wms 2 h413 rfl fun a416 h416 => ?_; clear h413
          have hl417 : (nextsL x.l k).length ≤ 140737488355328 := (h416.sh.own 0 rfl).len
          refine wv h416 (r_len (s := (⟨s409.v, nextsL x.l k⟩ : Ls Int)) (n := (nextsL x.l k).length) sl_24 rfl rfl (fun w h => (h.own 0 rfl)) rfl) rfl rfl fun a418 h418 => ?_; clear h416
          refine wv h418 (r_lssN (p := q) (q := (nextsL x.l k).length) rfl rfl rfl) rfl rfl fun a419 h419 => ?_; clear h418
          refine wpList_nil ?_
          refine hK415 _ _ ?_
          refine x_cond h419 rfl (fun hb420 => ?_) (fun hb420 => ?_)
          ·
           have hp420 : q < (nextsL x.l k).length := of_decide_eq_true hb420
           refine wp_skip ?_
           refine hK414 _ _ ?_
           have hmm : nth (nextsL x.l k) q ∈ nextsL x.l k := nth_mem _ _ (by omega)
           have hnx := nexts_ok hj (by omega) hmm
           refine wp_seq_k fun K421 hK421 => ?_
           refine wp_block ?_
           refine wp_seq_k fun K422 hK422 => ?_
           refine wp_region_lit ?_
           refine wms 3 h419 rfl fun a423 h423 => ?_; clear h419
           refine wv h423 (r_ixN (s := (⟨s409.v, nextsL x.l k⟩ : Ls Int)) (q := q) sl_24 ti_3 rfl rfl rfl (fun w h => (h.own 0 rfl)) (show q < (nextsL x.l k).length from (by omega))) rfl rfl fun a424 h424 => ?_; clear h423
           refine wv h424 (r_lde (s := (⟨s409.v, nextsL x.l k⟩ : Ls Int)) (i := q) (v := .int .i64 (nth (nextsL x.l k) q)) ti_3 rfl rfl rfl (fun w h => (h.own 0 rfl)) (show q < (nextsL x.l k).length from (by omega)) (Nat.le_of_ble_eq_true rfl) rfl) rfl rfl fun a425 h425 => ?_; clear h424
           have hl426 : my3.length ≤ 140737488355328 := (h425.sh.own 1 rfl).len
           refine wv h425 (r_ixI (s := (⟨v101, my3⟩ : Ls Bool)) (q := nth (nextsL x.l k) q) sl_66 ti_4 rfl rfl rfl (fun w h => (h.own 1 rfl)) (show 0 ≤ nth (nextsL x.l k) q ∧ nth (nextsL x.l k) q < my3.length from (by omega))) rfl rfl fun a427 h427 => ?_; clear h425
           refine wv h427 (r_lde (s := (⟨v101, my3⟩ : Ls Bool)) (i := (nth (nextsL x.l k) q).toNat) (v := .bool (nth my3 ((nth (nextsL x.l k) q).toNat))) ti_4 rfl rfl rfl (fun w h => (h.own 1 rfl)) (show (nth (nextsL x.l k) q).toNat < my3.length from (by omega)) (Nat.le_of_ble_eq_true rfl) rfl) rfl rfl fun a428 h428 => ?_; clear h427
           refine wv h428 (r_not rfl rfl) rfl rfl fun a429 h429 => ?_; clear h428
           refine wpList_nil ?_
           refine hK422 _ _ ?_
           refine x_cond h429 rfl (fun hb430 => ?_) (fun hb430 => ?_)
           ·
            have hn430 : nth my3 ((nth (nextsL x.l k) q).toNat) = false := (Bool.not_eq_true' _).mp hb430
            refine wp_seq_k fun K431 hK431 => ?_
            refine wp_region_lit ?_
            refine wms 3 h429 rfl fun a432 h432 => ?_; clear h429
            refine wv h432 (r_ixN (s := (⟨s409.v, nextsL x.l k⟩ : Ls Int)) (q := q) sl_24 ti_3 rfl rfl rfl (fun w h => (h.own 0 rfl)) (show q < (nextsL x.l k).length from (by omega))) rfl rfl fun a433 h433 => ?_; clear h432
            refine wv h433 (r_lde (s := (⟨s409.v, nextsL x.l k⟩ : Ls Int)) (i := q) (v := .int .i64 (nth (nextsL x.l k) q)) ti_3 rfl rfl rfl (fun w h => (h.own 0 rfl)) (show q < (nextsL x.l k).length from (by omega)) (Nat.le_of_ble_eq_true rfl) rfl) rfl rfl fun a434 h434 => ?_; clear h433
            refine wv h434 (r_ixI (s := (⟨v101, my3⟩ : Ls Bool)) (q := nth (nextsL x.l k) q) sl_66 ti_4 rfl rfl rfl (fun w h => (h.own 1 rfl)) (show 0 ≤ nth (nextsL x.l k) q ∧ nth (nextsL x.l k) q < my3.length from (by omega))) rfl rfl fun a435 h435 => ?_; clear h434
            refine wl_ex (x_ste (r := 1) (i := (nth (nextsL x.l k) q).toNat) (j := 0) (x' := (true : Bool)) h435 ti_4 rfl rfl rfl rfl rfl (show (nth (nextsL x.l k) q).toNat < my3.length from (by omega)) (Nat.le_of_ble_eq_true rfl) rfl rfl rfl (by intro q hq; obtain rfl : q = 0 := (by omega); rfl) (fun w h => Flat.inner _ _) (fun b hb => (Flat.on _ _ hb).elim)) (wanted_none rfl _) ?_
            rintro a436 w436 h436
            clear h435
            refine wpList_nil ?_
            refine hK431 _ _ ?_
            refine wp_region_lit ?_
            refine wms 1 h436 rfl fun a437 h437 => ?_; clear h436
            refine wpList_nil ?_
            refine hK421 _ _ ?_
            refine wp_region_lit ?_
            refine wms 1 h437 rfl fun a438 h438 => ?_; clear h437
            refine wv h438 (r_addN (p := q) (q := 1) rfl rfl rfl (show q + 1 < 9223372036854775808 from (by omega))) rfl rfl fun a439 h439 => ?_; clear h438
            refine wms 1 h439 rfl fun a440 h440 => ?_; clear h439
            refine wpList_nil ?_
            refine x_again ⟨_, ?_, q + 1, my3.set ((nth (nextsL x.l k) q).toNat) true, true, ?_, ?_, ?_, ?_, ((h440.sub (F' := [(0, x.v), (3, .int .i64 ((x.l.length : Nat) : Int)), (4, v12), (9, v101), (10, .bool true), (11, .int .i64 ((k : Nat) : Int)), (15, s409.v), (16, .int .i64 ((q + 1 : Nat) : Int))]) ⟨rfl, rfl, rfl, rfl, rfl, rfl, rfl, rfl, trivial⟩).sel (L' := [.own 3 (⟨s409.v, nextsL x.l k⟩ : Ls Int), .own 4 (⟨v101, my3.set ((nth (nextsL x.l k) q).toNat) true⟩ : Ls Bool), .own 4 (⟨v12, rc⟩ : Ls Bool), .at_ x]) [0, 1, 2, 3] (by decide) ⟨rfl, rfl, rfl, rfl, trivial⟩), rfl⟩
            · rw [hm413]; first | omega | (simp only [List.length_append, List.length_cons, List.length_nil, List.length_set, List.length_replicate, List.length_map, List.length_range]; omega)
            · omega
            · first | exact hyi3 | exact hyi3.set (may_of ((hrc k).1 hA2.1) (by omega) (hyi2.s1 k) hA2.2 hmm)
            · first | (intro h; cases h; done) | (intro h; obtain ⟨e0, e1, hp⟩ := k30 h; refine ⟨e0, e1, fun p hp2 hA => ?_⟩; rcases Nat.lt_or_ge p q with h9 | h9; (exact hp p h9 hA); obtain rfl : p = q := (by omega); assumption)
            · first | exact k31 | (intro _; exact fp_grow hle (by omega) (by assumption))
           ·
            have hn430 : nth my3 ((nth (nextsL x.l k) q).toNat) = true := (Bool.not_eq_false' _).mp hb430
            refine wp_skip ?_
            refine hK421 _ _ ?_
            refine wp_region_lit ?_
            refine wms 1 h429 rfl fun a441 h441 => ?_; clear h429
            refine wv h441 (r_addN (p := q) (q := 1) rfl rfl rfl (show q + 1 < 9223372036854775808 from (by omega))) rfl rfl fun a442 h442 => ?_; clear h441
            refine wms 1 h442 rfl fun a443 h443 => ?_; clear h442
            refine wpList_nil ?_
            refine x_again ⟨_, ?_, q + 1, my3, agy3, ?_, ?_, ?_, ?_, ((h443.sub (F' := [(0, x.v), (3, .int .i64 ((x.l.length : Nat) : Int)), (4, v12), (9, v101), (10, .bool agy3), (11, .int .i64 ((k : Nat) : Int)), (15, s409.v), (16, .int .i64 ((q + 1 : Nat) : Int))]) ⟨rfl, rfl, rfl, rfl, rfl, rfl, rfl, rfl, trivial⟩).sel (L' := [.own 3 (⟨s409.v, nextsL x.l k⟩ : Ls Int), .own 4 (⟨v101, my3⟩ : Ls Bool), .own 4 (⟨v12, rc⟩ : Ls Bool), .at_ x]) [0, 1, 2, 3] (by decide) ⟨rfl, rfl, rfl, rfl, trivial⟩), rfl⟩
            · rw [hm413]; first | omega | (simp only [List.length_append, List.length_cons, List.length_nil, List.length_set, List.length_replicate, List.length_map, List.length_range]; omega)
            · omega
            · first | exact hyi3 | exact hyi3.set (may_of ((hrc k).1 hA2.1) (by omega) (hyi2.s1 k) hA2.2 hmm)
            · first | (intro h; cases h; done) | (intro h; obtain ⟨e0, e1, hp⟩ := k30 h; refine ⟨e0, e1, fun p hp2 hA => ?_⟩; rcases Nat.lt_or_ge p q with h9 | h9; (exact hp p h9 hA); obtain rfl : p = q := (by omega); assumption)
            · first | exact k31 | (intro _; exact fp_grow hle (by omega) (by assumption))
          ·
           have hp420 : ¬ (q < (nextsL x.l k).length) := of_decide_eq_false hb420
           refine wp_exit ?_
           refine hK121 _ _ ?_
           refine wp_region_lit ?_
           refine wms 1 h419 rfl fun a444 h444 => ?_; clear h419
           refine wv h444 (r_addN (p := k) (q := 1) rfl rfl rfl (show k + 1 < 9223372036854775808 from (by omega))) rfl rfl fun a445 h445 => ?_; clear h444
           refine wms 1 h445 rfl fun a446 h446 => ?_; clear h445
           refine wpList_nil ?_
           refine x_again ⟨_, ?_, k + 1, my3, agy3, ?_, ?_, ?_, ?_, ((h446.sub (F' := [(0, x.v), (3, .int .i64 ((x.l.length : Nat) : Int)), (4, v12), (9, v101), (10, .bool agy3), (11, .int .i64 ((k + 1 : Nat) : Int))]) ⟨rfl, rfl, rfl, rfl, rfl, rfl, trivial⟩).sel (L' := [.own 4 (⟨v101, my3⟩ : Ls Bool), .own 4 (⟨v12, rc⟩ : Ls Bool), .at_ x]) [1, 2, 3] (by decide) ⟨rfl, rfl, rfl, trivial⟩), rfl⟩
           · rw [hm115]; first | omega | (simp only [List.length_append, List.length_cons, List.length_nil, List.length_set, List.length_replicate, List.length_map, List.length_range]; omega)
           · omega
           · first | exact hyi3 | exact hyi2
           · first | exact fp_close k20 k30 (by omega) | exact fp_skip k20 (fun h => absurd (h.1.symm.trans (show _ = false by assumption)) (by decide)) | exact fp_skip k20 (fun h => absurd ((outB_e (by assumption) (by omega)).trans h.2) (by decide)) | exact fp_skip k20 (fun h => absurd (((by assumption : nth my2 k = false).symm.trans (outB_p (by assumption) (by omega))).trans h.2) (by decide))
           · first | exact k31 | exact k21
       ·
        have hn377 : waitsB ((nth x.l k).op) = true := (Bool.not_eq_false' _).mp hb377
        refine wl_skip h376 (wanted_no h376.fr rfl rfl rfl rfl hb377) rfl rfl fun a447 h447 => ?_; clear h376
        refine wl_skip h447 (wanted_no h447.fr rfl rfl rfl rfl hb377) rfl rfl fun a448 h448 => ?_; clear h447
        refine wl_skip h448 (wanted_no2 h448.fr rfl rfl rfl rfl) rfl rfl fun a449 h449 => ?_; clear h448
        refine wl_skip h449 (wanted_no2 h449.fr rfl rfl rfl rfl) rfl rfl fun a450 h450 => ?_; clear h449
        refine wl_skip h450 (wanted_no2 h450.fr rfl rfl rfl rfl) rfl rfl fun a451 h451 => ?_; clear h450
        refine wl_skip h451 (wanted_no2 h451.fr rfl rfl rfl rfl) rfl rfl fun a452 h452 => ?_; clear h451
        refine wl_skip h452 (wanted_no2 h452.fr rfl rfl rfl rfl) rfl rfl fun a453 h453 => ?_; clear h452
        refine wl_skip h453 (wanted_no h453.fr rfl rfl rfl rfl hb377) rfl rfl fun a454 h454 => ?_; clear h453
        refine wl_val h454 (r_pickF rfl rfl hb377 rfl) (wanted_yes h454.fr rfl rfl rfl rfl hb356) rfl rfl fun a455 h455 => ?_; clear h454
        refine wv h455 (r_pickF rfl rfl hb356 rfl) rfl rfl fun a456 h456 => ?_; clear h455
        refine wpList_nil ?_
        refine hK349 _ _ ?_
        have h457 : St 128 (fun _ => False) W a456 w130 [(0, x.v), (3, .int .i64 ((x.l.length : Nat) : Int)), (4, v12), (9, v101), (10, .bool agy2), (11, .int .i64 ((k : Nat) : Int)), (103, .bool false)] [.own 4 (⟨v101, my2⟩ : Ls Bool), .own 4 (⟨v12, rc⟩ : Ls Bool), .at_ x] := h456.nrm ⟨rfl, rfl, rfl, rfl, rfl, rfl, rfl, trivial⟩ [0, 1, 2] (by decide) ⟨rfl, rfl, rfl, trivial⟩
        clear h456
        refine x_condF h457 rfl rfl ?_
        refine wp_skip ?_
        refine hK348 _ _ ?_
        refine wp_seq_k fun K458 hK458 => ?_
        refine wp_region_lit ?_
        refine wms 2 h457 rfl fun a459 h459 => ?_; clear h457
        refine wl_ex (x_call h459 bd_85 rfl rfl rfl rfl rfl (rNexts_c x k _ (h459.sh.at 2 rfl) (by omega) (by omega))) (wanted_none rfl _) ?_
        rintro a460 w460 ⟨_, ⟨s460, rfl, hs460⟩, hf460⟩
        have h460 := (⟨hf460, h459.sh.call hs460 (by intro A hA b hb; first | (simp at hA; done) | (simp at hA; subst hA; first | exact Flat.noRd hb | exact (hb : False).elim) | (simp at hA; rcases hA with rfl | rfl <;> first | exact Flat.noRd hb | exact (hb : False).elim))⟩ : St 128 (fun _ => False) W a460 w460 _ _)
        clear hf460 hs460
        clear h459
        refine wms 1 h460 rfl fun a461 h461 => ?_; clear h460
        refine wpList_nil ?_
        refine hK458 _ _ ?_
        refine wp_seq_k fun K462 hK462 => ?_
        refine wp_region_lit ?_
        refine wms 1 h461 rfl fun a463 h463 => ?_; clear h461
        refine wpList_nil ?_
        refine hK462 _ _ ?_
        refine wp_block ?_
        have hn2 := nexts_len x.l k
        have hA2 : yA x.l rc my2 k := ⟨by assumption, by first | exact (outB_w (by assumption)).symm | exact ((outB_p (by assumption) (by omega)).symm.trans (by assumption))⟩
        refine x_loop (fun m a w => ∃ (q : Nat) (my3 : List Bool) (agy3 : Bool), (q ≤ (nextsL x.l k).length) ∧ (YI x.l my3) ∧ (agy3 = false → agy2 = false ∧ my3 = my2 ∧ ∀ p, p < q → yA x.l rc my2 k → nth my3 (nth (nextsL x.l k) p).toNat = true) ∧ (agy3 = true → cntB my < cntB my3) ∧ St 128 (fun _ => False) W a w [(0, x.v), (3, .int .i64 ((x.l.length : Nat) : Int)), (4, v12), (9, v101), (10, .bool agy3), (11, .int .i64 ((k : Nat) : Int)), (15, s460.v), (16, .int .i64 ((q : Nat) : Int))] [.own 3 (⟨s460.v, nextsL x.l k⟩ : Ls Int), .own 4 (⟨v101, my3⟩ : Ls Bool), .own 4 (⟨v12, rc⟩ : Ls Bool), .at_ x] ∧ m = (nextsL x.l k).length - q) ⟨_, 0, my2, agy2, (by omega), (hyi2), (fun h => ⟨h, rfl, fun p hp => absurd hp (by omega)⟩), (k21), ((h463.sub (F' := [(0, x.v), (3, .int .i64 ((x.l.length : Nat) : Int)), (4, v12), (9, v101), (10, .bool agy2), (11, .int .i64 ((k : Nat) : Int)), (15, s460.v), (16, .int .i64 0)]) ⟨rfl, rfl, rfl, rfl, rfl, rfl, rfl, rfl, trivial⟩).sel (L' := [.own 3 (⟨s460.v, nextsL x.l k⟩ : Ls Int), .own 4 (⟨v101, my2⟩ : Ls Bool), .own 4 (⟨v12, rc⟩ : Ls Bool), .at_ x]) [0, 1, 2, 3] (by decide) ⟨rfl, rfl, rfl, rfl, trivial⟩), rfl⟩ ?_
        clear h463
        rintro m464 a464 w464 ⟨q, my3, agy3, hq, hyi3, k30, k31, h464, hm464⟩
        have hd5 := hyi3.l1
        have hle := fp_le k20 k30 k31
        refine wp_seq_k fun K465 hK465 => ?_
        refine wp_seq_k fun K466 hK466 => ?_
        refine wp_region_lit ?_
        refine wms 2 h464 rfl fun a467 h467 => ?_; clear h464
        have hl468 : (nextsL x.l k).length ≤ 140737488355328 := (h467.sh.own 0 rfl).len
        refine wv h467 (r_len (s := (⟨s460.v, nextsL x.l k⟩ : Ls Int)) (n := (nextsL x.l k).length) sl_24 rfl rfl (fun w h => (h.own 0 rfl)) rfl) rfl rfl fun a469 h469 => ?_; clear h467
        refine wv h469 (r_lssN (p := q) (q := (nextsL x.l k).length) rfl rfl rfl) rfl rfl fun a470 h470 => ?_; clear h469
        refine wpList_nil ?_
        refine hK466 _ _ ?_
        refine x_cond h470 rfl (fun hb471 => ?_) (fun hb471 => ?_)
        ·
         have hp471 : q < (nextsL x.l k).length := of_decide_eq_true hb471
         refine wp_skip ?_
         refine hK465 _ _ ?_
         have hmm : nth (nextsL x.l k) q ∈ nextsL x.l k := nth_mem _ _ (by omega)
         have hnx := nexts_ok hj (by omega) hmm
         refine wp_seq_k fun K472 hK472 => ?_
         refine wp_block ?_
         refine wp_seq_k fun K473 hK473 => ?_
         refine wp_region_lit ?_
         refine wms 3 h470 rfl fun a474 h474 => ?_; clear h470
         refine wv h474 (r_ixN (s := (⟨s460.v, nextsL x.l k⟩ : Ls Int)) (q := q) sl_24 ti_3 rfl rfl rfl (fun w h => (h.own 0 rfl)) (show q < (nextsL x.l k).length from (by omega))) rfl rfl fun a475 h475 => ?_; clear h474
         refine wv h475 (r_lde (s := (⟨s460.v, nextsL x.l k⟩ : Ls Int)) (i := q) (v := .int .i64 (nth (nextsL x.l k) q)) ti_3 rfl rfl rfl (fun w h => (h.own 0 rfl)) (show q < (nextsL x.l k).length from (by omega)) (Nat.le_of_ble_eq_true rfl) rfl) rfl rfl fun a476 h476 => ?_; clear h475
         have hl477 : my3.length ≤ 140737488355328 := (h476.sh.own 1 rfl).len
         refine wv h476 (r_ixI (s := (⟨v101, my3⟩ : Ls Bool)) (q := nth (nextsL x.l k) q) sl_66 ti_4 rfl rfl rfl (fun w h => (h.own 1 rfl)) (show 0 ≤ nth (nextsL x.l k) q ∧ nth (nextsL x.l k) q < my3.length from (by omega))) rfl rfl fun a478 h478 => ?_; clear h476
         refine wv h478 (r_lde (s := (⟨v101, my3⟩ : Ls Bool)) (i := (nth (nextsL x.l k) q).toNat) (v := .bool (nth my3 ((nth (nextsL x.l k) q).toNat))) ti_4 rfl rfl rfl (fun w h => (h.own 1 rfl)) (show (nth (nextsL x.l k) q).toNat < my3.length from (by omega)) (Nat.le_of_ble_eq_true rfl) rfl) rfl rfl fun a479 h479 => ?_; clear h478
         refine wv h479 (r_not rfl rfl) rfl rfl fun a480 h480 => ?_; clear h479
         refine wpList_nil ?_
         refine hK473 _ _ ?_
         refine x_cond h480 rfl (fun hb481 => ?_) (fun hb481 => ?_)
         ·
          have hn481 : nth my3 ((nth (nextsL x.l k) q).toNat) = false := (Bool.not_eq_true' _).mp hb481
          refine wp_seq_k fun K482 hK482 => ?_
          refine wp_region_lit ?_
          refine wms 3 h480 rfl fun a483 h483 => ?_; clear h480
          refine wv h483 (r_ixN (s := (⟨s460.v, nextsL x.l k⟩ : Ls Int)) (q := q) sl_24 ti_3 rfl rfl rfl (fun w h => (h.own 0 rfl)) (show q < (nextsL x.l k).length from (by omega))) rfl rfl fun a484 h484 => ?_; clear h483
          refine wv h484 (r_lde (s := (⟨s460.v, nextsL x.l k⟩ : Ls Int)) (i := q) (v := .int .i64 (nth (nextsL x.l k) q)) ti_3 rfl rfl rfl (fun w h => (h.own 0 rfl)) (show q < (nextsL x.l k).length from (by omega)) (Nat.le_of_ble_eq_true rfl) rfl) rfl rfl fun a485 h485 => ?_; clear h484
          refine wv h485 (r_ixI (s := (⟨v101, my3⟩ : Ls Bool)) (q := nth (nextsL x.l k) q) sl_66 ti_4 rfl rfl rfl (fun w h => (h.own 1 rfl)) (show 0 ≤ nth (nextsL x.l k) q ∧ nth (nextsL x.l k) q < my3.length from (by omega))) rfl rfl fun a486 h486 => ?_; clear h485
          refine wl_ex (x_ste (r := 1) (i := (nth (nextsL x.l k) q).toNat) (j := 0) (x' := (true : Bool)) h486 ti_4 rfl rfl rfl rfl rfl (show (nth (nextsL x.l k) q).toNat < my3.length from (by omega)) (Nat.le_of_ble_eq_true rfl) rfl rfl rfl (by intro q hq; obtain rfl : q = 0 := (by omega); rfl) (fun w h => Flat.inner _ _) (fun b hb => (Flat.on _ _ hb).elim)) (wanted_none rfl _) ?_
          rintro a487 w487 h487
          clear h486
          refine wpList_nil ?_
          refine hK482 _ _ ?_
          refine wp_region_lit ?_
          refine wms 1 h487 rfl fun a488 h488 => ?_; clear h487
          refine wpList_nil ?_
          refine hK472 _ _ ?_
          refine wp_region_lit ?_
          refine wms 1 h488 rfl fun a489 h489 => ?_; clear h488
          refine wv h489 (r_addN (p := q) (q := 1) rfl rfl rfl (show q + 1 < 9223372036854775808 from (by omega))) rfl rfl fun a490 h490 => ?_; clear h489
          refine wms 1 h490 rfl fun a491 h491 => ?_; clear h490
          refine wpList_nil ?_
          refine x_again ⟨_, ?_, q + 1, my3.set ((nth (nextsL x.l k) q).toNat) true, true, ?_, ?_, ?_, ?_, ((h491.sub (F' := [(0, x.v), (3, .int .i64 ((x.l.length : Nat) : Int)), (4, v12), (9, v101), (10, .bool true), (11, .int .i64 ((k : Nat) : Int)), (15, s460.v), (16, .int .i64 ((q + 1 : Nat) : Int))]) ⟨rfl, rfl, rfl, rfl, rfl, rfl, rfl, rfl, trivial⟩).sel (L' := [.own 3 (⟨s460.v, nextsL x.l k⟩ : Ls Int), .own 4 (⟨v101, my3.set ((nth (nextsL x.l k) q).toNat) true⟩ : Ls Bool), .own 4 (⟨v12, rc⟩ : Ls Bool), .at_ x]) [0, 1, 2, 3] (by decide) ⟨rfl, rfl, rfl, rfl, trivial⟩), rfl⟩
          · rw [hm464]; first | omega | (simp only [List.length_append, List.length_cons, List.length_nil, List.length_set, List.length_replicate, List.length_map, List.length_range]; omega)
          · omega
          · first | exact hyi3 | exact hyi3.set (may_of ((hrc k).1 hA2.1) (by omega) (hyi2.s1 k) hA2.2 hmm)
          · first | (intro h; cases h; done) | (intro h; obtain ⟨e0, e1, hp⟩ := k30 h; refine ⟨e0, e1, fun p hp2 hA => ?_⟩; rcases Nat.lt_or_ge p q with h9 | h9; (exact hp p h9 hA); obtain rfl : p = q := (by omega); assumption)
          · first | exact k31 | (intro _; exact fp_grow hle (by omega) (by assumption))
         ·
          have hn481 : nth my3 ((nth (nextsL x.l k) q).toNat) = true := (Bool.not_eq_false' _).mp hb481
          refine wp_skip ?_
          refine hK472 _ _ ?_
          refine wp_region_lit ?_
          refine wms 1 h480 rfl fun a492 h492 => ?_; clear h480
          refine wv h492 (r_addN (p := q) (q := 1) rfl rfl rfl (show q + 1 < 9223372036854775808 from (by omega))) rfl rfl fun a493 h493 => ?_; clear h492
          refine wms 1 h493 rfl fun a494 h494 => ?_; clear h493
          refine wpList_nil ?_
          refine x_again ⟨_, ?_, q + 1, my3, agy3, ?_, ?_, ?_, ?_, ((h494.sub (F' := [(0, x.v), (3, .int .i64 ((x.l.length : Nat) : Int)), (4, v12), (9, v101), (10, .bool agy3), (11, .int .i64 ((k : Nat) : Int)), (15, s460.v), (16, .int .i64 ((q + 1 : Nat) : Int))]) ⟨rfl, rfl, rfl, rfl, rfl, rfl, rfl, rfl, trivial⟩).sel (L' := [.own 3 (⟨s460.v, nextsL x.l k⟩ : Ls Int), .own 4 (⟨v101, my3⟩ : Ls Bool), .own 4 (⟨v12, rc⟩ : Ls Bool), .at_ x]) [0, 1, 2, 3] (by decide) ⟨rfl, rfl, rfl, rfl, trivial⟩), rfl⟩
          · rw [hm464]; first | omega | (simp only [List.length_append, List.length_cons, List.length_nil, List.length_set, List.length_replicate, List.length_map, List.length_range]; omega)
          · omega
          · first | exact hyi3 | exact hyi3.set (may_of ((hrc k).1 hA2.1) (by omega) (hyi2.s1 k) hA2.2 hmm)
          · first | (intro h; cases h; done) | (intro h; obtain ⟨e0, e1, hp⟩ := k30 h; refine ⟨e0, e1, fun p hp2 hA => ?_⟩; rcases Nat.lt_or_ge p q with h9 | h9; (exact hp p h9 hA); obtain rfl : p = q := (by omega); assumption)
          · first | exact k31 | (intro _; exact fp_grow hle (by omega) (by assumption))
        ·
         have hp471 : ¬ (q < (nextsL x.l k).length) := of_decide_eq_false hb471
         refine wp_exit ?_
         refine hK121 _ _ ?_
         refine wp_region_lit ?_
         refine wms 1 h470 rfl fun a495 h495 => ?_; clear h470
         refine wv h495 (r_addN (p := k) (q := 1) rfl rfl rfl (show k + 1 < 9223372036854775808 from (by omega))) rfl rfl fun a496 h496 => ?_; clear h495
         refine wms 1 h496 rfl fun a497 h497 => ?_; clear h496
         refine wpList_nil ?_
         refine x_again ⟨_, ?_, k + 1, my3, agy3, ?_, ?_, ?_, ?_, ((h497.sub (F' := [(0, x.v), (3, .int .i64 ((x.l.length : Nat) : Int)), (4, v12), (9, v101), (10, .bool agy3), (11, .int .i64 ((k + 1 : Nat) : Int))]) ⟨rfl, rfl, rfl, rfl, rfl, rfl, trivial⟩).sel (L' := [.own 4 (⟨v101, my3⟩ : Ls Bool), .own 4 (⟨v12, rc⟩ : Ls Bool), .at_ x]) [1, 2, 3] (by decide) ⟨rfl, rfl, rfl, trivial⟩), rfl⟩
         · rw [hm115]; first | omega | (simp only [List.length_append, List.length_cons, List.length_nil, List.length_set, List.length_replicate, List.length_map, List.length_range]; omega)
         · omega
         · first | exact hyi3 | exact hyi2
         · first | exact fp_close k20 k30 (by omega) | exact fp_skip k20 (fun h => absurd (h.1.symm.trans (show _ = false by assumption)) (by decide)) | exact fp_skip k20 (fun h => absurd ((outB_e (by assumption) (by omega)).trans h.2) (by decide)) | exact fp_skip k20 (fun h => absurd (((by assumption : nth my2 k = false).symm.trans (outB_p (by assumption) (by omega))).trans h.2) (by decide))
         · first | exact k31 | exact k21
   ·
    have hp120 : ¬ (k < x.l.length) := of_decide_eq_false hb120
    refine wp_exit ?_
    change ∃ _m, _m < _ ∧ _
    refine ⟨_, ?_, my2, agy2, ?_, ?_, ((h119.sub (F' := [(0, x.v), (3, .int .i64 ((x.l.length : Nat) : Int)), (4, v12), (9, v101), (10, .bool agy2)]) ⟨rfl, rfl, rfl, rfl, rfl, trivial⟩).sel (L' := [.own 4 (⟨v101, my2⟩ : Ls Bool), .own 4 (⟨v12, rc⟩ : Ls Bool), .at_ x]) [0, 1, 2] (by decide) ⟨rfl, rfl, rfl, trivial⟩), rfl⟩
    · rw [hm106]; exact fp_down (by assumption) hyi2.l1 k20 k21
    · exact hyi2
    · exact fun h i hi => (k20 h).2 i (by omega)
  ·
   skip
   refine wp_exit ?_
   refine hK103 _ _ ?_
   refine wp_seq_k fun K498 hK498 => ?_
   refine wp_region_lit ?_
   refine wms 2 h109 rfl fun a499 h499 => ?_; clear h109
   refine wpList_nil ?_
   refine hK498 _ _ ?_
   refine wp_ret ?_
   try simp only [Exit.then, Exit.inBlock]
   refine x_ret1 (fn := Try.f90) (t := 2) rfl h499 rfl ?_
   refine ⟨⟨v101, my⟩, rfl, hyi.l1, fun j => YI.fin hrc hyi (hyc (by assumption)) j, (h499.sh.sel (L' := [.own 4 (⟨v101, my⟩ : Ls Bool)]) [0] (by decide) ⟨rfl, trivial⟩)⟩

end Go.Proofs.Ytanhbpofhebbaaa
