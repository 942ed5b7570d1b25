/-
  Contracts of functions of this program and of the references, each walked once.
-/
import Derived.Test.YtanhbpofhebbaaaU2
import Derived.Test.YtanhbpofhebbaaaX52
namespace Go.Proofs.Ytanhbpofhebbaaa
open Go.RowKit
set_option linter.unusedSimpArgs false
set_option linter.unusedVariables false

set_option maxRecDepth 100000 in
set_option maxHeartbeats 8000000 in
theorem reached_c (x : Ls Ins) (W : World) (hx : x.At W) (hc : CodeC x.l) (hl : x.l.length ≤ 5000) :
    Rets Try.prog 115 [x.v] W (fun v w' => ∃ s : Ls Bool, v = s.v ∧ s.l.length = x.l.length + 1 ∧ (∀ i, i ≤ x.l.length → (nth s.l i = true ↔ RchC x.l i)) ∧ Sh0 W w' [.own 4 s]) := by
 refine x_enter (N := 51) Try.func115 rfl Try.ntmps115 (Nat.le_of_ble_eq_true rfl) fun a1 hf1 => ?_
 have h1 : St 51 (fun _ => False) W a1 W [(0, x.v)] [.at_ x] := ⟨hf1.sub ⟨rfl, trivial⟩, Sh0.ext1 hx⟩
 clear hf1
 refine wp_seq_k fun K2 hK2 => wp_region_lit ?_
 refine wms 1 h1 rfl fun a3 h3 => ?_; clear h1
 refine wpList_nil (hK2 _ _ ?_)
 refine wp_seq_k fun K4 hK4 => wp_region_lit ?_
 refine wms 1 h3 rfl fun a5 h5 => ?_; clear h3
 have hl6 : x.l.length ≤ 140737488355328 := (h5.sh.at 0 rfl).len
 refine wv h5 (r_len (s := x) (n := x.l.length) sl_64 rfl rfl (fun w h => (h.at 0 rfl)) rfl) rfl rfl fun a7 h7 => ?_; clear h5
 refine wv h7 (r_addN (p := x.l.length) (q := 1) rfl rfl rfl (show x.l.length + 1 < 9223372036854775808 from (by omega))) rfl rfl fun a8 h8 => ?_; clear h7
 refine wl_ex (x_make (n := x.l.length + 1) (false : Bool) h8 sl_66 ti_4 rfl rfl rfl rfl rfl (show 1 * (x.l.length + 1) ≤ 140737488355328 ∧ x.l.length + 1 ≤ 140737488355328 from (by omega)) (fun w => Flat.inner _ _) (fun b => Flat.on _ _) rfl rfl) (wanted_none rfl _) ?_
 rintro a9 w9 ⟨v9, h9⟩; clear h8
 refine wms 1 h9 rfl fun a10 h10 => ?_; clear h9
 refine wpList_nil (hK4 _ _ ?_)
 refine wp_seq_k fun K11 hK11 => wp_region_lit ?_
 refine wms 1 h10 rfl fun a12 h12 => ?_; clear h10
 refine wv h12 (r_ixN (s := (⟨v9, List.replicate (x.l.length + 1) false⟩ : Ls Bool)) (q := 0) sl_66 ti_4 rfl rfl rfl (fun w h => (h.own 0 rfl)) (show 0 < (List.replicate (x.l.length + 1) false).length from (by first | omega | (simp only [lens9]; omega)))) rfl rfl fun a13 h13 => ?_; clear h12
 refine wl_ex (x_ste (r := 0) (i := 0) (j := 0) (x' := (true : Bool)) h13 ti_4 rfl rfl rfl rfl rfl (show 0 < (List.replicate (x.l.length + 1) false).length from (by first | omega | (simp only [lens9]; omega))) (Nat.le_of_ble_eq_true rfl) rfl rfl rfl (by intro q hq; obtain rfl : q = 0 := (by omega); rfl) (fun w h => Flat.inner _ _) (fun b hb => (Flat.on _ _ hb).elim)) (wanted_none rfl _) ?_
 rintro a14 w14 h14
 clear h13
 refine wpList_nil (hK11 _ _ ?_)
 refine wp_seq_k fun K15 hK15 => ?_
 refine wp_seq_k fun K16 hK16 => wp_region_lit ?_
 refine wms 1 h14 rfl fun a17 h17 => ?_; clear h14
 refine wpList_nil (hK16 _ _ ?_)
 refine wp_block ?_
 refine x_loop (fun m a w => ∃ (o1 : List Bool) (g1 : Bool), (RcB x.l o1) ∧ (g1 = false → ∀ i, i < x.l.length → RcC x.l o1 i) ∧ St 51 (fun _ => False) W a w [(0, x.v), (3, v9), (4, .bool g1)] [.own 4 (⟨v9, o1⟩ : Ls Bool), .at_ x] ∧ m = 2 * o1.count false + bN g1) ⟨_, (List.replicate (x.l.length + 1) false).set 0 true, true, (RcB.start _), (fun h => by cases h), h17.nrm ⟨rfl, rfl, rfl, trivial⟩ [0, 1] (by decide) ⟨rfl, rfl, trivial⟩, rfl⟩ ?_
 clear h17
 rintro m18 a18 w18 ⟨o1, g1, hr1, hcl1, h18, hm18⟩
 refine wp_seq_k fun K19 hK19 => ?_
 refine wp_seq_k fun K20 hK20 => wp_region_lit ?_
 refine wms 1 h18 rfl fun a21 h21 => ?_; clear h18
 refine wpList_nil (hK20 _ _ ?_)
 refine x_cond h21 rfl (fun hb22 => ?_) (fun hb22 => ?_)
 ·
  skip
  refine wp_skip ?_
  refine hK19 _ _ ?_
  refine wp_block ?_
  refine wp_seq_k fun K23 hK23 => wp_region_lit ?_
  refine wms 1 h21 rfl fun a24 h24 => ?_; clear h21
  refine wpList_nil (hK23 _ _ ?_)
  refine wp_seq_k fun K25 hK25 => wp_region_lit ?_
  refine wms 1 h24 rfl fun a26 h26 => ?_; clear h24
  refine wpList_nil (hK25 _ _ ?_)
  refine wp_block ?_
  refine x_loop (fun m a w => ∃ (a2 : Nat) (o2 : List Bool) (g2 : Bool), (a2 ≤ x.l.length) ∧ (RcB x.l o2) ∧ (o2.count false + bN g2 ≤ o1.count false) ∧ (g2 = false → ∀ i, i < a2 → RcC x.l o2 i) ∧ St 51 (fun _ => False) W a w [(0, x.v), (3, v9), (4, .bool g2), (5, .int .i64 ((a2 : Nat) : Int))] [.own 4 (⟨v9, o2⟩ : Ls Bool), .at_ x] ∧ m = x.l.length - a2) ⟨_, 0, o1, false, (by omega), (hr1), (Nat.le_refl _), (fun _ i hi => absurd hi (by omega)), h26.nrm ⟨rfl, rfl, rfl, rfl, trivial⟩ [0, 1] (by decide) ⟨rfl, rfl, trivial⟩, rfl⟩ ?_
  clear h26
  rintro m27 a27 w27 ⟨a2, o2, g2, ha2, hr2, hn2, hcl2, h27, hm27⟩
  refine wp_seq_k fun K28 hK28 => ?_
  refine wp_seq_k fun K29 hK29 => wp_region_lit ?_
  refine wms 2 h27 rfl fun a30 h30 => ?_; clear h27
  refine wv h30 (r_len (s := x) (n := x.l.length) sl_64 rfl rfl (fun w h => (h.at 1 rfl)) rfl) rfl rfl fun a31 h31 => ?_; clear h30
  refine wv h31 (r_lssN (p := a2) (q := x.l.length) rfl rfl rfl) rfl rfl fun a32 h32 => ?_; clear h31
  refine wpList_nil (hK29 _ _ ?_)
  refine x_cond h32 rfl (fun hb33 => ?_) (fun hb33 => ?_)
  ·
   have hp33 : a2 < x.l.length := of_decide_eq_true hb33
   refine wp_skip ?_
   refine hK28 _ _ ?_
   refine wp_seq_k fun K34 hK34 => ?_
   refine wp_block ?_
   refine wp_seq_k fun K35 hK35 => wp_region_lit ?_
   refine wms 2 h32 rfl fun a36 h36 => ?_; clear h32
   refine wl_ex (x_call h36 bd_85 rfl rfl rfl rfl rfl (rNexts_c x a2 _ (h36.sh.at 1 rfl) (by omega) (by omega))) (wanted_none rfl _) ?_
   rintro a37 w37 ⟨_, ⟨s37, rfl, hs37⟩, hf37⟩
   have h37 := (⟨hf37, h36.sh.call hs37 (by intro A hA b hb; first | (simp at hA; done) | (simp at hA; subst hA; first | exact Flat.noRd hb | exact (hb : False).elim) | (simp at hA; rcases hA with rfl | rfl <;> first | exact Flat.noRd hb | exact (hb : False).elim))⟩ : St 51 (fun _ => False) W a37 w37 _ _)
   clear hf37 hs37
   clear h36
   refine wms 1 h37 rfl fun a38 h38 => ?_; clear h37
   refine wpList_nil (hK35 _ _ ?_)
   refine wp_seq_k fun K39 hK39 => wp_region_lit ?_
   refine wms 1 h38 rfl fun a40 h40 => ?_; clear h38
   refine wpList_nil (hK39 _ _ ?_)
   refine wp_block ?_
   refine x_loop (fun m a w => ∃ (k : Nat) (o3 : List Bool) (g3 : Bool), (k ≤ (nextsL x.l a2).length) ∧ (RcB x.l o3) ∧ (o3.count false + bN g3 ≤ o1.count false) ∧ (g3 = false → ∀ i, i < a2 → RcC x.l o3 i) ∧ (g3 = false → nth o3 a2 = true → ∀ j, j < k → nth o3 (nth (nextsL x.l a2) j).toNat = true) ∧ St 51 (fun _ => False) W a w [(0, x.v), (3, v9), (4, .bool g3), (5, .int .i64 ((a2 : Nat) : Int)), (6, s37.v), (7, .int .i64 ((k : Nat) : Int))] [.own 3 (⟨s37.v, nextsL x.l a2⟩ : Ls Int), .own 4 (⟨v9, o3⟩ : Ls Bool), .at_ x] ∧ m = (nextsL x.l a2).length - k) ⟨_, 0, o2, g2, (by omega), (hr2), (hn2), (hcl2), (fun _ _ j hj => absurd hj (by omega)), h40.nrm ⟨rfl, rfl, rfl, rfl, rfl, rfl, trivial⟩ [0, 1, 2] (by decide) ⟨rfl, rfl, rfl, trivial⟩, rfl⟩ ?_
   clear h40
   rintro m41 a41 w41 ⟨k, o3, g3, hk, hr3, hn3, hcl3, hd3, h41, hm41⟩
   have hl3 := hr3.len
   refine wp_seq_k fun K42 hK42 => ?_
   refine wp_seq_k fun K43 hK43 => wp_region_lit ?_
   refine wms 2 h41 rfl fun a44 h44 => ?_; clear h41
   have hl45 : (nextsL x.l a2).length ≤ 140737488355328 := (h44.sh.own 0 rfl).len
   refine wv h44 (r_len (s := (⟨s37.v, nextsL x.l a2⟩ : Ls Int)) (n := (nextsL x.l a2).length) sl_24 rfl rfl (fun w h => (h.own 0 rfl)) rfl) rfl rfl fun a46 h46 => ?_; clear h44
   refine wv h46 (r_lssN (p := k) (q := (nextsL x.l a2).length) rfl rfl rfl) rfl rfl fun a47 h47 => ?_; clear h46
   refine wpList_nil (hK43 _ _ ?_)
   refine x_cond h47 rfl (fun hb48 => ?_) (fun hb48 => ?_)
   ·
    have hp48 : k < (nextsL x.l a2).length := of_decide_eq_true hb48
    refine wp_skip ?_
    refine hK42 _ _ ?_
    have hnx := hc.nx a2 (by omega) _ (nth_mem (nextsL x.l a2) k (by omega))
    refine wp_seq_k fun K49 hK49 => ?_
    refine wp_block ?_
    refine wp_seq_k fun K50 hK50 => wp_region_lit ?_
    refine wms 2 h47 rfl fun a51 h51 => ?_; clear h47
    have hl52 : o3.length ≤ 140737488355328 := (h51.sh.own 1 rfl).len
    refine wv h51 (r_ixN (s := (⟨v9, o3⟩ : Ls Bool)) (q := a2) sl_66 ti_4 rfl rfl rfl (fun w h => (h.own 1 rfl)) (show a2 < o3.length from (by omega))) rfl rfl fun a53 h53 => ?_; clear h51
    refine wv h53 (r_lde (s := (⟨v9, o3⟩ : Ls Bool)) (i := a2) (v := .bool (nth o3 a2)) ti_4 rfl rfl rfl (fun w h => (h.own 1 rfl)) (show a2 < o3.length from (by omega)) (Nat.le_of_ble_eq_true rfl) rfl) rfl rfl fun a54 h54 => ?_; clear h53
    refine wms 1 h54 rfl fun a55 h55 => ?_; clear h54
    rcases Bool.eq_false_or_eq_true (nth o3 a2) with hb56 | hb56
    ·
     skip
     refine wl_val h55 (r_move rfl rfl) (wanted_yes h55.fr rfl rfl rfl rfl hb56) rfl rfl fun a57 h57 => ?_; clear h55
     refine wl_val h57 (r_move rfl rfl) (wanted_yes h57.fr rfl rfl rfl rfl hb56) rfl rfl fun a58 h58 => ?_; clear h57
     refine wl_val h58 (r_move rfl rfl) (wanted_yes h58.fr rfl rfl rfl rfl hb56) rfl rfl fun a59 h59 => ?_; clear h58
     refine wl_val h59 (r_ixN (s := (⟨s37.v, nextsL x.l a2⟩ : Ls Int)) (q := k) sl_24 ti_3 rfl rfl rfl (fun w h => (h.own 0 rfl)) (show k < (nextsL x.l a2).length from (by omega))) (wanted_yes h59.fr rfl rfl rfl rfl hb56) rfl rfl fun a60 h60 => ?_; clear h59
     refine wl_val h60 (r_lde (s := (⟨s37.v, nextsL x.l a2⟩ : Ls Int)) (i := k) (v := .int .i64 (nth (nextsL x.l a2) k)) ti_3 rfl rfl rfl (fun w h => (h.own 0 rfl)) (show k < (nextsL x.l a2).length from (by omega)) (Nat.le_of_ble_eq_true rfl) rfl) (wanted_yes h60.fr rfl rfl rfl rfl hb56) rfl rfl fun a61 h61 => ?_; clear h60
     refine wl_val h61 (r_ixI (s := (⟨v9, o3⟩ : Ls Bool)) (q := nth (nextsL x.l a2) k) sl_66 ti_4 rfl rfl rfl (fun w h => (h.own 1 rfl)) (show 0 ≤ nth (nextsL x.l a2) k ∧ nth (nextsL x.l a2) k < o3.length from (by omega))) (wanted_yes h61.fr rfl rfl rfl rfl hb56) rfl rfl fun a62 h62 => ?_; clear h61
     refine wl_val h62 (r_lde (s := (⟨v9, o3⟩ : Ls Bool)) (i := (nth (nextsL x.l a2) k).toNat) (v := .bool (nth o3 ((nth (nextsL x.l a2) k).toNat))) ti_4 rfl rfl rfl (fun w h => (h.own 1 rfl)) (show (nth (nextsL x.l a2) k).toNat < o3.length from (by omega)) (Nat.le_of_ble_eq_true rfl) rfl) (wanted_yes h62.fr rfl rfl rfl rfl hb56) rfl rfl fun a63 h63 => ?_; clear h62
     refine wl_val h63 (r_not rfl rfl) (wanted_yes h63.fr rfl rfl rfl rfl hb56) rfl rfl fun a64 h64 => ?_; clear h63
     refine wv h64 (r_pickT rfl rfl hb56 rfl) rfl rfl fun a65 h65 => ?_; clear h64
     refine wpList_nil (hK50 _ _ ?_)
     refine x_cond h65 rfl (fun hb66 => ?_) (fun hb66 => ?_)
     ·
      have hn66 : nth o3 ((nth (nextsL x.l a2) k).toNat) = false := (Bool.not_eq_true' _).mp hb66
      refine wp_seq_k fun K67 hK67 => wp_region_lit ?_
      refine wms 3 h65 rfl fun a68 h68 => ?_; clear h65
      refine wv h68 (r_ixN (s := (⟨s37.v, nextsL x.l a2⟩ : Ls Int)) (q := k) sl_24 ti_3 rfl rfl rfl (fun w h => (h.own 0 rfl)) (show k < (nextsL x.l a2).length from (by omega))) rfl rfl fun a69 h69 => ?_; clear h68
      refine wv h69 (r_lde (s := (⟨s37.v, nextsL x.l a2⟩ : Ls Int)) (i := k) (v := .int .i64 (nth (nextsL x.l a2) k)) ti_3 rfl rfl rfl (fun w h => (h.own 0 rfl)) (show k < (nextsL x.l a2).length from (by omega)) (Nat.le_of_ble_eq_true rfl) rfl) rfl rfl fun a70 h70 => ?_; clear h69
      refine wv h70 (r_ixI (s := (⟨v9, o3⟩ : Ls Bool)) (q := nth (nextsL x.l a2) k) sl_66 ti_4 rfl rfl rfl (fun w h => (h.own 1 rfl)) (show 0 ≤ nth (nextsL x.l a2) k ∧ nth (nextsL x.l a2) k < o3.length from (by omega))) rfl rfl fun a71 h71 => ?_; clear h70
      refine wl_ex (x_ste (r := 1) (i := (nth (nextsL x.l a2) k).toNat) (j := 0) (x' := (true : Bool)) h71 ti_4 rfl rfl rfl rfl rfl (show (nth (nextsL x.l a2) k).toNat < o3.length from (by omega)) (Nat.le_of_ble_eq_true rfl) rfl rfl rfl (by intro q hq; obtain rfl : q = 0 := (by omega); rfl) (fun w h => Flat.inner _ _) (fun b hb => (Flat.on _ _ hb).elim)) (wanted_none rfl _) ?_
      rintro a72 w72 h72
      clear h71
      refine wpList_nil (hK67 _ _ ?_)
      have h73 : St 51 (fun _ => False) W a72 w72 [(0, x.v), (3, v9), (5, .int .i64 ((a2 : Nat) : Int)), (6, s37.v), (7, .int .i64 ((k : Nat) : Int))] [.own 3 (⟨s37.v, nextsL x.l a2⟩ : Ls Int), .own 4 (⟨v9, o3.set ((nth (nextsL x.l a2) k).toNat) true⟩ : Ls Bool), .at_ x] := h72.nrm ⟨rfl, rfl, rfl, rfl, rfl, trivial⟩ [0, 1, 2] (by decide) ⟨rfl, rfl, rfl, trivial⟩
      clear h72
      refine wp_region_lit ?_
      refine wms 1 h73 rfl fun a74 h74 => ?_; clear h73
      refine wpList_nil (hK49 _ _ ?_)
      refine wp_region_lit ?_
      refine wms 1 h74 rfl fun a75 h75 => ?_; clear h74
      refine wv h75 (r_addN (p := k) (q := 1) rfl rfl rfl (show k + 1 < 9223372036854775808 from (by omega))) rfl rfl fun a76 h76 => ?_; clear h75
      refine wms 1 h76 rfl fun a77 h77 => ?_; clear h76
      refine wpList_nil ?_
      refine x_again ⟨_, ?_, (k + 1), o3.set ((nth (nextsL x.l a2) k).toNat) true, true, ?_, ?_, ?_, ?_, ?_, h77.nrm ⟨rfl, rfl, rfl, rfl, rfl, rfl, trivial⟩ [0, 1, 2] (by decide) ⟨rfl, rfl, rfl, trivial⟩, rfl⟩
      · rw [hm41]; first | omega | (simp only [lens9]; omega)
      · omega
      · first | exact hr3 | exact hr3.put hc (by omega) (by omega) (by assumption)
      · first | exact hn3 | exact rc_cnt hc hr3 (by omega) (by omega) (by assumption) hn3
      · first | exact hcl3 | exact fun h => Bool.noConfusion h
      · first | (exact fun h => Bool.noConfusion h) | (intro h h8 j hj; rcases Nat.lt_or_ge j k with h9 | h9; exact hd3 h h8 j h9; obtain rfl : j = k := (by omega); first | assumption | (simp_all; done))
     have hn66 : nth o3 ((nth (nextsL x.l a2) k).toNat) = true := (Bool.not_eq_false' _).mp hb66
     refine wp_skip ?_
     refine hK49 _ _ ?_
     refine wp_region_lit ?_
     refine wms 1 h65 rfl fun a78 h78 => ?_; clear h65
     refine wv h78 (r_addN (p := k) (q := 1) rfl rfl rfl (show k + 1 < 9223372036854775808 from (by omega))) rfl rfl fun a79 h79 => ?_; clear h78
     refine wms 1 h79 rfl fun a80 h80 => ?_; clear h79
     refine wpList_nil ?_
     refine x_again ⟨_, ?_, (k + 1), o3, g3, ?_, ?_, ?_, ?_, ?_, h80.nrm ⟨rfl, rfl, rfl, rfl, rfl, rfl, trivial⟩ [0, 1, 2] (by decide) ⟨rfl, rfl, rfl, trivial⟩, rfl⟩
     · rw [hm41]; first | omega | (simp only [lens9]; omega)
     · omega
     · first | exact hr3 | exact hr3.put hc (by omega) (by omega) (by assumption)
     · first | exact hn3 | exact rc_cnt hc hr3 (by omega) (by omega) (by assumption) hn3
     · first | exact hcl3 | exact fun h => Bool.noConfusion h
     · first | (exact fun h => Bool.noConfusion h) | (intro h h8 j hj; rcases Nat.lt_or_ge j k with h9 | h9; exact hd3 h h8 j h9; obtain rfl : j = k := (by omega); first | assumption | (simp_all; done))
    refine wl_skip h55 (wanted_no h55.fr rfl rfl rfl rfl hb56) rfl rfl fun a81 h81 => ?_; clear h55
    refine wl_skip h81 (wanted_no h81.fr rfl rfl rfl rfl hb56) rfl rfl fun a82 h82 => ?_; clear h81
    refine wl_skip h82 (wanted_no h82.fr rfl rfl rfl rfl hb56) rfl rfl fun a83 h83 => ?_; clear h82
    refine wl_skip h83 (wanted_no h83.fr rfl rfl rfl rfl hb56) rfl rfl fun a84 h84 => ?_; clear h83
    refine wl_skip h84 (wanted_no h84.fr rfl rfl rfl rfl hb56) rfl rfl fun a85 h85 => ?_; clear h84
    refine wl_skip h85 (wanted_no h85.fr rfl rfl rfl rfl hb56) rfl rfl fun a86 h86 => ?_; clear h85
    refine wl_skip h86 (wanted_no h86.fr rfl rfl rfl rfl hb56) rfl rfl fun a87 h87 => ?_; clear h86
    refine wl_skip h87 (wanted_no h87.fr rfl rfl rfl rfl hb56) rfl rfl fun a88 h88 => ?_; clear h87
    refine wv h88 (r_pickF rfl rfl hb56 rfl) rfl rfl fun a89 h89 => ?_; clear h88
    refine wpList_nil (hK50 _ _ ?_)
    refine x_condF h89 rfl rfl ?_
    refine wp_skip ?_
    refine hK49 _ _ ?_
    refine wp_region_lit ?_
    refine wms 1 h89 rfl fun a90 h90 => ?_; clear h89
    refine wv h90 (r_addN (p := k) (q := 1) rfl rfl rfl (show k + 1 < 9223372036854775808 from (by omega))) rfl rfl fun a91 h91 => ?_; clear h90
    refine wms 1 h91 rfl fun a92 h92 => ?_; clear h91
    refine wpList_nil ?_
    refine x_again ⟨_, ?_, (k + 1), o3, g3, ?_, ?_, ?_, ?_, ?_, h92.nrm ⟨rfl, rfl, rfl, rfl, rfl, rfl, trivial⟩ [0, 1, 2] (by decide) ⟨rfl, rfl, rfl, trivial⟩, rfl⟩
    · rw [hm41]; first | omega | (simp only [lens9]; omega)
    · omega
    · first | exact hr3 | exact hr3.put hc (by omega) (by omega) (by assumption)
    · first | exact hn3 | exact rc_cnt hc hr3 (by omega) (by omega) (by assumption) hn3
    · first | exact hcl3 | exact fun h => Bool.noConfusion h
    · first | (exact fun h => Bool.noConfusion h) | (intro h h8 j hj; rcases Nat.lt_or_ge j k with h9 | h9; exact hd3 h h8 j h9; obtain rfl : j = k := (by omega); first | assumption | (simp_all; done))
   have hp48 : ¬ (k < (nextsL x.l a2).length) := of_decide_eq_false hb48
   refine wp_exit ?_
   refine hK34 _ _ ?_
   refine wp_region_lit ?_
   refine wms 1 h47 rfl fun a93 h93 => ?_; clear h47
   refine wv h93 (r_addN (p := a2) (q := 1) rfl rfl rfl (show a2 + 1 < 9223372036854775808 from (by omega))) rfl rfl fun a94 h94 => ?_; clear h93
   refine wms 1 h94 rfl fun a95 h95 => ?_; clear h94
   refine wpList_nil ?_
   refine x_again ⟨_, ?_, (a2 + 1), o3, g3, ?_, ?_, ?_, ?_, h95.nrm ⟨rfl, rfl, rfl, rfl, trivial⟩ [1, 2] (by decide) ⟨rfl, rfl, trivial⟩, rfl⟩
   · rw [hm27]; first | omega | (simp only [lens9]; omega)
   · omega
   · exact hr3
   · exact hn3
   · intro h i hi; rcases Nat.lt_or_ge i a2 with h9 | h9; exact hcl3 h i h9; obtain rfl : i = a2 := (by omega); intro h8 y hy; obtain ⟨j, hj, rfl⟩ := List.getElem_of_mem hy; have h7 := hd3 h h8 j (by omega); rwa [nth_lt _ _ hj] at h7
  have hp33 : ¬ (a2 < x.l.length) := of_decide_eq_false hb33
  refine wp_exit ?_
  change ∃ _m, _m < _ ∧ _
  refine ⟨_, ?_, o2, g2, ?_, ?_, h32.nrm ⟨rfl, rfl, rfl, trivial⟩ [0, 1] (by decide) ⟨rfl, rfl, trivial⟩, rfl⟩
  · rw [hm18]; (have e1 : g1 = true := by assumption); rw [e1]; have e2 : bN true = 1 := rfl; omega
  · exact hr2
  · exact fun h i hi => hcl2 h i (by omega)
 refine wp_exit ?_
 refine hK15 _ _ ?_
 refine wp_seq_k fun K96 hK96 => wp_region_lit ?_
 refine wms 2 h21 rfl fun a97 h97 => ?_; clear h21
 refine wpList_nil (hK96 _ _ ?_)
 refine wp_ret ?_
 try simp only [Exit.then, Exit.inBlock]
 refine x_ret1 (fn := Try.f115) (t := 2) rfl h97 rfl ?_
 exact ⟨⟨v9, o1⟩, rfl, hr1.len, fun i hi => rc_end hc hr1 (hcl1 (by assumption)) hi, (h97.sh.sel (L' := [.own 4 (⟨v9, o1⟩ : Ls Bool)]) [0] (by decide) ⟨rfl, trivial⟩)⟩

set_option maxRecDepth 100000 in
set_option maxHeartbeats 16000000 in
theorem is_c (x : Ls Ins) (ra rb : Int) (W : World) (hx : x.At W) (hc : CodeC x.l) (hl : x.l.length ≤ 5000) :
    Rets Try.prog 88 [x.v, .int .i64 ra, .int .i64 rb] W (fun v w' => ∃ s : Ls Bool, v = s.v ∧ s.l.length = x.l.length + 1 ∧ (∀ i, i ≤ x.l.length → (nth s.l i = true ↔ SameI x.l ra rb i)) ∧ Sh0 W w' [.own 4 s]) := by
 refine x_enter (N := 115) Try.func88 rfl Try.ntmps88 (Nat.le_of_ble_eq_true rfl) fun a1 hf1 => ?_
 have h1 : St 115 (fun _ => False) W a1 W [(0, x.v), (1, .int .i64 ra), (2, .int .i64 rb)] [.at_ x] := ⟨hf1.sub ⟨rfl, rfl, rfl, trivial⟩, Sh0.ext1 hx⟩
 clear hf1
 refine wp_seq_k fun K2 hK2 => wp_region_lit ?_
 refine wms 1 h1 rfl fun a3 h3 => ?_; clear h1
 refine wpList_nil (hK2 _ _ ?_)
 refine wp_seq_k fun K4 hK4 => wp_region_lit ?_
 refine wms 1 h3 rfl fun a5 h5 => ?_; clear h3
 have hl6 : x.l.length ≤ 140737488355328 := (h5.sh.at 0 rfl).len
 refine wv h5 (r_len (s := x) (n := x.l.length) sl_64 rfl rfl (fun w h => (h.at 0 rfl)) rfl) rfl rfl fun a7 h7 => ?_; clear h5
 refine wms 1 h7 rfl fun a8 h8 => ?_; clear h7
 refine wpList_nil (hK4 _ _ ?_)
 refine wp_seq_k fun K9 hK9 => wp_region_lit ?_
 refine wms 1 h8 rfl fun a10 h10 => ?_; clear h8
 refine wl_ex (x_call h10 bd_115 rfl rfl rfl rfl rfl (reached_c x _ (h10.sh.at 0 rfl) hc hl)) (wanted_none rfl _) ?_
 rintro a11 w11 ⟨_, ⟨s11, rfl, hgl, hgo, hs11⟩, hf11⟩
 have h11 := (⟨hf11, h10.sh.call hs11 (by intro A hA b hb; first | (simp at hA; done) | (simp at hA; subst hA; first | exact Flat.noRd hb | exact (hb : False).elim) | (simp at hA; rcases hA with rfl | rfl <;> first | exact Flat.noRd hb | exact (hb : False).elim))⟩ : St 115 (fun _ => False) W a11 w11 _ _)
 clear hf11 hs11
 clear h10
 refine wms 1 h11 rfl fun a12 h12 => ?_; clear h11
 refine wpList_nil (hK9 _ _ ?_)
 refine wp_seq_k fun K13 hK13 => wp_region_lit ?_
 refine wms 1 h12 rfl fun a14 h14 => ?_; clear h12
 refine wv h14 (r_addN (p := x.l.length) (q := 1) rfl rfl rfl (show x.l.length + 1 < 9223372036854775808 from (by omega))) rfl rfl fun a15 h15 => ?_; clear h14
 refine wl_ex (x_make (n := x.l.length + 1) (false : Bool) h15 sl_66 ti_4 rfl rfl rfl rfl rfl (show 1 * (x.l.length + 1) ≤ 140737488355328 ∧ x.l.length + 1 ≤ 140737488355328 from (by omega)) (fun w => Flat.inner _ _) (fun b => Flat.on _ _) rfl rfl) (wanted_none rfl _) ?_
 rintro a16 w16 ⟨v16, h16⟩; clear h15
 refine wms 1 h16 rfl fun a17 h17 => ?_; clear h16
 refine wpList_nil (hK13 _ _ ?_)
 refine wp_seq_k fun K18 hK18 => ?_
 refine wp_seq_k fun K19 hK19 => wp_region_lit ?_
 refine wms 1 h17 rfl fun a20 h20 => ?_; clear h17
 refine wpList_nil (hK19 _ _ ?_)
 refine wp_block ?_
 refine x_loop (fun m a w => ∃ (i : Nat) (o0 : List Bool), (1 ≤ i ∧ i ≤ x.l.length + 1) ∧ (o0.length = x.l.length + 1) ∧ (nth o0 0 = false) ∧ (∀ j, 1 ≤ j → j < i → nth o0 j = nth s11.l j) ∧ St 115 (fun _ => False) W a w [(0, x.v), (1, .int .i64 ra), (2, .int .i64 rb), (7, .int .i64 ((x.l.length : Nat) : Int)), (8, s11.v), (9, v16), (10, .int .i64 ((i : Nat) : Int))] [.own 4 (⟨v16, o0⟩ : Ls Bool), .own 4 s11, .at_ x] ∧ m = x.l.length + 1 - i) ⟨_, 1, List.replicate (x.l.length + 1) false, (by omega), (by simp), (by simp [nth, List.getD, List.getElem?_replicate]), (fun j h1 h2 => absurd h2 (by omega)), h20.nrm ⟨rfl, rfl, rfl, rfl, rfl, rfl, rfl, trivial⟩ [0, 1, 2] (by decide) ⟨rfl, rfl, rfl, trivial⟩, rfl⟩ ?_
 clear h20
 rintro m21 a21 w21 ⟨i, o0, hi, hl0, hz0, hv0, h21, hm21⟩
 refine wp_seq_k fun K22 hK22 => ?_
 refine wp_seq_k fun K23 hK23 => wp_region_lit ?_
 refine wms 2 h21 rfl fun a24 h24 => ?_; clear h21
 refine wv h24 (r_leqN (p := i) (q := x.l.length) rfl rfl rfl) rfl rfl fun a25 h25 => ?_; clear h24
 refine wpList_nil (hK23 _ _ ?_)
 refine x_cond h25 rfl (fun hb26 => ?_) (fun hb26 => ?_)
 ·
  have hp26 : i ≤ x.l.length := of_decide_eq_true hb26
  refine wp_skip ?_
  refine hK22 _ _ ?_
  refine wp_seq_k fun K27 hK27 => ?_
  refine wp_block ?_
  refine wp_region_lit ?_
  refine wms 4 h25 rfl fun a28 h28 => ?_; clear h25
  have hl29 : s11.l.length ≤ 140737488355328 := (h28.sh.own 1 rfl).len
  refine wv h28 (r_ixN (s := s11) (q := i) sl_66 ti_4 rfl rfl rfl (fun w h => (h.own 1 rfl)) (show i < s11.l.length from (by omega))) rfl rfl fun a30 h30 => ?_; clear h28
  refine wv h30 (r_lde (s := s11) (i := i) (v := .bool (nth s11.l i)) ti_4 rfl rfl rfl (fun w h => (h.own 1 rfl)) (show i < s11.l.length from (by omega)) (Nat.le_of_ble_eq_true rfl) rfl) rfl rfl fun a31 h31 => ?_; clear h30
  have hl32 : o0.length ≤ 140737488355328 := (h31.sh.own 0 rfl).len
  refine wv h31 (r_ixN (s := (⟨v16, o0⟩ : Ls Bool)) (q := i) sl_66 ti_4 rfl rfl rfl (fun w h => (h.own 0 rfl)) (show i < o0.length from (by omega))) rfl rfl fun a33 h33 => ?_; clear h31
  refine wl_ex (x_ste (r := 0) (i := i) (j := 0) (x' := (nth s11.l i : Bool)) h33 ti_4 rfl rfl rfl rfl rfl (show i < o0.length from (by omega)) (Nat.le_of_ble_eq_true rfl) rfl rfl rfl (by intro q hq; obtain rfl : q = 0 := (by omega); rfl) (fun w h => Flat.inner _ _) (fun b hb => (Flat.on _ _ hb).elim)) (wanted_none rfl _) ?_
  rintro a34 w34 h34
  clear h33
  refine wpList_nil (hK27 _ _ ?_)
  refine wp_region_lit ?_
  refine wms 1 h34 rfl fun a35 h35 => ?_; clear h34
  refine wv h35 (r_addN (p := i) (q := 1) rfl rfl rfl (show i + 1 < 9223372036854775808 from (by omega))) rfl rfl fun a36 h36 => ?_; clear h35
  refine wms 1 h36 rfl fun a37 h37 => ?_; clear h36
  refine wpList_nil ?_
  refine x_again ⟨_, ?_, (i + 1), o0.set i (nth s11.l i), ?_, ?_, ?_, ?_, h37.nrm ⟨rfl, rfl, rfl, rfl, rfl, rfl, rfl, trivial⟩ [0, 1, 2] (by decide) ⟨rfl, rfl, rfl, trivial⟩, rfl⟩
  · rw [hm21]; first | omega | (simp only [lens9]; omega)
  · omega
  · rw [List.length_set]; exact hl0
  · rw [nth_setB _ _ _ _ (by omega), if_neg (by omega)]; exact hz0
  · intro j h1 h2; rw [nth_setB _ _ _ _ (by omega)]; split; (rename_i e9; rw [e9]); exact hv0 j h1 (by omega)
 have hp26 : ¬ (i ≤ x.l.length) := of_decide_eq_false hb26
 refine wp_exit ?_
 refine hK18 _ _ ?_
 refine wp_seq_k fun K38 hK38 => ?_
 refine wp_seq_k fun K39 hK39 => wp_region_lit ?_
 refine wms 1 h25 rfl fun a40 h40 => ?_; clear h25
 refine wpList_nil (hK39 _ _ ?_)
 refine wp_block ?_
 refine x_loop (fun m a w => ∃ (o1 : List Bool) (g1 : Bool), (IsB x.l ra rb o1) ∧ (g1 = false → ∀ i, i < x.l.length → IsC x.l ra rb o1 i) ∧ St 115 (fun _ => False) W a w [(0, x.v), (1, .int .i64 ra), (2, .int .i64 rb), (7, .int .i64 ((x.l.length : Nat) : Int)), (8, s11.v), (9, v16), (11, .bool g1)] [.own 4 (⟨v16, o1⟩ : Ls Bool), .own 4 s11, .at_ x] ∧ m = 2 * o1.count true + bN g1) ⟨_, o0, true, (IsB.start hgo hl0 hz0 (fun j h1 h2 => hv0 j h1 (by omega))), (fun h => by cases h), h40.nrm ⟨rfl, rfl, rfl, rfl, rfl, rfl, rfl, trivial⟩ [0, 1, 2] (by decide) ⟨rfl, rfl, rfl, trivial⟩, rfl⟩ ?_
 clear h40
 rintro m41 a41 w41 ⟨o1, g1, hr1, hcl1, h41, hm41⟩
 have hl1 := hr1.len
 refine wp_seq_k fun K42 hK42 => ?_
 refine wp_seq_k fun K43 hK43 => wp_region_lit ?_
 refine wms 1 h41 rfl fun a44 h44 => ?_; clear h41
 refine wpList_nil (hK43 _ _ ?_)
 refine x_cond h44 rfl (fun hb45 => ?_) (fun hb45 => ?_)
 ·
  skip
  refine wp_skip ?_
  refine hK42 _ _ ?_
  refine wp_block ?_
  refine wp_seq_k fun K46 hK46 => wp_region_lit ?_
  refine wms 1 h44 rfl fun a47 h47 => ?_; clear h44
  refine wpList_nil (hK46 _ _ ?_)
  refine wp_seq_k fun K48 hK48 => wp_region_lit ?_
  refine wms 1 h47 rfl fun a49 h49 => ?_; clear h47
  refine wpList_nil (hK48 _ _ ?_)
  refine wp_block ?_
  refine x_loop (fun m a w => ∃ (a2 : Nat) (o2 : List Bool) (g2 : Bool), (a2 ≤ x.l.length) ∧ (IsB x.l ra rb o2) ∧ (o2.count true + bN g2 ≤ o1.count true) ∧ (g2 = false → ∀ i, i < a2 → IsC x.l ra rb o2 i) ∧ St 115 (fun _ => False) W a w [(0, x.v), (1, .int .i64 ra), (2, .int .i64 rb), (7, .int .i64 ((x.l.length : Nat) : Int)), (8, s11.v), (9, v16), (11, .bool g2), (12, .int .i64 ((a2 : Nat) : Int))] [.own 4 (⟨v16, o2⟩ : Ls Bool), .own 4 s11, .at_ x] ∧ m = x.l.length - a2) ⟨_, 0, o1, false, (by omega), (hr1), (Nat.le_refl _), (fun _ i hi => absurd hi (by omega)), h49.nrm ⟨rfl, rfl, rfl, rfl, rfl, rfl, rfl, rfl, trivial⟩ [0, 1, 2] (by decide) ⟨rfl, rfl, rfl, trivial⟩, rfl⟩ ?_
  clear h49
  rintro m50 a50 w50 ⟨a2, o2, g2, ha2, hr2, hn2, hcl2, h50, hm50⟩
  have hl2 := hr2.len
  refine wp_seq_k fun K51 hK51 => ?_
  refine wp_seq_k fun K52 hK52 => wp_region_lit ?_
  refine wms 2 h50 rfl fun a53 h53 => ?_; clear h50
  refine wv h53 (r_lssN (p := a2) (q := x.l.length) rfl rfl rfl) rfl rfl fun a54 h54 => ?_; clear h53
  refine wpList_nil (hK52 _ _ ?_)
  refine x_cond h54 rfl (fun hb55 => ?_) (fun hb55 => ?_)
  ·
   have hp55 : a2 < x.l.length := of_decide_eq_true hb55
   refine wp_skip ?_
   refine hK51 _ _ ?_
   refine wp_seq_k fun K56 hK56 => ?_
   refine wp_block ?_
   refine wp_seq_k fun K57 hK57 => ?_
   refine wp_seq_k fun K58 hK58 => wp_region_lit ?_
   refine wms 2 h54 rfl fun a59 h59 => ?_; clear h54
   have hl60 : s11.l.length ≤ 140737488355328 := (h59.sh.own 1 rfl).len
   refine wv h59 (r_ixN (s := s11) (q := a2) sl_66 ti_4 rfl rfl rfl (fun w h => (h.own 1 rfl)) (show a2 < s11.l.length from (by omega))) rfl rfl fun a61 h61 => ?_; clear h59
   refine wv h61 (r_lde (s := s11) (i := a2) (v := .bool (nth s11.l a2)) ti_4 rfl rfl rfl (fun w h => (h.own 1 rfl)) (show a2 < s11.l.length from (by omega)) (Nat.le_of_ble_eq_true rfl) rfl) rfl rfl fun a62 h62 => ?_; clear h61
   refine wv h62 (r_not rfl rfl) rfl rfl fun a63 h63 => ?_; clear h62
   refine wpList_nil (hK58 _ _ ?_)
   refine x_cond h63 rfl (fun hb64 => ?_) (fun hb64 => ?_)
   ·
    have hn64 : nth s11.l a2 = false := (Bool.not_eq_true' _).mp hb64
    refine wp_exit ?_
    refine hK56 _ _ ?_
    refine wp_region_lit ?_
    refine wms 1 h63 rfl fun a65 h65 => ?_; clear h63
    refine wv h65 (r_addN (p := a2) (q := 1) rfl rfl rfl (show a2 + 1 < 9223372036854775808 from (by omega))) rfl rfl fun a66 h66 => ?_; clear h65
    refine wms 1 h66 rfl fun a67 h67 => ?_; clear h66
    refine wpList_nil ?_
    refine x_again ⟨_, ?_, (a2 + 1), o2, g2, ?_, ?_, ?_, ?_, h67.nrm ⟨rfl, rfl, rfl, rfl, rfl, rfl, rfl, rfl, trivial⟩ [0, 1, 2] (by decide) ⟨rfl, rfl, rfl, trivial⟩, rfl⟩
    · rw [hm50]; first | omega | (simp only [lens9]; omega)
    · omega
    · first | exact hr3 | exact hr2
    · first | exact hn3 | exact hn2
    · first | (intro h i hi; rcases Nat.lt_or_ge i a2 with h9 | h9; exact hcl3 h i h9; obtain rfl : i = a2 := (by omega); intro _ h8 y hy; obtain ⟨j, hj, rfl⟩ := List.getElem_of_mem hy; have h7 := hd3 h h8 j (by omega); rwa [nth_lt _ _ hj] at h7) | (intro h i hi; rcases Nat.lt_or_ge i a2 with h9 | h9; exact hcl2 h i h9; obtain rfl : i = a2 := (by omega); intro h8; exact absurd ((hgo i (by omega)).2 h8) (by rw [(by assumption : nth s11.l i = false)]; decide))
   have hn64 : nth s11.l a2 = true := (Bool.not_eq_false' _).mp hb64
   refine wp_skip ?_
   refine hK57 _ _ ?_
   have hrch : RchC x.l a2 := (hgo a2 (by omega)).1 (by assumption)
   refine wp_seq_k fun K68 hK68 => wp_region_lit ?_
   refine wms 2 h63 rfl fun a69 h69 => ?_; clear h63
   have hl70 : o2.length ≤ 140737488355328 := (h69.sh.own 0 rfl).len
   refine wv h69 (r_ixN (s := (⟨v16, o2⟩ : Ls Bool)) (q := a2) sl_66 ti_4 rfl rfl rfl (fun w h => (h.own 0 rfl)) (show a2 < o2.length from (by omega))) rfl rfl fun a71 h71 => ?_; clear h69
   refine wv h71 (r_lde (s := (⟨v16, o2⟩ : Ls Bool)) (i := a2) (v := .bool (nth o2 a2)) ti_4 rfl rfl rfl (fun w h => (h.own 0 rfl)) (show a2 < o2.length from (by omega)) (Nat.le_of_ble_eq_true rfl) rfl) rfl rfl fun a72 h72 => ?_; clear h71
   refine wms 1 h72 rfl fun a73 h73 => ?_; clear h72
   refine wpList_nil (hK68 _ _ ?_)
   refine wp_seq_k fun K74 hK74 => wp_region_lit ?_
   refine wms 2 h73 rfl fun a75 h75 => ?_; clear h73
   refine wv h75 (r_ixN (s := x) (q := a2) sl_64 ti_73 rfl rfl rfl (fun w h => (h.at 2 rfl)) (show a2 < x.l.length from (by omega))) rfl rfl fun a76 h76 => ?_; clear h75
   refine wv h76 (r_ldew (s := x) (i := a2) (vs := [.int .i64 ((nth x.l a2).op), .int .i64 ((nth x.l a2).a), .int .i64 ((nth x.l a2).b), .int .i64 ((nth x.l a2).c)]) ti_73 rfl rfl rfl (fun w h => (h.at 2 rfl)) (show a2 < x.l.length from (by omega)) (Nat.le_of_ble_eq_true rfl) rfl) rfl rfl fun a77 h77 => ?_; clear h76
   refine wl_ex (x_call h77 bd_84 rfl rfl rfl rfl rfl (rWrites_c (nth x.l a2) _ (hc.op a2 (by omega)))) (wanted_none rfl _) ?_
   rintro a78 w78 ⟨_, ⟨rfl, hs78⟩, hf78⟩
   have h78 : St 115 (fun _ => False) W a78 w78 _ _ := ⟨hf78, h77.sh.call0 hs78⟩
   clear hf78 hs78
   clear h77
   refine wms 1 h78 rfl fun a79 h79 => ?_; clear h78
   refine wpList_nil (hK74 _ _ ?_)
   refine x_seq (fun a w => ∃ (is : Bool), (is = isB (nth x.l a2) ra rb (nth o2 a2)) ∧ St 115 (fun _ => False) W a w [(0, x.v), (1, .int .i64 ra), (2, .int .i64 rb), (7, .int .i64 ((x.l.length : Nat) : Int)), (8, s11.v), (9, v16), (11, .bool g2), (12, .int .i64 ((a2 : Nat) : Int)), (13, .bool is)] [.own 4 (⟨v16, o2⟩ : Ls Bool), .own 4 s11, .at_ x]) ?_ ?_
   ·
    refine wp_seq_k fun K80 hK80 => wp_region_lit ?_
    refine wms 2 h79 rfl fun a81 h81 => ?_; clear h79
    refine wv h81 (r_eqlI (p := wrG (nth x.l a2)) (q := ra) rfl rfl rfl) rfl rfl fun a82 h82 => ?_; clear h81
    refine wms 1 h82 rfl fun a83 h83 => ?_; clear h82
    rcases Bool.eq_false_or_eq_true (decide (wrG (nth x.l a2) = ra)) with hb84 | hb84
    ·
     have hp84 : wrG (nth x.l a2) = ra := of_decide_eq_true hb84
     refine wl_skip h83 (wanted_no h83.fr rfl rfl rfl rfl hb84) rfl rfl fun a85 h85 => ?_; clear h83
     refine wl_skip h85 (wanted_no h85.fr rfl rfl rfl rfl hb84) rfl rfl fun a86 h86 => ?_; clear h85
     refine wl_skip h86 (wanted_no h86.fr rfl rfl rfl rfl hb84) rfl rfl fun a87 h87 => ?_; clear h86
     refine wv h87 (r_pickT rfl rfl hb84 rfl) rfl rfl fun a88 h88 => ?_; clear h87
     refine wpList_nil (hK80 _ _ ?_)
     have h89 : St 115 (fun _ => False) W a88 w78 [(0, x.v), (1, .int .i64 ra), (2, .int .i64 rb), (7, .int .i64 ((x.l.length : Nat) : Int)), (8, s11.v), (9, v16), (11, .bool g2), (12, .int .i64 ((a2 : Nat) : Int)), (13, .bool (nth o2 a2)), (63, .bool true)] [.own 4 (⟨v16, o2⟩ : Ls Bool), .own 4 s11, .at_ x] := h88.nrm ⟨rfl, rfl, rfl, rfl, rfl, rfl, rfl, rfl, rfl, rfl, trivial⟩ [0, 1, 2] (by decide) ⟨rfl, rfl, rfl, trivial⟩
     clear h88
     refine x_condT h89 rfl rfl ?_
     refine wp_region_lit ?_
     refine wms 2 h89 rfl fun a90 h90 => ?_; clear h89
     refine wv h90 (r_ixN (s := x) (q := a2) sl_64 ti_73 rfl rfl rfl (fun w h => (h.at 2 rfl)) (show a2 < x.l.length from (by omega))) rfl rfl fun a91 h91 => ?_; clear h90
     refine wv h91 (r_fieldE (r := 0) fl_73_0 rfl rfl rfl) rfl rfl fun a92 h92 => ?_; clear h91
     refine wv h92 (r_lde (s := x) (i := a2) (v := .int .i64 ((nth x.l a2).op)) ti_3 rfl rfl rfl (fun w h => (h.at 2 rfl)) (show a2 < x.l.length from (by omega)) (Nat.le_of_ble_eq_true rfl) rfl) rfl rfl fun a93 h93 => ?_; clear h92
     refine wv h93 (r_eqlI (p := (nth x.l a2).op) (q := 2) rfl rfl rfl) rfl rfl fun a94 h94 => ?_; clear h93
     refine wms 1 h94 rfl fun a95 h95 => ?_; clear h94
     rcases Bool.eq_false_or_eq_true (decide ((nth x.l a2).op = 2)) with hb96 | hb96
     ·
      have hp96 : (nth x.l a2).op = 2 := of_decide_eq_true hb96
      refine wl_val h95 (r_move rfl rfl) (wanted_yes h95.fr rfl rfl rfl rfl hb96) rfl rfl fun a97 h97 => ?_; clear h95
      refine wl_val h97 (r_move rfl rfl) (wanted_yes h97.fr rfl rfl rfl rfl hb96) rfl rfl fun a98 h98 => ?_; clear h97
      refine wl_val h98 (r_ixN (s := x) (q := a2) sl_64 ti_73 rfl rfl rfl (fun w h => (h.at 2 rfl)) (show a2 < x.l.length from (by omega))) (wanted_yes h98.fr rfl rfl rfl rfl hb96) rfl rfl fun a99 h99 => ?_; clear h98
      refine wl_val h99 (r_fieldE (r := 1) fl_73_1 rfl rfl rfl) (wanted_yes h99.fr rfl rfl rfl rfl hb96) rfl rfl fun a100 h100 => ?_; clear h99
      refine wl_val h100 (r_lde (s := x) (i := a2) (v := .int .i64 ((nth x.l a2).a)) ti_3 rfl rfl rfl (fun w h => (h.at 2 rfl)) (show a2 < x.l.length from (by omega)) (Nat.le_of_ble_eq_true rfl) rfl) (wanted_yes h100.fr rfl rfl rfl rfl hb96) rfl rfl fun a101 h101 => ?_; clear h100
      refine wl_val h101 (r_move rfl rfl) (wanted_yes h101.fr rfl rfl rfl rfl hb96) rfl rfl fun a102 h102 => ?_; clear h101
      refine wl_val h102 (r_eqlI (p := (nth x.l a2).a) (q := ra) rfl rfl rfl) (wanted_yes h102.fr rfl rfl rfl rfl hb96) rfl rfl fun a103 h103 => ?_; clear h102
      refine wv h103 (r_pickT rfl rfl hb96 rfl) rfl rfl fun a104 h104 => ?_; clear h103
      refine wms 1 h104 rfl fun a105 h105 => ?_; clear h104
      rcases Bool.eq_false_or_eq_true (decide ((nth x.l a2).a = ra)) with hb106 | hb106
      ·
       have hp106 : (nth x.l a2).a = ra := of_decide_eq_true hb106
       refine wl_val h105 (r_move rfl rfl) (wanted_yes h105.fr rfl rfl rfl rfl hb106) rfl rfl fun a107 h107 => ?_; clear h105
       refine wl_val h107 (r_move rfl rfl) (wanted_yes h107.fr rfl rfl rfl rfl hb106) rfl rfl fun a108 h108 => ?_; clear h107
       refine wl_val h108 (r_ixN (s := x) (q := a2) sl_64 ti_73 rfl rfl rfl (fun w h => (h.at 2 rfl)) (show a2 < x.l.length from (by omega))) (wanted_yes h108.fr rfl rfl rfl rfl hb106) rfl rfl fun a109 h109 => ?_; clear h108
       refine wl_val h109 (r_fieldE (r := 2) fl_73_2 rfl rfl rfl) (wanted_yes h109.fr rfl rfl rfl rfl hb106) rfl rfl fun a110 h110 => ?_; clear h109
       refine wl_val h110 (r_lde (s := x) (i := a2) (v := .int .i64 ((nth x.l a2).b)) ti_3 rfl rfl rfl (fun w h => (h.at 2 rfl)) (show a2 < x.l.length from (by omega)) (Nat.le_of_ble_eq_true rfl) rfl) (wanted_yes h110.fr rfl rfl rfl rfl hb106) rfl rfl fun a111 h111 => ?_; clear h110
       refine wl_val h111 (r_move rfl rfl) (wanted_yes h111.fr rfl rfl rfl rfl hb106) rfl rfl fun a112 h112 => ?_; clear h111
       refine wl_val h112 (r_eqlI (p := (nth x.l a2).b) (q := rb) rfl rfl rfl) (wanted_yes h112.fr rfl rfl rfl rfl hb106) rfl rfl fun a113 h113 => ?_; clear h112
       refine wv h113 (r_pickT rfl rfl hb106 rfl) rfl rfl fun a114 h114 => ?_; clear h113
       refine wms 1 h114 rfl fun a115 h115 => ?_; clear h114
       refine wpList_nil ?_
       refine x_join ⟨decide ((nth x.l a2).b = rb), ?_, h115.nrm ⟨rfl, rfl, rfl, rfl, rfl, rfl, rfl, rfl, rfl, trivial⟩ [0, 1, 2] (by decide) ⟨rfl, rfl, rfl, trivial⟩⟩
       · unfold isB; first | (rw [if_neg (by omega)]; done) | (rw [if_pos (by omega)]; rw [Bool.eq_iff_iff]; simp_all; done) | (rw [if_pos (by omega)]; simp_all; done)
      have hp106 : ¬ ((nth x.l a2).a = ra) := of_decide_eq_false hb106
      refine wl_skip h105 (wanted_no h105.fr rfl rfl rfl rfl hb106) rfl rfl fun a116 h116 => ?_; clear h105
      refine wl_skip h116 (wanted_no h116.fr rfl rfl rfl rfl hb106) rfl rfl fun a117 h117 => ?_; clear h116
      refine wl_skip h117 (wanted_no h117.fr rfl rfl rfl rfl hb106) rfl rfl fun a118 h118 => ?_; clear h117
      refine wl_skip h118 (wanted_no h118.fr rfl rfl rfl rfl hb106) rfl rfl fun a119 h119 => ?_; clear h118
      refine wl_skip h119 (wanted_no h119.fr rfl rfl rfl rfl hb106) rfl rfl fun a120 h120 => ?_; clear h119
      refine wl_skip h120 (wanted_no h120.fr rfl rfl rfl rfl hb106) rfl rfl fun a121 h121 => ?_; clear h120
      refine wl_skip h121 (wanted_no h121.fr rfl rfl rfl rfl hb106) rfl rfl fun a122 h122 => ?_; clear h121
      refine wv h122 (r_pickF rfl rfl hb106 rfl) rfl rfl fun a123 h123 => ?_; clear h122
      refine wms 1 h123 rfl fun a124 h124 => ?_; clear h123
      refine wpList_nil ?_
      refine x_join ⟨false, ?_, h124.nrm ⟨rfl, rfl, rfl, rfl, rfl, rfl, rfl, rfl, rfl, trivial⟩ [0, 1, 2] (by decide) ⟨rfl, rfl, rfl, trivial⟩⟩
      · unfold isB; first | (rw [if_neg (by omega)]; done) | (rw [if_pos (by omega)]; rw [Bool.eq_iff_iff]; simp_all; done) | (rw [if_pos (by omega)]; simp_all; done)
     have hp96 : ¬ ((nth x.l a2).op = 2) := of_decide_eq_false hb96
     refine wl_skip h95 (wanted_no h95.fr rfl rfl rfl rfl hb96) rfl rfl fun a125 h125 => ?_; clear h95
     refine wl_skip h125 (wanted_no h125.fr rfl rfl rfl rfl hb96) rfl rfl fun a126 h126 => ?_; clear h125
     refine wl_skip h126 (wanted_no h126.fr rfl rfl rfl rfl hb96) rfl rfl fun a127 h127 => ?_; clear h126
     refine wl_skip h127 (wanted_no h127.fr rfl rfl rfl rfl hb96) rfl rfl fun a128 h128 => ?_; clear h127
     refine wl_skip h128 (wanted_no h128.fr rfl rfl rfl rfl hb96) rfl rfl fun a129 h129 => ?_; clear h128
     refine wl_skip h129 (wanted_no h129.fr rfl rfl rfl rfl hb96) rfl rfl fun a130 h130 => ?_; clear h129
     refine wl_skip h130 (wanted_no h130.fr rfl rfl rfl rfl hb96) rfl rfl fun a131 h131 => ?_; clear h130
     refine wv h131 (r_pickF rfl rfl hb96 rfl) rfl rfl fun a132 h132 => ?_; clear h131
     refine wms 1 h132 rfl fun a133 h133 => ?_; clear h132
     refine wl_skip h133 (wanted_no h133.fr rfl rfl rfl rfl rfl) rfl rfl fun a134 h134 => ?_; clear h133
     refine wl_skip h134 (wanted_no h134.fr rfl rfl rfl rfl rfl) rfl rfl fun a135 h135 => ?_; clear h134
     refine wl_skip h135 (wanted_no h135.fr rfl rfl rfl rfl rfl) rfl rfl fun a136 h136 => ?_; clear h135
     refine wl_skip h136 (wanted_no h136.fr rfl rfl rfl rfl rfl) rfl rfl fun a137 h137 => ?_; clear h136
     refine wl_skip h137 (wanted_no h137.fr rfl rfl rfl rfl rfl) rfl rfl fun a138 h138 => ?_; clear h137
     refine wl_skip h138 (wanted_no h138.fr rfl rfl rfl rfl rfl) rfl rfl fun a139 h139 => ?_; clear h138
     refine wl_skip h139 (wanted_no h139.fr rfl rfl rfl rfl rfl) rfl rfl fun a140 h140 => ?_; clear h139
     refine wv h140 (r_pickF rfl rfl rfl rfl) rfl rfl fun a141 h141 => ?_; clear h140
     refine wms 1 h141 rfl fun a142 h142 => ?_; clear h141
     refine wpList_nil ?_
     refine x_join ⟨false, ?_, h142.nrm ⟨rfl, rfl, rfl, rfl, rfl, rfl, rfl, rfl, rfl, trivial⟩ [0, 1, 2] (by decide) ⟨rfl, rfl, rfl, trivial⟩⟩
     · unfold isB; first | (rw [if_neg (by omega)]; done) | (rw [if_pos (by omega)]; rw [Bool.eq_iff_iff]; simp_all; done) | (rw [if_pos (by omega)]; simp_all; done)
    have hp84 : ¬ (wrG (nth x.l a2) = ra) := of_decide_eq_false hb84
    refine wl_val h83 (r_move rfl rfl) (wanted_yes h83.fr rfl rfl rfl rfl hb84) rfl rfl fun a143 h143 => ?_; clear h83
    refine wl_val h143 (r_move rfl rfl) (wanted_yes h143.fr rfl rfl rfl rfl hb84) rfl rfl fun a144 h144 => ?_; clear h143
    refine wl_val h144 (r_eqlI (p := wrG (nth x.l a2)) (q := rb) rfl rfl rfl) (wanted_yes h144.fr rfl rfl rfl rfl hb84) rfl rfl fun a145 h145 => ?_; clear h144
    refine wv h145 (r_pickF rfl rfl hb84 rfl) rfl rfl fun a146 h146 => ?_; clear h145
    refine wpList_nil (hK80 _ _ ?_)
    have h147 : St 115 (fun _ => False) W a146 w78 [(0, x.v), (1, .int .i64 ra), (2, .int .i64 rb), (7, .int .i64 ((x.l.length : Nat) : Int)), (8, s11.v), (9, v16), (11, .bool g2), (12, .int .i64 ((a2 : Nat) : Int)), (13, .bool (nth o2 a2)), (63, .bool (decide (wrG (nth x.l a2) = rb)))] [.own 4 (⟨v16, o2⟩ : Ls Bool), .own 4 s11, .at_ x] := h146.nrm ⟨rfl, rfl, rfl, rfl, rfl, rfl, rfl, rfl, rfl, rfl, trivial⟩ [0, 1, 2] (by decide) ⟨rfl, rfl, rfl, trivial⟩
    clear h146
    refine x_cond h147 rfl (fun hb148 => ?_) (fun hb148 => ?_)
    ·
     have hp148 : wrG (nth x.l a2) = rb := of_decide_eq_true hb148
     refine wp_region_lit ?_
     refine wms 2 h147 rfl fun a149 h149 => ?_; clear h147
     refine wv h149 (r_ixN (s := x) (q := a2) sl_64 ti_73 rfl rfl rfl (fun w h => (h.at 2 rfl)) (show a2 < x.l.length from (by omega))) rfl rfl fun a150 h150 => ?_; clear h149
     refine wv h150 (r_fieldE (r := 0) fl_73_0 rfl rfl rfl) rfl rfl fun a151 h151 => ?_; clear h150
     refine wv h151 (r_lde (s := x) (i := a2) (v := .int .i64 ((nth x.l a2).op)) ti_3 rfl rfl rfl (fun w h => (h.at 2 rfl)) (show a2 < x.l.length from (by omega)) (Nat.le_of_ble_eq_true rfl) rfl) rfl rfl fun a152 h152 => ?_; clear h151
     refine wv h152 (r_eqlI (p := (nth x.l a2).op) (q := 2) rfl rfl rfl) rfl rfl fun a153 h153 => ?_; clear h152
     refine wms 1 h153 rfl fun a154 h154 => ?_; clear h153
     rcases Bool.eq_false_or_eq_true (decide ((nth x.l a2).op = 2)) with hb155 | hb155
     ·
      have hp155 : (nth x.l a2).op = 2 := of_decide_eq_true hb155
      refine wl_val h154 (r_move rfl rfl) (wanted_yes h154.fr rfl rfl rfl rfl hb155) rfl rfl fun a156 h156 => ?_; clear h154
      refine wl_val h156 (r_move rfl rfl) (wanted_yes h156.fr rfl rfl rfl rfl hb155) rfl rfl fun a157 h157 => ?_; clear h156
      refine wl_val h157 (r_ixN (s := x) (q := a2) sl_64 ti_73 rfl rfl rfl (fun w h => (h.at 2 rfl)) (show a2 < x.l.length from (by omega))) (wanted_yes h157.fr rfl rfl rfl rfl hb155) rfl rfl fun a158 h158 => ?_; clear h157
      refine wl_val h158 (r_fieldE (r := 1) fl_73_1 rfl rfl rfl) (wanted_yes h158.fr rfl rfl rfl rfl hb155) rfl rfl fun a159 h159 => ?_; clear h158
      refine wl_val h159 (r_lde (s := x) (i := a2) (v := .int .i64 ((nth x.l a2).a)) ti_3 rfl rfl rfl (fun w h => (h.at 2 rfl)) (show a2 < x.l.length from (by omega)) (Nat.le_of_ble_eq_true rfl) rfl) (wanted_yes h159.fr rfl rfl rfl rfl hb155) rfl rfl fun a160 h160 => ?_; clear h159
      refine wl_val h160 (r_move rfl rfl) (wanted_yes h160.fr rfl rfl rfl rfl hb155) rfl rfl fun a161 h161 => ?_; clear h160
      refine wl_val h161 (r_eqlI (p := (nth x.l a2).a) (q := ra) rfl rfl rfl) (wanted_yes h161.fr rfl rfl rfl rfl hb155) rfl rfl fun a162 h162 => ?_; clear h161
      refine wv h162 (r_pickT rfl rfl hb155 rfl) rfl rfl fun a163 h163 => ?_; clear h162
      refine wms 1 h163 rfl fun a164 h164 => ?_; clear h163
      rcases Bool.eq_false_or_eq_true (decide ((nth x.l a2).a = ra)) with hb165 | hb165
      ·
       have hp165 : (nth x.l a2).a = ra := of_decide_eq_true hb165
       refine wl_val h164 (r_move rfl rfl) (wanted_yes h164.fr rfl rfl rfl rfl hb165) rfl rfl fun a166 h166 => ?_; clear h164
       refine wl_val h166 (r_move rfl rfl) (wanted_yes h166.fr rfl rfl rfl rfl hb165) rfl rfl fun a167 h167 => ?_; clear h166
       refine wl_val h167 (r_ixN (s := x) (q := a2) sl_64 ti_73 rfl rfl rfl (fun w h => (h.at 2 rfl)) (show a2 < x.l.length from (by omega))) (wanted_yes h167.fr rfl rfl rfl rfl hb165) rfl rfl fun a168 h168 => ?_; clear h167
       refine wl_val h168 (r_fieldE (r := 2) fl_73_2 rfl rfl rfl) (wanted_yes h168.fr rfl rfl rfl rfl hb165) rfl rfl fun a169 h169 => ?_; clear h168
       refine wl_val h169 (r_lde (s := x) (i := a2) (v := .int .i64 ((nth x.l a2).b)) ti_3 rfl rfl rfl (fun w h => (h.at 2 rfl)) (show a2 < x.l.length from (by omega)) (Nat.le_of_ble_eq_true rfl) rfl) (wanted_yes h169.fr rfl rfl rfl rfl hb165) rfl rfl fun a170 h170 => ?_; clear h169
       refine wl_val h170 (r_move rfl rfl) (wanted_yes h170.fr rfl rfl rfl rfl hb165) rfl rfl fun a171 h171 => ?_; clear h170
       refine wl_val h171 (r_eqlI (p := (nth x.l a2).b) (q := rb) rfl rfl rfl) (wanted_yes h171.fr rfl rfl rfl rfl hb165) rfl rfl fun a172 h172 => ?_; clear h171
       refine wv h172 (r_pickT rfl rfl hb165 rfl) rfl rfl fun a173 h173 => ?_; clear h172
       refine wms 1 h173 rfl fun a174 h174 => ?_; clear h173
       refine wpList_nil ?_
       refine x_join ⟨decide ((nth x.l a2).b = rb), ?_, h174.nrm ⟨rfl, rfl, rfl, rfl, rfl, rfl, rfl, rfl, rfl, trivial⟩ [0, 1, 2] (by decide) ⟨rfl, rfl, rfl, trivial⟩⟩
       · unfold isB; first | (rw [if_neg (by omega)]; done) | (rw [if_pos (by omega)]; rw [Bool.eq_iff_iff]; simp_all; done) | (rw [if_pos (by omega)]; simp_all; done)
      have hp165 : ¬ ((nth x.l a2).a = ra) := of_decide_eq_false hb165
      refine wl_skip h164 (wanted_no h164.fr rfl rfl rfl rfl hb165) rfl rfl fun a175 h175 => ?_; clear h164
      refine wl_skip h175 (wanted_no h175.fr rfl rfl rfl rfl hb165) rfl rfl fun a176 h176 => ?_; clear h175
      refine wl_skip h176 (wanted_no h176.fr rfl rfl rfl rfl hb165) rfl rfl fun a177 h177 => ?_; clear h176
      refine wl_skip h177 (wanted_no h177.fr rfl rfl rfl rfl hb165) rfl rfl fun a178 h178 => ?_; clear h177
      refine wl_skip h178 (wanted_no h178.fr rfl rfl rfl rfl hb165) rfl rfl fun a179 h179 => ?_; clear h178
      refine wl_skip h179 (wanted_no h179.fr rfl rfl rfl rfl hb165) rfl rfl fun a180 h180 => ?_; clear h179
      refine wl_skip h180 (wanted_no h180.fr rfl rfl rfl rfl hb165) rfl rfl fun a181 h181 => ?_; clear h180
      refine wv h181 (r_pickF rfl rfl hb165 rfl) rfl rfl fun a182 h182 => ?_; clear h181
      refine wms 1 h182 rfl fun a183 h183 => ?_; clear h182
      refine wpList_nil ?_
      refine x_join ⟨false, ?_, h183.nrm ⟨rfl, rfl, rfl, rfl, rfl, rfl, rfl, rfl, rfl, trivial⟩ [0, 1, 2] (by decide) ⟨rfl, rfl, rfl, trivial⟩⟩
      · unfold isB; first | (rw [if_neg (by omega)]; done) | (rw [if_pos (by omega)]; rw [Bool.eq_iff_iff]; simp_all; done) | (rw [if_pos (by omega)]; simp_all; done)
     have hp155 : ¬ ((nth x.l a2).op = 2) := of_decide_eq_false hb155
     refine wl_skip h154 (wanted_no h154.fr rfl rfl rfl rfl hb155) rfl rfl fun a184 h184 => ?_; clear h154
     refine wl_skip h184 (wanted_no h184.fr rfl rfl rfl rfl hb155) rfl rfl fun a185 h185 => ?_; clear h184
     refine wl_skip h185 (wanted_no h185.fr rfl rfl rfl rfl hb155) rfl rfl fun a186 h186 => ?_; clear h185
     refine wl_skip h186 (wanted_no h186.fr rfl rfl rfl rfl hb155) rfl rfl fun a187 h187 => ?_; clear h186
     refine wl_skip h187 (wanted_no h187.fr rfl rfl rfl rfl hb155) rfl rfl fun a188 h188 => ?_; clear h187
     refine wl_skip h188 (wanted_no h188.fr rfl rfl rfl rfl hb155) rfl rfl fun a189 h189 => ?_; clear h188
     refine wl_skip h189 (wanted_no h189.fr rfl rfl rfl rfl hb155) rfl rfl fun a190 h190 => ?_; clear h189
     refine wv h190 (r_pickF rfl rfl hb155 rfl) rfl rfl fun a191 h191 => ?_; clear h190
     refine wms 1 h191 rfl fun a192 h192 => ?_; clear h191
     refine wl_skip h192 (wanted_no h192.fr rfl rfl rfl rfl rfl) rfl rfl fun a193 h193 => ?_; clear h192
     refine wl_skip h193 (wanted_no h193.fr rfl rfl rfl rfl rfl) rfl rfl fun a194 h194 => ?_; clear h193
     refine wl_skip h194 (wanted_no h194.fr rfl rfl rfl rfl rfl) rfl rfl fun a195 h195 => ?_; clear h194
     refine wl_skip h195 (wanted_no h195.fr rfl rfl rfl rfl rfl) rfl rfl fun a196 h196 => ?_; clear h195
     refine wl_skip h196 (wanted_no h196.fr rfl rfl rfl rfl rfl) rfl rfl fun a197 h197 => ?_; clear h196
     refine wl_skip h197 (wanted_no h197.fr rfl rfl rfl rfl rfl) rfl rfl fun a198 h198 => ?_; clear h197
     refine wl_skip h198 (wanted_no h198.fr rfl rfl rfl rfl rfl) rfl rfl fun a199 h199 => ?_; clear h198
     refine wv h199 (r_pickF rfl rfl rfl rfl) rfl rfl fun a200 h200 => ?_; clear h199
     refine wms 1 h200 rfl fun a201 h201 => ?_; clear h200
     refine wpList_nil ?_
     refine x_join ⟨false, ?_, h201.nrm ⟨rfl, rfl, rfl, rfl, rfl, rfl, rfl, rfl, rfl, trivial⟩ [0, 1, 2] (by decide) ⟨rfl, rfl, rfl, trivial⟩⟩
     · unfold isB; first | (rw [if_neg (by omega)]; done) | (rw [if_pos (by omega)]; rw [Bool.eq_iff_iff]; simp_all; done) | (rw [if_pos (by omega)]; simp_all; done)
    have hp148 : ¬ (wrG (nth x.l a2) = rb) := of_decide_eq_false hb148
    refine wp_skip ?_
    refine x_join ⟨nth o2 a2, ?_, h147.nrm ⟨rfl, rfl, rfl, rfl, rfl, rfl, rfl, rfl, rfl, trivial⟩ [0, 1, 2] (by decide) ⟨rfl, rfl, rfl, trivial⟩⟩
    · unfold isB; first | (rw [if_neg (by omega)]; done) | (rw [if_pos (by omega)]; rw [Bool.eq_iff_iff]; simp_all; done) | (rw [if_pos (by omega)]; simp_all; done)
   clear h79
   rintro a202 w202 ⟨is, hisB, h202⟩
   have hno : is = false → ∀ y ∈ nextsL x.l a2, ¬ SameI x.l ra rb y.toNat := is_no hr2 (by omega) hrch hisB
   refine wp_seq_k fun K203 hK203 => wp_region_lit ?_
   refine wms 2 h202 rfl fun a204 h204 => ?_; clear h202
   refine wl_ex (x_call h204 bd_85 rfl rfl rfl rfl rfl (rNexts_c x a2 _ (h204.sh.at 2 rfl) (by omega) (by omega))) (wanted_none rfl _) ?_
   rintro a205 w205 ⟨_, ⟨s205, rfl, hs205⟩, hf205⟩
   have h205 := (⟨hf205, h204.sh.call hs205 (by intro A hA b hb; first | (simp at hA; done) | (simp at hA; subst hA; first | exact Flat.noRd hb | exact (hb : False).elim) | (simp at hA; rcases hA with rfl | rfl <;> first | exact Flat.noRd hb | exact (hb : False).elim))⟩ : St 115 (fun _ => False) W a205 w205 _ _)
   clear hf205 hs205
   clear h204
   refine wms 1 h205 rfl fun a206 h206 => ?_; clear h205
   refine wpList_nil (hK203 _ _ ?_)
   refine wp_seq_k fun K207 hK207 => wp_region_lit ?_
   refine wms 1 h206 rfl fun a208 h208 => ?_; clear h206
   refine wpList_nil (hK207 _ _ ?_)
   refine wp_block ?_
   refine x_loop (fun m a w => ∃ (k : Nat) (o3 : List Bool) (g3 : Bool), (k ≤ (nextsL x.l a2).length) ∧ (IsB x.l ra rb o3) ∧ (o3.count true + bN g3 ≤ o1.count true) ∧ (g3 = false → ∀ i, i < a2 → IsC x.l ra rb o3 i) ∧ (g3 = false → o3 = o2) ∧ (g3 = false → isB (nth x.l a2) ra rb (nth o3 a2) = false → ∀ j, j < k → nth o3 (nth (nextsL x.l a2) j).toNat = false) ∧ St 115 (fun _ => False) W a w [(0, x.v), (1, .int .i64 ra), (2, .int .i64 rb), (7, .int .i64 ((x.l.length : Nat) : Int)), (8, s11.v), (9, v16), (11, .bool g3), (12, .int .i64 ((a2 : Nat) : Int)), (13, .bool is), (15, s205.v), (16, .int .i64 ((k : Nat) : Int))] [.own 3 (⟨s205.v, nextsL x.l a2⟩ : Ls Int), .own 4 (⟨v16, o3⟩ : Ls Bool), .own 4 s11, .at_ x] ∧ m = (nextsL x.l a2).length - k) ⟨_, 0, o2, g2, (by omega), (hr2), (hn2), (hcl2), (fun _ => rfl), (fun _ _ j hj => absurd hj (by omega)), h208.nrm ⟨rfl, rfl, rfl, rfl, rfl, rfl, rfl, rfl, rfl, rfl, rfl, trivial⟩ [0, 1, 2, 3] (by decide) ⟨rfl, rfl, rfl, rfl, trivial⟩, rfl⟩ ?_
   clear h208
   rintro m209 a209 w209 ⟨k, o3, g3, hk, hr3, hn3, hcl3, hsm, hd3, h209, hm209⟩
   have hl3 := hr3.len
   refine wp_seq_k fun K210 hK210 => ?_
   refine wp_seq_k fun K211 hK211 => wp_region_lit ?_
   refine wms 2 h209 rfl fun a212 h212 => ?_; clear h209
   have hl213 : (nextsL x.l a2).length ≤ 140737488355328 := (h212.sh.own 0 rfl).len
   refine wv h212 (r_len (s := (⟨s205.v, nextsL x.l a2⟩ : Ls Int)) (n := (nextsL x.l a2).length) sl_24 rfl rfl (fun w h => (h.own 0 rfl)) rfl) rfl rfl fun a214 h214 => ?_; clear h212
   refine wv h214 (r_lssN (p := k) (q := (nextsL x.l a2).length) rfl rfl rfl) rfl rfl fun a215 h215 => ?_; clear h214
   refine wpList_nil (hK211 _ _ ?_)
   refine x_cond h215 rfl (fun hb216 => ?_) (fun hb216 => ?_)
   ·
    have hp216 : k < (nextsL x.l a2).length := of_decide_eq_true hb216
    refine wp_skip ?_
    refine hK210 _ _ ?_
    have hnx := hc.nx a2 (by omega) _ (nth_mem (nextsL x.l a2) k (by omega))
    refine wp_seq_k fun K217 hK217 => ?_
    refine wp_block ?_
    refine wp_seq_k fun K218 hK218 => wp_region_lit ?_
    refine wms 1 h215 rfl fun a219 h219 => ?_; clear h215
    refine wv h219 (r_not rfl rfl) rfl rfl fun a220 h220 => ?_; clear h219
    refine wms 1 h220 rfl fun a221 h221 => ?_; clear h220
    rcases Bool.eq_false_or_eq_true (!is) with hb222 | hb222
    ·
     have hn222 : is = false := (Bool.not_eq_true' _).mp hb222
     refine wl_val h221 (r_move rfl rfl) (wanted_yes h221.fr rfl rfl rfl rfl hb222) rfl rfl fun a223 h223 => ?_; clear h221
     refine wl_val h223 (r_move rfl rfl) (wanted_yes h223.fr rfl rfl rfl rfl hb222) rfl rfl fun a224 h224 => ?_; clear h223
     refine wl_val h224 (r_move rfl rfl) (wanted_yes h224.fr rfl rfl rfl rfl hb222) rfl rfl fun a225 h225 => ?_; clear h224
     refine wl_val h225 (r_ixN (s := (⟨s205.v, nextsL x.l a2⟩ : Ls Int)) (q := k) sl_24 ti_3 rfl rfl rfl (fun w h => (h.own 0 rfl)) (show k < (nextsL x.l a2).length from (by omega))) (wanted_yes h225.fr rfl rfl rfl rfl hb222) rfl rfl fun a226 h226 => ?_; clear h225
     refine wl_val h226 (r_lde (s := (⟨s205.v, nextsL x.l a2⟩ : Ls Int)) (i := k) (v := .int .i64 (nth (nextsL x.l a2) k)) ti_3 rfl rfl rfl (fun w h => (h.own 0 rfl)) (show k < (nextsL x.l a2).length from (by omega)) (Nat.le_of_ble_eq_true rfl) rfl) (wanted_yes h226.fr rfl rfl rfl rfl hb222) rfl rfl fun a227 h227 => ?_; clear h226
     have hl228 : o3.length ≤ 140737488355328 := (h227.sh.own 1 rfl).len
     refine wl_val h227 (r_ixI (s := (⟨v16, o3⟩ : Ls Bool)) (q := nth (nextsL x.l a2) k) sl_66 ti_4 rfl rfl rfl (fun w h => (h.own 1 rfl)) (show 0 ≤ nth (nextsL x.l a2) k ∧ nth (nextsL x.l a2) k < o3.length from (by omega))) (wanted_yes h227.fr rfl rfl rfl rfl hb222) rfl rfl fun a229 h229 => ?_; clear h227
     refine wl_val h229 (r_lde (s := (⟨v16, o3⟩ : Ls Bool)) (i := (nth (nextsL x.l a2) k).toNat) (v := .bool (nth o3 ((nth (nextsL x.l a2) k).toNat))) ti_4 rfl rfl rfl (fun w h => (h.own 1 rfl)) (show (nth (nextsL x.l a2) k).toNat < o3.length from (by omega)) (Nat.le_of_ble_eq_true rfl) rfl) (wanted_yes h229.fr rfl rfl rfl rfl hb222) rfl rfl fun a230 h230 => ?_; clear h229
     refine wv h230 (r_pickT rfl rfl hb222 rfl) rfl rfl fun a231 h231 => ?_; clear h230
     refine wpList_nil (hK218 _ _ ?_)
     refine x_cond h231 rfl (fun hb232 => ?_) (fun hb232 => ?_)
     ·
      skip
      refine wp_seq_k fun K233 hK233 => wp_region_lit ?_
      refine wms 3 h231 rfl fun a234 h234 => ?_; clear h231
      refine wv h234 (r_ixN (s := (⟨s205.v, nextsL x.l a2⟩ : Ls Int)) (q := k) sl_24 ti_3 rfl rfl rfl (fun w h => (h.own 0 rfl)) (show k < (nextsL x.l a2).length from (by omega))) rfl rfl fun a235 h235 => ?_; clear h234
      refine wv h235 (r_lde (s := (⟨s205.v, nextsL x.l a2⟩ : Ls Int)) (i := k) (v := .int .i64 (nth (nextsL x.l a2) k)) ti_3 rfl rfl rfl (fun w h => (h.own 0 rfl)) (show k < (nextsL x.l a2).length from (by omega)) (Nat.le_of_ble_eq_true rfl) rfl) rfl rfl fun a236 h236 => ?_; clear h235
      refine wv h236 (r_ixI (s := (⟨v16, o3⟩ : Ls Bool)) (q := nth (nextsL x.l a2) k) sl_66 ti_4 rfl rfl rfl (fun w h => (h.own 1 rfl)) (show 0 ≤ nth (nextsL x.l a2) k ∧ nth (nextsL x.l a2) k < o3.length from (by omega))) rfl rfl fun a237 h237 => ?_; clear h236
      refine wl_ex (x_ste (r := 1) (i := (nth (nextsL x.l a2) k).toNat) (j := 0) (x' := (false : Bool)) h237 ti_4 rfl rfl rfl rfl rfl (show (nth (nextsL x.l a2) k).toNat < o3.length from (by omega)) (Nat.le_of_ble_eq_true rfl) rfl rfl rfl (by intro q hq; obtain rfl : q = 0 := (by omega); rfl) (fun w h => Flat.inner _ _) (fun b hb => (Flat.on _ _ hb).elim)) (wanted_none rfl _) ?_
      rintro a238 w238 h238
      clear h237
      refine wpList_nil (hK233 _ _ ?_)
      refine wp_region_lit ?_
      refine wms 1 h238 rfl fun a239 h239 => ?_; clear h238
      refine wpList_nil (hK217 _ _ ?_)
      refine wp_region_lit ?_
      refine wms 1 h239 rfl fun a240 h240 => ?_; clear h239
      refine wv h240 (r_addN (p := k) (q := 1) rfl rfl rfl (show k + 1 < 9223372036854775808 from (by omega))) rfl rfl fun a241 h241 => ?_; clear h240
      refine wms 1 h241 rfl fun a242 h242 => ?_; clear h241
      refine wpList_nil ?_
      refine x_again ⟨_, ?_, (k + 1), o3.set ((nth (nextsL x.l a2) k).toNat) false, true, ?_, ?_, ?_, ?_, ?_, ?_, h242.nrm ⟨rfl, rfl, rfl, rfl, rfl, rfl, rfl, rfl, rfl, rfl, rfl, trivial⟩ [0, 1, 2, 3] (by decide) ⟨rfl, rfl, rfl, rfl, trivial⟩, rfl⟩
      · rw [hm209]; first | omega | (simp only [lens9]; omega)
      · omega
      · first | exact hr3 | exact hr3.put hc (by omega) (by omega) (hno (by assumption))
      · first | exact hn3 | exact is_cnt hc hr3 (by omega) (by omega) (by assumption) hn3
      · first | exact hcl3 | exact fun h => Bool.noConfusion h
      · first | exact hsm | exact fun h => Bool.noConfusion h
      · first | (exact fun h => Bool.noConfusion h) | (intro h h8 j hj; rcases Nat.lt_or_ge j k with h9 | h9; exact hd3 h h8 j h9; obtain rfl : j = k := (by omega); first | assumption | (exfalso; rw [hsm h, ← hisB] at h8; rw [(by assumption : is = true)] at h8; cases h8))
     refine wp_skip ?_
     refine hK217 _ _ ?_
     refine wp_region_lit ?_
     refine wms 1 h231 rfl fun a243 h243 => ?_; clear h231
     refine wv h243 (r_addN (p := k) (q := 1) rfl rfl rfl (show k + 1 < 9223372036854775808 from (by omega))) rfl rfl fun a244 h244 => ?_; clear h243
     refine wms 1 h244 rfl fun a245 h245 => ?_; clear h244
     refine wpList_nil ?_
     refine x_again ⟨_, ?_, (k + 1), o3, g3, ?_, ?_, ?_, ?_, ?_, ?_, h245.nrm ⟨rfl, rfl, rfl, rfl, rfl, rfl, rfl, rfl, rfl, rfl, rfl, trivial⟩ [0, 1, 2, 3] (by decide) ⟨rfl, rfl, rfl, rfl, trivial⟩, rfl⟩
     · rw [hm209]; first | omega | (simp only [lens9]; omega)
     · omega
     · first | exact hr3 | exact hr3.put hc (by omega) (by omega) (hno (by assumption))
     · first | exact hn3 | exact is_cnt hc hr3 (by omega) (by omega) (by assumption) hn3
     · first | exact hcl3 | exact fun h => Bool.noConfusion h
     · first | exact hsm | exact fun h => Bool.noConfusion h
     · first | (exact fun h => Bool.noConfusion h) | (intro h h8 j hj; rcases Nat.lt_or_ge j k with h9 | h9; exact hd3 h h8 j h9; obtain rfl : j = k := (by omega); first | assumption | (exfalso; rw [hsm h, ← hisB] at h8; rw [(by assumption : is = true)] at h8; cases h8))
    have hn222 : is = true := (Bool.not_eq_false' _).mp hb222
    refine wl_skip h221 (wanted_no h221.fr rfl rfl rfl rfl hb222) rfl rfl fun a246 h246 => ?_; clear h221
    refine wl_skip h246 (wanted_no h246.fr rfl rfl rfl rfl hb222) rfl rfl fun a247 h247 => ?_; clear h246
    refine wl_skip h247 (wanted_no h247.fr rfl rfl rfl rfl hb222) rfl rfl fun a248 h248 => ?_; clear h247
    refine wl_skip h248 (wanted_no h248.fr rfl rfl rfl rfl hb222) rfl rfl fun a249 h249 => ?_; clear h248
    refine wl_skip h249 (wanted_no h249.fr rfl rfl rfl rfl hb222) rfl rfl fun a250 h250 => ?_; clear h249
    refine wl_skip h250 (wanted_no h250.fr rfl rfl rfl rfl hb222) rfl rfl fun a251 h251 => ?_; clear h250
    refine wl_skip h251 (wanted_no h251.fr rfl rfl rfl rfl hb222) rfl rfl fun a252 h252 => ?_; clear h251
    refine wv h252 (r_pickF rfl rfl hb222 rfl) rfl rfl fun a253 h253 => ?_; clear h252
    refine wpList_nil (hK218 _ _ ?_)
    refine x_condF h253 rfl rfl ?_
    refine wp_skip ?_
    refine hK217 _ _ ?_
    refine wp_region_lit ?_
    refine wms 1 h253 rfl fun a254 h254 => ?_; clear h253
    refine wv h254 (r_addN (p := k) (q := 1) rfl rfl rfl (show k + 1 < 9223372036854775808 from (by omega))) rfl rfl fun a255 h255 => ?_; clear h254
    refine wms 1 h255 rfl fun a256 h256 => ?_; clear h255
    refine wpList_nil ?_
    refine x_again ⟨_, ?_, (k + 1), o3, g3, ?_, ?_, ?_, ?_, ?_, ?_, h256.nrm ⟨rfl, rfl, rfl, rfl, rfl, rfl, rfl, rfl, rfl, rfl, rfl, trivial⟩ [0, 1, 2, 3] (by decide) ⟨rfl, rfl, rfl, rfl, trivial⟩, rfl⟩
    · rw [hm209]; first | omega | (simp only [lens9]; omega)
    · omega
    · first | exact hr3 | exact hr3.put hc (by omega) (by omega) (hno (by assumption))
    · first | exact hn3 | exact is_cnt hc hr3 (by omega) (by omega) (by assumption) hn3
    · first | exact hcl3 | exact fun h => Bool.noConfusion h
    · first | exact hsm | exact fun h => Bool.noConfusion h
    · first | (exact fun h => Bool.noConfusion h) | (intro h h8 j hj; rcases Nat.lt_or_ge j k with h9 | h9; exact hd3 h h8 j h9; obtain rfl : j = k := (by omega); first | assumption | (exfalso; rw [hsm h, ← hisB] at h8; rw [(by assumption : is = true)] at h8; cases h8))
   have hp216 : ¬ (k < (nextsL x.l a2).length) := of_decide_eq_false hb216
   refine wp_exit ?_
   refine hK56 _ _ ?_
   refine wp_region_lit ?_
   refine wms 1 h215 rfl fun a257 h257 => ?_; clear h215
   refine wv h257 (r_addN (p := a2) (q := 1) rfl rfl rfl (show a2 + 1 < 9223372036854775808 from (by omega))) rfl rfl fun a258 h258 => ?_; clear h257
   refine wms 1 h258 rfl fun a259 h259 => ?_; clear h258
   refine wpList_nil ?_
   refine x_again ⟨_, ?_, (a2 + 1), o3, g3, ?_, ?_, ?_, ?_, h259.nrm ⟨rfl, rfl, rfl, rfl, rfl, rfl, rfl, rfl, trivial⟩ [1, 2, 3] (by decide) ⟨rfl, rfl, rfl, trivial⟩, rfl⟩
   · rw [hm50]; first | omega | (simp only [lens9]; omega)
   · omega
   · first | exact hr3 | exact hr2
   · first | exact hn3 | exact hn2
   · first | (intro h i hi; rcases Nat.lt_or_ge i a2 with h9 | h9; exact hcl3 h i h9; obtain rfl : i = a2 := (by omega); intro _ h8 y hy; obtain ⟨j, hj, rfl⟩ := List.getElem_of_mem hy; have h7 := hd3 h h8 j (by omega); rwa [nth_lt _ _ hj] at h7) | (intro h i hi; rcases Nat.lt_or_ge i a2 with h9 | h9; exact hcl2 h i h9; obtain rfl : i = a2 := (by omega); intro h8; exact absurd ((hgo i (by omega)).2 h8) (by rw [(by assumption : nth s11.l i = false)]; decide))
  have hp55 : ¬ (a2 < x.l.length) := of_decide_eq_false hb55
  refine wp_exit ?_
  change ∃ _m, _m < _ ∧ _
  refine ⟨_, ?_, o2, g2, ?_, ?_, h54.nrm ⟨rfl, rfl, rfl, rfl, rfl, rfl, rfl, trivial⟩ [0, 1, 2] (by decide) ⟨rfl, rfl, rfl, trivial⟩, rfl⟩
  · rw [hm41]; (have e1 : g1 = true := by assumption); rw [e1]; have e2 : bN true = 1 := rfl; omega
  · exact hr2
  · exact fun h i hi => hcl2 h i (by omega)
 refine wp_exit ?_
 refine hK38 _ _ ?_
 refine wp_seq_k fun K260 hK260 => wp_region_lit ?_
 refine wms 2 h44 rfl fun a261 h261 => ?_; clear h44
 refine wpList_nil (hK260 _ _ ?_)
 refine wp_ret ?_
 try simp only [Exit.then, Exit.inBlock]
 refine x_ret1 (fn := Try.f88) (t := 6) rfl h261 rfl ?_
 exact ⟨⟨v16, o1⟩, rfl, hr1.len, fun i hi => is_end hc hr1 (hcl1 (by assumption)) hi, (h261.sh.sel (L' := [.own 4 (⟨v16, o1⟩ : Ls Bool)]) [0] (by decide) ⟨rfl, trivial⟩)⟩

end Go.Proofs.Ytanhbpofhebbaaa
