/-
  The memory in which nothing waits: made, its methods.
-/
import Derived.Test.YtfpaahkleienoaaS26
import Derived.Test.YtfpaahkleienoaaS27
import Derived.Test.YtfpaahkleienoaaX3
import Derived.Test.YtfpaahkleienoaaS19
namespace Go.Proofs.Ytfpaahkleienoaa
open Go.RowKit
set_option linter.unusedSimpArgs false
set_option linter.unusedVariables false


theorem rep_of {c : Nat} {e : Int} {l : List Int} (h1 : l.length = c) (h2 : ∀ i, i < c → nth l i = e) : l = List.replicate c e := by
  refine ext_nth _ _ (by simpa using h1) fun i hi => ?_
  rw [h2 i (by omega), nth_replicate _ _ _ (by omega)]
theorem nth_copy (l m : List Int) (n k i : Nat) (h1 : n + k ≤ l.length) (h2 : k ≤ m.length) : nth (l.take n ++ m.take k ++ l.drop (n + k)) i = if i < n then nth l i else if i < n + k then nth m (i - n) else nth l i := by
  have e1 : (l.take n).length = n := by rw [List.length_take]; omega
  have e2 : (m.take k).length = k := by rw [List.length_take]; omega
  have e3 : (l.take n ++ m.take k).length = n + k := by rw [List.length_append, e1, e2]
  rw [nth_append, e3]
  by_cases h : i < n + k
  · rw [if_pos h, nth_append, e1]
    by_cases h3 : i < n
    · rw [if_pos h3, if_pos h3, nth_take0 h3]
    · rw [if_neg h3, if_neg h3, if_pos h, nth_take0 (by omega)]
  · rw [if_neg h, if_neg (by omega), if_neg h, nth_drop0, show n + k + (i - (n + k)) = i by omega]

set_option maxRecDepth 100000 in
set_option maxHeartbeats 1000000 in
theorem mul64_c (x y : Nat) (W : World) (hx : x ≤ 100000) (hy : y ≤ 100000) (hxy : x * y ≤ 100000) :
    Rets Try.prog 155 [.int .u64 ((x : Nat) : Int), .int .u64 ((y : Nat) : Int)] W (fun v w' => v = .tuple #[.int .u64 ((0 : Nat) : Int), .int .u64 ((x * y : Nat) : Int)] ∧ Sh0 W w' []) := by
 refine x_enter (N := 51) Try.func155 rfl Try.ntmps155 (Nat.le_of_ble_eq_true rfl) fun a1 hf1 => ?_
 have h1 : St 51 (fun _ => False) W a1 W [(0, .int .u64 ((x : Nat) : Int)), (1, .int .u64 ((y : Nat) : Int))] [] := ⟨hf1.sub ⟨rfl, rfl, trivial⟩, Sh0.start _⟩
 clear hf1
 refine wp_seq_k fun K2 hK2 => wp_region_lit <| wms 2 h1 rfl fun a3 h3 => wpList_nil <| hK2 _ _ <| wp_seq_k fun K4 hK4 => wp_region_lit <| wms 1 h3 rfl fun a5 h5 => wv h5 (r_andS (p := x) rfl rfl rfl (show x < 4294967296 from (by omega))) rfl rfl fun a6 h6 => wms 1 h6 rfl fun a7 h7 => wpList_nil <| hK4 _ _ <| wp_seq_k fun K8 hK8 => wp_region_lit ?_; clear h1 h3 h5 h6
 refine wms 1 h7 rfl fun a9 h9 => wv h9 (r_shrS (p := x) rfl rfl rfl (show x < 4294967296 from (by omega))) rfl rfl fun a10 h10 => wms 1 h10 rfl fun a11 h11 => wpList_nil <| hK8 _ _ <| wp_seq_k fun K12 hK12 => wp_region_lit <| wms 1 h11 rfl fun a13 h13 => wv h13 (r_andS (p := y) rfl rfl rfl (show y < 4294967296 from (by omega))) rfl rfl fun a14 h14 => wms 1 h14 rfl fun a15 h15 => wpList_nil <| hK12 _ _ <| wp_seq_k fun K16 hK16 => wp_region_lit ?_; clear h7 h9 h10 h11 h13 h14
 refine wms 1 h15 rfl fun a17 h17 => wv h17 (r_shrS (p := y) rfl rfl rfl (show y < 4294967296 from (by omega))) rfl rfl fun a18 h18 => wms 1 h18 rfl fun a19 h19 => wpList_nil <| hK16 _ _ <| wp_seq_k fun K20 hK20 => wp_region_lit <| wms 2 h19 rfl fun a21 h21 => wv h21 (r_mulS (p := x) (q := y) (r := x * y) rfl rfl rfl rfl (show x * y < 18446744073709551616 from (by omega))) rfl rfl fun a22 h22 => wms 1 h22 rfl fun a23 h23 => wpList_nil <| hK20 _ _ <| wp_seq_k fun K24 hK24 => wp_region_lit ?_; clear h15 h17 h18 h19 h21 h22
 refine wms 2 h23 rfl fun a25 h25 => wv h25 (r_mulS (p := 0) (q := y) (r := 0) rfl rfl rfl (by simp) (show 0 < 18446744073709551616 from (by omega))) rfl rfl fun a26 h26 => wms 1 h26 rfl fun a27 h27 => wv h27 (r_shrS (p := x * y) rfl rfl rfl (show x * y < 4294967296 from (by omega))) rfl rfl fun a28 h28 => wv h28 (r_addS (p := 0) (q := 0) (r := 0) rfl rfl rfl (by simp) (show 0 < 18446744073709551616 from (by omega))) rfl rfl fun a29 h29 => wms 1 h29 rfl fun a30 h30 => wpList_nil <| hK24 _ _ <| wp_seq_k fun K31 hK31 => wp_region_lit <| wms 1 h30 rfl fun a32 h32 => wv h32 (r_andS (p := 0) rfl rfl rfl (show 0 < 4294967296 from (by omega))) rfl rfl fun a33 h33 => wms 1 h33 rfl fun a34 h34 => wpList_nil ?_; clear h23 h25 h26 h27 h28 h29 h30 h32 h33
 refine hK31 _ _ ?_
 have h35 : St 51 (fun _ => False) W a34 W [(0, .int .u64 ((x : Nat) : Int)), (1, .int .u64 ((y : Nat) : Int)), (6, .int .u64 ((x : Nat) : Int)), (7, .int .u64 ((0 : Nat) : Int)), (9, .int .u64 ((0 : Nat) : Int)), (11, .int .u64 ((0 : Nat) : Int)), (12, .int .u64 ((0 : Nat) : Int))] [] := h34.nrm ⟨rfl, rfl, rfl, rfl, rfl, rfl, rfl, trivial⟩ [] (by decide) trivial
 clear h34
 refine wp_seq_k fun K36 hK36 => wp_region_lit <| wms 1 h35 rfl fun a37 h37 => wv h37 (r_shrS (p := 0) rfl rfl rfl (show 0 < 4294967296 from (by omega))) rfl rfl fun a38 h38 => wms 1 h38 rfl fun a39 h39 => wpList_nil <| hK36 _ _ <| wp_seq_k fun K40 hK40 => wp_region_lit <| wms 3 h39 rfl fun a41 h41 => wv h41 (r_mulS (p := x) (q := 0) (r := 0) rfl rfl rfl (by simp) (show 0 < 18446744073709551616 from (by omega))) rfl rfl fun a42 h42 => wv h42 (r_addS (p := 0) (q := 0) (r := 0) rfl rfl rfl (by simp) (show 0 < 18446744073709551616 from (by omega))) rfl rfl fun a43 h43 => wms 1 h43 rfl fun a44 h44 => wpList_nil ?_; clear h35 h37 h38 h39 h41 h42 h43
 refine hK40 _ _ <| wp_seq_k fun K45 hK45 => wp_region_lit <| wms 2 h44 rfl fun a46 h46 => wv h46 (r_mulS (p := 0) (q := 0) (r := 0) rfl rfl rfl (by simp) (show 0 < 18446744073709551616 from (by omega))) rfl rfl fun a47 h47 => wms 1 h47 rfl fun a48 h48 => wv h48 (r_addS (p := 0) (q := 0) (r := 0) rfl rfl rfl (by simp) (show 0 < 18446744073709551616 from (by omega))) rfl rfl fun a49 h49 => wms 1 h49 rfl fun a50 h50 => wv h50 (r_shrS (p := 0) rfl rfl rfl (show 0 < 4294967296 from (by omega))) rfl rfl fun a51 h51 => wv h51 (r_addS (p := 0) (q := 0) (r := 0) rfl rfl rfl (by simp) (show 0 < 18446744073709551616 from (by omega))) rfl rfl fun a52 h52 => wms 1 h52 rfl fun a53 h53 => wpList_nil <| hK45 _ _ <| wp_seq_k fun K54 hK54 => ?_; clear h44 h46 h47 h48 h49 h50 h51 h52
 refine wp_region_lit <| wms 2 h53 rfl fun a55 h55 => wv h55 (r_mulS (p := x) (q := y) (r := x * y) rfl rfl rfl rfl (show x * y < 18446744073709551616 from (by omega))) rfl rfl fun a56 h56 => wms 1 h56 rfl fun a57 h57 => wpList_nil <| hK54 _ _ ?_; clear h53 h55 h56
 have h58 : St 51 (fun _ => False) W a57 W [(4, .int .u64 ((0 : Nat) : Int)), (5, .int .u64 ((x * y : Nat) : Int))] [] := h57.nrm ⟨rfl, rfl, trivial⟩ [] (by decide) trivial
 clear h57
 refine wp_ret ?_
 try simp only [Exit.then, Exit.inBlock]
 refine x_ret2 (fn := Try.f155) (t := 4) (u := 5) rfl h58 rfl rfl ?_
 exact ⟨rfl, (h58.sh.sel [] (by decide) trivial)⟩

set_option maxRecDepth 100000 in
set_option maxHeartbeats 1000000 in
theorem mul_c (x y : Nat) (W : World) (hx : x ≤ 100000) (hy : y ≤ 100000) (hxy : x * y ≤ 100000) :
    Rets Try.prog 134 [.int .u64 ((x : Nat) : Int), .int .u64 ((y : Nat) : Int)] W (fun v w' => v = .tuple #[.int .u64 ((0 : Nat) : Int), .int .u64 ((x * y : Nat) : Int)] ∧ Sh0 W w' []) := by
 refine x_enter (N := 30) Try.func134 rfl Try.ntmps134 (Nat.le_of_ble_eq_true rfl) fun a1 hf1 => ?_
 have h1 : St 30 (fun _ => False) W a1 W [(0, .int .u64 ((x : Nat) : Int)), (1, .int .u64 ((y : Nat) : Int))] [] := ⟨hf1.sub ⟨rfl, rfl, trivial⟩, Sh0.start _⟩
 clear hf1
 refine wp_seq_k fun K2 hK2 => wp_region_lit <| wms 2 h1 rfl fun a3 h3 => wpList_nil <| hK2 _ _ <| wp_seq_k fun K4 hK4 => x_condF h3 rfl rfl <| wp_skip <| hK4 _ _ <| wp_seq_k fun K5 hK5 => wp_region_lit <| wms 2 h3 rfl fun a6 h6 => wl_ex (x_call h6 bd_155 rfl rfl rfl rfl rfl (mul64_c x y _ (by omega) (by omega) (by omega))) (wanted_none rfl _) ?_; clear h1 h3
 rintro a7 w7 ⟨_, ⟨rfl, hs7⟩, hf7⟩
 have h7 : St 30 (fun _ => False) W a7 w7 _ _ := ⟨hf7, h6.sh.call0 hs7⟩
 clear hf7 hs7
 clear h6
 refine wms 1 h7 rfl fun a8 h8 => wv h8 (r_extract rfl rfl rfl) rfl rfl fun a9 h9 => wv h9 (r_extract rfl rfl rfl) rfl rfl fun a10 h10 => wms 2 h10 rfl fun a11 h11 => wpList_nil <| hK5 _ _ <| wp_seq_k fun K12 hK12 => wp_region_lit <| wms 4 h11 rfl fun a13 h13 => wpList_nil <| hK12 _ _ <| wp_ret ?_; clear h7 h8 h9 h10 h11
 try simp only [Exit.then, Exit.inBlock]
 refine x_ret2 (fn := Try.f134) (t := 4) (u := 5) rfl h13 rfl rfl ?_
 exact ⟨rfl, (h13.sh.sel [] (by decide) trivial)⟩

set_option maxRecDepth 100000 in
set_option maxHeartbeats 2000000 in
theorem repeat_c (x : Ls Int) (c : Nat) (W : World) (hx : x.At W) (hx1 : x.l.length = 1) (hc : c ≤ 1000) :
    Rets Try.prog 84 [x.v, .int .i64 ((c : Nat) : Int)] W (fun v w' => ∃ s : Ls Int, v = s.v ∧ Sh0 W w' [.own 3 (⟨s.v, List.replicate c (nth x.l 0)⟩ : Ls Int)]) := by
 have hxc : x.l.length * c = c := by rw [hx1, Nat.one_mul]
 refine x_enter (N := 48) Try.func84 rfl Try.ntmps84 (Nat.le_of_ble_eq_true rfl) fun a1 hf1 => ?_
 have h1 : St 48 (fun _ => False) W a1 W [(0, x.v), (1, .int .i64 ((c : Nat) : Int))] [.at_ x] := ⟨hf1.sub ⟨rfl, rfl, trivial⟩, Sh0.ext1 hx⟩
 clear hf1
 refine wp_seq_k fun K2 hK2 => wp_region_lit <| wms 1 h1 rfl fun a3 h3 => wpList_nil <| hK2 _ _ <| wp_seq_k fun K4 hK4 => wp_seq_k fun K5 hK5 => wp_region_lit <| wms 1 h3 rfl fun a6 h6 => wv h6 (r_lssN (p := c) (q := 0) rfl rfl rfl) rfl rfl fun a7 h7 => wpList_nil <| hK5 _ _ <| x_cond h7 rfl (fun hb8 => ?_) (fun hb8 => ?_); clear h1 h3 h6
 ·have hp8 : c < 0 := of_decide_eq_true hb8
  exfalso
  omega
 have hp8 : ¬ (c < 0) := of_decide_eq_false hb8
 refine wp_skip <| hK4 _ _ <| wp_seq_k fun K9 hK9 => wp_region_lit <| wms 1 h7 rfl fun a10 h10 => ?_; clear h7
 have hl11 : x.l.length ≤ 140737488355328 := (h10.sh.at 0 rfl).len
 refine wv h10 (r_len (s := x) (n := x.l.length) sl_23 rfl rfl (fun w h => (h.at 0 rfl)) rfl) rfl rfl fun a12 h12 => wv h12 (r_cvUN Try.underlying3 Try.underlying219 rfl rfl (show x.l.length < 18446744073709551616 from (by omega))) rfl rfl fun a13 h13 => wms 1 h13 rfl fun a14 h14 => wv h14 (r_cvUN Try.underlying3 Try.underlying219 rfl rfl (show c < 18446744073709551616 from (by omega))) rfl rfl fun a15 h15 => wl_ex (x_call h15 bd_134 rfl rfl rfl rfl rfl (mul_c x.l.length c _ (by omega) (by omega) (by rw [hxc]; omega))) (wanted_none rfl _) ?_; clear h10 h12 h13 h14
 rintro a16 w16 ⟨_, ⟨rfl, hs16⟩, hf16⟩
 have h16 : St 48 (fun _ => False) W a16 w16 _ _ := ⟨hf16, h15.sh.call0 hs16⟩
 clear hf16 hs16
 clear h15
 refine wms 1 h16 rfl fun a17 h17 => wv h17 (r_extract rfl rfl rfl) rfl rfl fun a18 h18 => wv h18 (r_extract rfl rfl rfl) rfl rfl fun a19 h19 => wms 2 h19 rfl fun a20 h20 => wpList_nil <| hK9 _ _ ?_; clear h16 h17 h18 h19
 have h21 := h20.same (d := 6) (v' := .int .u64 ((c : Nat) : Int)) rfl (by rw [hx1, Nat.one_mul]; rfl)
 clear h20
 refine wp_seq_k fun K22 hK22 => wp_seq_k fun K23 hK23 => wp_region_lit <| wms 1 h21 rfl fun a24 h24 => wv h24 (r_gtrN (p := 0) (q := 0) rfl rfl rfl) rfl rfl fun a25 h25 => wms 1 h25 rfl fun a26 h26 => wl_val h26 (r_move rfl rfl) (wanted_yes h26.fr rfl rfl rfl rfl (by decide)) rfl rfl fun a27 h27 => wl_val h27 (r_gtrN (p := c) (q := 9223372036854775807) rfl rfl rfl) (wanted_yes h27.fr rfl rfl rfl rfl (by decide)) rfl rfl fun a28 h28 => wv h28 (r_pickF rfl rfl (by decide) rfl) rfl rfl fun a29 h29 => wpList_nil <| hK23 _ _ <| x_cond h29 rfl (fun hb30 => ?_) (fun hb30 => ?_); clear h21 h24 h25 h26 h27 h28
 ·have hp30 : 9223372036854775807 < c := of_decide_eq_true hb30
  exfalso
  omega
 have hp30 : ¬ (9223372036854775807 < c) := of_decide_eq_false hb30
 refine wp_skip <| hK22 _ _ <| wp_seq_k fun K31 hK31 => wp_region_lit <| wms 1 h29 rfl fun a32 h32 => wv h32 (r_cvI Try.underlying219 Try.underlying3 rfl rfl (show c < 9223372036854775808 from (by omega))) rfl rfl fun a33 h33 => wl_ex (x_make (n := c) (0 : Int) h33 sl_23 ti_3 rfl rfl rfl rfl rfl (show 8 * c ≤ 140737488355328 ∧ c ≤ 140737488355328 from (by omega)) (fun w => Flat.inner _ _) (fun b => Flat.on _ _) rfl rfl) (wanted_none rfl _) ?_; clear h29 h32
 rintro a34 w34 ⟨v34, h34⟩; clear h33
 refine wms 1 h34 rfl fun a35 h35 => wpList_nil <| hK31 _ _ ?_; clear h34
 have h36 : St 48 (fun _ => False) W a35 w34 [(0, x.v), (7, v34)] [.own 3 (⟨v34, List.replicate c 0⟩ : Ls Int), .at_ x] := h35.nrm ⟨rfl, rfl, trivial⟩ [0, 1] (by decide) ⟨rfl, rfl, trivial⟩
 clear h35
 refine wp_seq_k fun K37 hK37 => wp_region_lit <| wms 2 h36 rfl fun a38 h38 => wl_ex (x_copy (r := 0) (n := 0) (k := min x.l.length ((List.replicate c 0).length - 0)) (s := (⟨v34, List.replicate c 0⟩ : Ls Int)) (m := (⟨x.v, x.l⟩ : Ls Int)) h38 sl_23 ti_3 rfl rfl (.inl ⟨rfl, rfl⟩) rfl rfl (h38.sh.at 1 rfl) (show 0 ≤ (List.replicate c 0).length from (by first | omega | (simp only [lens9]; omega))) rfl rfl rfl) (wanted_none rfl _) ?_; clear h36
 rintro a39 w39 h39
 clear h38
 refine wms 1 h39 rfl fun a40 h40 => wpList_nil <| hK37 _ _ <| wp_seq_k fun K41 hK41 => wp_block ?_; clear h39
 have hk0 : min x.l.length ((List.replicate c (0 : Int)).length - 0) = if c = 0 then 0 else 1 := by rw [hx1, List.length_replicate]; split <;> omega
 refine x_loop (fun m a w => ∃ (n : Nat) (ro : List Int), (n ≤ c) ∧ (ro.length = c) ∧ (c = 0 ∨ 1 ≤ n) ∧ (∀ i, i < n → nth ro i = nth x.l 0) ∧ St 48 (fun _ => False) W a w [(7, v34), (8, .int .i64 ((n : Nat) : Int))] [.own 3 (⟨v34, ro⟩ : Ls Int), .at_ x] ∧ m = c - n) ⟨_, min x.l.length ((List.replicate c 0).length - 0), (List.replicate c 0).take 0 ++ x.l.take (min x.l.length ((List.replicate c 0).length - 0)) ++ (List.replicate c 0).drop (0 + min x.l.length ((List.replicate c 0).length - 0)), (by rw [hk0]; split <;> omega), (by simp only [List.length_append, List.length_take, List.length_drop, List.length_replicate]; omega), (by rw [hk0]; split <;> omega), (fun i hi => by rw [hk0] at hi ⊢; rw [nth_copy _ _ _ _ _ (by rw [List.length_replicate]; split <;> omega) (by rw [hx1]; split <;> omega), if_neg (by omega), if_pos (by omega), show i - 0 = 0 by split at hi <;> omega]), h40.nrm ⟨rfl, rfl, trivial⟩ [0, 1] (by decide) ⟨rfl, rfl, trivial⟩, rfl⟩ ?_
 clear h40
 rintro m42 a42 w42 ⟨n, ro, hn, hro, hn1, hall, h42, hm42⟩
 refine wp_seq_k fun K43 hK43 => wp_seq_k fun K44 hK44 => wp_region_lit <| wms 2 h42 rfl fun a45 h45 => ?_; clear h42
 have hl46 : ro.length ≤ 140737488355328 := (h45.sh.own 0 rfl).len
 refine wv h45 (r_len (s := (⟨v34, ro⟩ : Ls Int)) (n := ro.length) sl_23 rfl rfl (fun w h => (h.own 0 rfl)) rfl) rfl rfl fun a47 h47 => wv h47 (r_lssN (p := n) (q := ro.length) rfl rfl rfl) rfl rfl fun a48 h48 => wpList_nil <| hK44 _ _ <| x_cond h48 rfl (fun hb49 => ?_) (fun hb49 => ?_); clear h45 h47
 ·have hp49 : n < ro.length := of_decide_eq_true hb49
  refine wp_skip <| hK43 _ _ <| wp_block <| x_tail 7 [0] (by kernel_rfl) (by kernel_rfl) h48 fun Z50 hZ50 => ?_
  have hq50 := h48.fr
  refine wq_val hq50 (r_move rfl rfl) (wanted_none rfl _) rfl rfl fun a51 hq51 => wq_val hq51 (r_move rfl rfl) (wanted_none rfl _) rfl rfl fun a52 hq52 => wq_val hq52 (r_move rfl rfl) (wanted_none rfl _) rfl rfl fun a53 hq53 => wq_val hq53 (r_slL (s := (⟨v34, ro⟩ : Ls Int)) (k := n) sl_23 ti_3 rfl rfl rfl (fun w h => (h.own 0 rfl)) (show n ≤ ro.length from (by omega))) (wanted_none rfl _) rfl rfl fun a54 hq54 => wq_val hq54 (r_move rfl rfl) (wanted_none rfl _) rfl rfl fun a55 hq55 => wq_val hq55 (r_move rfl rfl) (wanted_none rfl _) rfl rfl fun a56 hq56 => wq_val hq56 (r_slH (s := (⟨v34, ro⟩ : Ls Int)) (j := n) sl_23 ti_3 rfl rfl rfl (fun w h => (h.own 0 rfl)) (show n ≤ ro.length from (by omega)) (show 0 < ro.length from (by omega))) (wanted_none rfl _) rfl rfl fun a57 hq57 => wpQuiet_nil (hZ50 _ fun w58 hw58 => ?_); clear hq50 hq51 hq52 hq53 hq54 hq55 hq56
  have h58 : St 48 (fun _ => False) W a57 w58 _ _ := ⟨hq57, hw58⟩
  clear hq57 hw58 h48
  refine wl_ex (x_copy (r := 0) (n := n) (k := min (ro.take n).length (ro.length - n)) (s := (⟨v34, ro⟩ : Ls Int)) (m := (⟨(vtake v34 n), (ro.take n)⟩ : Ls Int)) h58 sl_23 ti_3 rfl rfl (.inr rfl) rfl rfl (take_at (h58.sh.own 0 rfl) (show n ≤ ro.length from (by omega))) (show n ≤ ro.length from (by omega)) rfl rfl rfl) (wanted_none rfl _) ?_
  rintro a59 w59 h59
  clear h58
  refine wv h59 (r_addN (p := n) (q := min (ro.take n).length (ro.length - n)) rfl rfl rfl (show n + (min (ro.take n).length (ro.length - n)) < 9223372036854775808 from (by omega))) rfl rfl fun a60 h60 => wms 1 h60 rfl fun a61 h61 => wpList_nil ?_; clear h59 h60
  change ∃ _m, _m < _ ∧ _
  refine ⟨_, ?_, n + (min (ro.take n).length (ro.length - n)), ro.take n ++ (ro.take n).take (min (ro.take n).length (ro.length - n)) ++ ro.drop (n + min (ro.take n).length (ro.length - n)), ?_, ?_, ?_, ?_, h61.nrm ⟨rfl, rfl, trivial⟩ [0, 1] (by decide) ⟨rfl, rfl, trivial⟩, rfl⟩
  · rw [hm42]; rw [List.length_take, hro]; omega
  · rw [List.length_take, hro] at *; omega
  · simp only [List.length_append, List.length_take, List.length_drop, hro]; omega
  · omega
  · intro i hi; rw [List.length_take, hro] at hi ⊢; rw [nth_copy _ _ _ _ _ (by rw [hro]; omega) (by rw [List.length_take, hro]; omega)]; split; (exact hall i (by assumption)); (try rw [if_pos (by omega)]); rw [nth_take0 (by omega)]; exact hall _ (by omega)
 have hp49 : ¬ (n < ro.length) := of_decide_eq_false hb49
 refine wp_exit <| hK41 _ _ <| wp_seq_k fun K62 hK62 => wp_region_lit <| wms 2 h48 rfl fun a63 h63 => wpList_nil <| hK62 _ _ <| wp_ret ?_; clear h48
 try simp only [Exit.then, Exit.inBlock]
 refine x_ret1 (fn := Try.f84) (t := 4) rfl h63 rfl ?_
 have he9 : ro = List.replicate c (nth x.l 0) := rep_of hro (fun i hi => hall i (by omega))
 rw [he9] at h63
 exact ⟨⟨v34, []⟩, rfl, (h63.sh.sel (L' := [_]) [0] (by decide) ⟨rfl, trivial⟩)⟩

set_option maxRecDepth 100000 in
set_option maxHeartbeats 4000000 in
theorem pnew_c (words : Ls Int) (Lk : Nat) (cv : Value) (nregs : Int) (W : World) (hwords : words.At W) (hwn : words.l.length ≤ 64) (hlk : Lk ≤ 4) :
    Rets Try.prog 76 [.agg #[cv, words.v, .int .i64 ((Lk : Nat) : Int), .int .i64 nregs]] W (fun v w' => ∃ (g : Nat) (words' owner' : Ls Int), v = .pointer (some ⟨g, 0, none⟩) ∧ words'.l = words.l ∧ owner'.l = List.replicate Lk (-1) ∧ Sh0 W w' [.blk g 205 [words'.v, owner'.v], .own 3 words', .own 3 owner']) := by
 refine x_enter (N := 12) Try.func76 rfl Try.ntmps76 (Nat.le_of_ble_eq_true rfl) fun a1 hf1 => ?_
 have h1 : St 12 (fun _ => False) W a1 W [(0, .agg #[cv, words.v, .int .i64 ((Lk : Nat) : Int), .int .i64 nregs])] [.at_ words] := ⟨hf1.sub ⟨rfl, trivial⟩, Sh0.ext1 hwords⟩
 clear hf1
 refine wp_seq_k fun K2 hK2 => wp_region_lit <| wl_ex (x_box (cs := [cv, words.v, .int .i64 ((Lk : Nat) : Int), .int .i64 nregs]) h1 rfl rfl rfl rfl rfl) (wanted_none rfl _) ?_
 rintro a3 w3 ⟨b3, h3⟩; clear h1
 refine wms 1 h3 rfl fun a4 h4 => wpList_nil <| hK2 _ _ <| wp_seq_k fun K5 hK5 => ?_; clear h3
 have h6 : St 12 (fun _ => False) W a4 w3 [(0, .agg #[cv, words.v, .int .i64 ((Lk : Nat) : Int), .int .i64 nregs]), (1, .pointer (some ⟨b3, 0, none⟩))] [.blk b3 25 [cv, words.v, .int .i64 ((Lk : Nat) : Int), .int .i64 nregs], .at_ words] := h4.nrm ⟨rfl, rfl, trivial⟩ [0, 1] (by decide) ⟨rfl, rfl, trivial⟩
 clear h4
 refine x_any ((fun Φ Ψ S a w => (S 2 = false ∧ S 3 = false ∧ S 6 = false ∧ S 8 = false ∧ FrI 12 S Φ Ψ a ∧ Sh (fun _ => False) W w [.blk b3 25 [cv, words.v, .int .i64 ((Lk : Nat) : Int), .int .i64 nregs], .at_ words]) ∨ (S 2 = true ∧ S 3 = false ∧ S 6 = false ∧ S 8 = false ∧ ∃ (s7002 : Ls Int), FrI 12 S Φ (Ψ ++ [(2, 5, s7002.v)]) a ∧ Sh (fun _ => False) W w [.own 3 (⟨s7002.v, words.l⟩ : Ls Int), .blk b3 25 [cv, words.v, .int .i64 ((Lk : Nat) : Int), .int .i64 nregs], .at_ words]) ∨ (S 2 = false ∧ S 3 = true ∧ S 6 = false ∧ S 8 = false ∧ ∃ (v7003 : Value), FrI 12 S Φ (Ψ ++ [(3, 6, v7003)]) a ∧ Sh (fun _ => False) W w [.own 3 (⟨v7003, [(-1)]⟩ : Ls Int), .blk b3 25 [cv, words.v, .int .i64 ((Lk : Nat) : Int), .int .i64 nregs], .at_ words]) ∨ (S 2 = true ∧ S 3 = true ∧ S 6 = false ∧ S 8 = false ∧ ∃ (s7002 : Ls Int) (v7003 : Value), FrI 12 S Φ (Ψ ++ [(2, 5, s7002.v), (3, 6, v7003)]) a ∧ Sh (fun _ => False) W w [.own 3 (⟨v7003, [(-1)]⟩ : Ls Int), .own 3 (⟨s7002.v, words.l⟩ : Ls Int), .blk b3 25 [cv, words.v, .int .i64 ((Lk : Nat) : Int), .int .i64 nregs], .at_ words]) ∨ (S 2 = true ∧ S 3 = true ∧ S 6 = true ∧ S 8 = false ∧ ∃ (s7002 : Ls Int) (v7003 : Value) (s7006 : Ls Int), FrI 12 S Φ (Ψ ++ [(2, 5, s7002.v), (3, 6, v7003), (6, 9, s7006.v), (7, 10, .agg #[s7002.v, s7006.v])]) a ∧ Sh (fun _ => False) W w [.own 3 (⟨s7006.v, List.replicate Lk (nth ([(-1)]) 0)⟩ : Ls Int), .own 3 (⟨v7003, [(-1)]⟩ : Ls Int), .own 3 (⟨s7002.v, words.l⟩ : Ls Int), .blk b3 25 [cv, words.v, .int .i64 ((Lk : Nat) : Int), .int .i64 nregs], .at_ words]) ∨ (S 2 = true ∧ S 3 = true ∧ S 6 = true ∧ S 8 = true ∧ ∃ (s7002 : Ls Int) (v7003 : Value) (s7006 : Ls Int) (b7008 : Nat), FrI 12 S Φ (Ψ ++ [(2, 5, s7002.v), (3, 6, v7003), (6, 9, s7006.v), (7, 10, .agg #[s7002.v, s7006.v]), (8, 11, .pointer (some ⟨b7008, 0, none⟩)), (9, 2, .pointer (some ⟨b7008, 0, none⟩))]) a ∧ Sh (fun _ => False) W w [.blk b7008 205 [s7002.v, s7006.v], .own 3 (⟨s7006.v, List.replicate Lk (nth ([(-1)]) 0)⟩ : Ls Int), .own 3 (⟨v7003, [(-1)]⟩ : Ls Int), .own 3 (⟨s7002.v, words.l⟩ : Ls Int), .blk b3 25 [cv, words.v, .int .i64 ((Lk : Nat) : Int), .int .i64 nregs], .at_ words])) [(0, .agg #[cv, words.v, .int .i64 ((Lk : Nat) : Int), .int .i64 nregs]), (1, .pointer (some ⟨b3, 0, none⟩))] [(0, 3, .pointer (some ⟨b3, 1, none⟩)), (1, 4, words.v), (4, 7, .pointer (some ⟨b3, 2, none⟩)), (5, 8, .int .i64 ((Lk : Nat) : Int))]) (by kernel_rfl) (by kernel_rfl) (Or.inl (⟨rfl, rfl, rfl, rfl, FrI.start h6.fr, h6.sh.drew⟩)) ?_ ?_
 ·intro S i o ho hSi hcl hdep a w hI
  clear h6
  rcases i with _ | _ | _ | _ | _ | _ | _ | _ | _ | _ | i
  ·obtain rfl : _ = o := Option.some.inj ho
   rcases hI with ⟨ν2, ν3, ν6, ν8, φ, ς⟩ | ⟨ν2, _⟩ | ⟨ν2, ν3, ν6, ν8, v7003, φ, ς⟩ | ⟨ν2, _⟩ | ⟨ν2, _⟩ | ⟨ν2, _⟩
   ·exact sq φ φ.fr0 ς (r_fieldB (r := 1) fl_25_1 rfl rfl rfl) 0 rfl rfl rfl rfl rfl rfl fun a hg => Or.inl (⟨un rfl ν2, un rfl ν3, un rfl ν6, un rfl ν8, hg, ς⟩)
   ·exact no_way (cA hcl 2 0 rfl ν2) hSi
   ·exact sq φ φ.fr0 ς (r_fieldB (r := 1) fl_25_1 rfl rfl rfl) 0 rfl rfl rfl rfl rfl rfl fun a hg => Or.inr (Or.inr (Or.inl (⟨un rfl ν2, un rfl ν3, un rfl ν6, un rfl ν8, v7003, hg, ς⟩)))
   ·exact no_way (cA hcl 2 0 rfl ν2) hSi
   ·exact no_way (cA hcl 2 0 rfl ν2) hSi
   ·exact no_way (cA hcl 2 0 rfl ν2) hSi
  ·obtain rfl : _ = o := Option.some.inj ho
   have hd0 : S 0 = true := depAt hdep 0 rfl rfl
   rcases hI with ⟨ν2, ν3, ν6, ν8, φ, ς⟩ | ⟨ν2, _⟩ | ⟨ν2, ν3, ν6, ν8, v7003, φ, ς⟩ | ⟨ν2, _⟩ | ⟨ν2, _⟩ | ⟨ν2, _⟩
   ·exact sq φ (Fr.cons φ.fr0 (φ.at_ 0 0 3 _ rfl hd0)) ς (r_ldb (i := 0) ti_23 rfl rfl rfl rfl) 1 rfl rfl rfl rfl rfl rfl fun a hg => Or.inl (⟨un rfl ν2, un rfl ν3, un rfl ν6, un rfl ν8, hg, ς⟩)
   ·exact no_way (cA hcl 2 1 rfl ν2) hSi
   ·exact sq φ (Fr.cons φ.fr0 (φ.at_ 0 0 3 _ rfl hd0)) ς (r_ldb (i := 1) ti_23 rfl rfl rfl rfl) 1 rfl rfl rfl rfl rfl rfl fun a hg => Or.inr (Or.inr (Or.inl (⟨un rfl ν2, un rfl ν3, un rfl ν6, un rfl ν8, v7003, hg, ς⟩)))
   ·exact no_way (cA hcl 2 1 rfl ν2) hSi
   ·exact no_way (cA hcl 2 1 rfl ν2) hSi
   ·exact no_way (cA hcl 2 1 rfl ν2) hSi
  ·obtain rfl : _ = o := Option.some.inj ho
   have hd1 : S 1 = true := depAt hdep 0 rfl rfl
   rcases hI with ⟨ν2, ν3, ν6, ν8, φ, ς⟩ | ⟨ν2, _⟩ | ⟨ν2, ν3, ν6, ν8, v7003, φ, ς⟩ | ⟨ν2, _⟩ | ⟨ν2, _⟩ | ⟨ν2, _⟩
   ·have hs := St.mk (Fr.cons φ.fr0 (φ.at_ 1 1 4 _ rfl hd1)) ς
    refine step_ex (x_call hs bd_47 rfl rfl rfl rfl rfl (cloneI_c words _ (hs.sh.at 1 rfl) (by first | omega | (simp only [lens9]; omega)))) (wanted_none rfl _) ?_
    rintro a16 w16 ⟨_, ⟨s16, rfl, hs16⟩, hf16⟩ ⟨v0, ht16⟩
    have h16 := (⟨hf16, hs.sh.call hs16 (by intro A hA b hb; first | (simp at hA; done) | (simp at hA; subst hA; first | exact Flat.noRd hb | exact (hb : False).elim) | (simp at hA; rcases hA with rfl | rfl <;> first | exact Flat.noRd hb | exact (hb : False).elim))⟩ : St 12 (fun _ => False) W a16 w16 _ _)
    clear hf16 hs16
    exact Or.inr (Or.inl (⟨upd_self _ _, un rfl ν3, un rfl ν6, un rfl ν8, s16, φ.stepW hcl hSi [0, 1, 2, 3] (by kernel_rfl) (by kernel_rfl) ht16 h16.fr.defers (h16.fr.at_ 5 _ rfl) 4 rfl rfl rfl rfl, (h16.sh.sel (L' := [.own 3 (⟨s16.v, words.l⟩ : Ls Int), .blk b3 25 [cv, words.v, .int .i64 ((Lk : Nat) : Int), .int .i64 nregs], .at_ words]) [0, 1, 2] (by decide) ⟨rfl, rfl, rfl, trivial⟩)⟩))
   ·exact no_way ν2 hSi
   ·have hs := St.mk (Fr.cons φ.fr0 (φ.at_ 1 1 4 _ rfl hd1)) ς
    refine step_ex (x_call hs bd_47 rfl rfl rfl rfl rfl (cloneI_c words _ (hs.sh.at 2 rfl) (by first | omega | (simp only [lens9]; omega)))) (wanted_none rfl _) ?_
    rintro a17 w17 ⟨_, ⟨s17, rfl, hs17⟩, hf17⟩ ⟨v0, ht17⟩
    have h17 := (⟨hf17, hs.sh.call hs17 (by intro A hA b hb; first | (simp at hA; done) | (simp at hA; subst hA; first | exact Flat.noRd hb | exact (hb : False).elim) | (simp at hA; rcases hA with rfl | rfl <;> first | exact Flat.noRd hb | exact (hb : False).elim))⟩ : St 12 (fun _ => False) W a17 w17 _ _)
    clear hf17 hs17
    exact Or.inr (Or.inr (Or.inr (Or.inl (⟨upd_self _ _, un rfl ν3, un rfl ν6, un rfl ν8, s17, v7003, φ.stepW hcl hSi [0, 1, 2, 3, 5] (by kernel_rfl) (by kernel_rfl) ht17 h17.fr.defers (h17.fr.at_ 5 _ rfl) 4 rfl rfl rfl rfl, (h17.sh.sel (L' := [.own 3 (⟨v7003, [(-1)]⟩ : Ls Int), .own 3 (⟨s17.v, words.l⟩ : Ls Int), .blk b3 25 [cv, words.v, .int .i64 ((Lk : Nat) : Int), .int .i64 nregs], .at_ words]) [1, 0, 2, 3] (by decide) ⟨rfl, rfl, rfl, rfl, trivial⟩)⟩))))
   ·exact no_way ν2 hSi
   ·exact no_way ν2 hSi
   ·exact no_way ν2 hSi
  ·obtain rfl : _ = o := Option.some.inj ho
   rcases hI with ⟨ν2, ν3, ν6, ν8, φ, ς⟩ | ⟨ν2, ν3, ν6, ν8, s7002, φ, ς⟩ | ⟨_, ν3, _⟩ | ⟨_, ν3, _⟩ | ⟨_, ν3, _⟩ | ⟨_, ν3, _⟩
   ·have hs := St.mk φ.fr0 ς
    refine step_ex (x_lit (n := 1) (cs := [.int .i64 (-1)]) ([(-1)] : List Int) hs sl_23 ti_3 rfl rfl rfl (by decide) rfl (by kernel_rfl) rfl (fun q hq w h => Flat.inner _ _) (fun q hq b hb => (Flat.on _ _ hb).elim) rfl rfl) (wanted_none rfl _) ?_
    rintro a18 w18 ⟨v18, h18⟩ ⟨v0, ht18⟩
    exact Or.inr (Or.inr (Or.inl (⟨un rfl ν2, upd_self _ _, un rfl ν6, un rfl ν8, v18, φ.stepW hcl hSi [0, 1, 2, 3] (by kernel_rfl) (by kernel_rfl) ht18 h18.fr.defers (h18.fr.at_ 6 _ rfl) 4 rfl rfl rfl rfl, (h18.sh.sel (L' := [.own 3 (⟨v18, [(-1)]⟩ : Ls Int), .blk b3 25 [cv, words.v, .int .i64 ((Lk : Nat) : Int), .int .i64 nregs], .at_ words]) [0, 1, 2] (by decide) ⟨rfl, rfl, rfl, trivial⟩)⟩)))
   ·have hs := St.mk φ.fr0 ς
    refine step_ex (x_lit (n := 1) (cs := [.int .i64 (-1)]) ([(-1)] : List Int) hs sl_23 ti_3 rfl rfl rfl (by decide) rfl (by kernel_rfl) rfl (fun q hq w h => Flat.inner _ _) (fun q hq b hb => (Flat.on _ _ hb).elim) rfl rfl) (wanted_none rfl _) ?_
    rintro a19 w19 ⟨v19, h19⟩ ⟨v0, ht19⟩
    exact Or.inr (Or.inr (Or.inr (Or.inl (⟨un rfl ν2, upd_self _ _, un rfl ν6, un rfl ν8, s7002, v19, φ.stepW hcl hSi [0, 1, 2, 3, 4] (by kernel_rfl) (by kernel_rfl) ht19 h19.fr.defers (h19.fr.at_ 6 _ rfl) 5 rfl rfl rfl rfl, (h19.sh.sel (L' := [.own 3 (⟨v19, [(-1)]⟩ : Ls Int), .own 3 (⟨s7002.v, words.l⟩ : Ls Int), .blk b3 25 [cv, words.v, .int .i64 ((Lk : Nat) : Int), .int .i64 nregs], .at_ words]) [0, 1, 2, 3] (by decide) ⟨rfl, rfl, rfl, rfl, trivial⟩)⟩))))
   ·exact no_way ν3 hSi
   ·exact no_way ν3 hSi
   ·exact no_way ν3 hSi
   ·exact no_way ν3 hSi
  ·obtain rfl : _ = o := Option.some.inj ho
   rcases hI with ⟨ν2, ν3, ν6, ν8, φ, ς⟩ | ⟨ν2, ν3, ν6, ν8, s7002, φ, ς⟩ | ⟨ν2, ν3, ν6, ν8, v7003, φ, ς⟩ | ⟨ν2, ν3, ν6, ν8, s7002, v7003, φ, ς⟩ | ⟨_, _, ν6, _⟩ | ⟨_, _, ν6, _⟩
   ·exact sq φ φ.fr0 ς (r_fieldB (r := 2) fl_25_2 rfl rfl rfl) 2 rfl rfl rfl rfl rfl rfl fun a hg => Or.inl (⟨un rfl ν2, un rfl ν3, un rfl ν6, un rfl ν8, hg, ς⟩)
   ·exact sq φ φ.fr0 ς (r_fieldB (r := 2) fl_25_2 rfl rfl rfl) 2 rfl rfl rfl rfl rfl rfl fun a hg => Or.inr (Or.inl (⟨un rfl ν2, un rfl ν3, un rfl ν6, un rfl ν8, s7002, hg, ς⟩))
   ·exact sq φ φ.fr0 ς (r_fieldB (r := 2) fl_25_2 rfl rfl rfl) 2 rfl rfl rfl rfl rfl rfl fun a hg => Or.inr (Or.inr (Or.inl (⟨un rfl ν2, un rfl ν3, un rfl ν6, un rfl ν8, v7003, hg, ς⟩)))
   ·exact sq φ φ.fr0 ς (r_fieldB (r := 2) fl_25_2 rfl rfl rfl) 2 rfl rfl rfl rfl rfl rfl fun a hg => Or.inr (Or.inr (Or.inr (Or.inl (⟨un rfl ν2, un rfl ν3, un rfl ν6, un rfl ν8, s7002, v7003, hg, ς⟩))))
   ·exact no_way (cA hcl 6 4 rfl ν6) hSi
   ·exact no_way (cA hcl 6 4 rfl ν6) hSi
  ·obtain rfl : _ = o := Option.some.inj ho
   have hd4 : S 4 = true := depAt hdep 0 rfl rfl
   rcases hI with ⟨ν2, ν3, ν6, ν8, φ, ς⟩ | ⟨ν2, ν3, ν6, ν8, s7002, φ, ς⟩ | ⟨ν2, ν3, ν6, ν8, v7003, φ, ς⟩ | ⟨ν2, ν3, ν6, ν8, s7002, v7003, φ, ς⟩ | ⟨_, _, ν6, _⟩ | ⟨_, _, ν6, _⟩
   ·exact sq φ (Fr.cons φ.fr0 (φ.at_ 2 4 7 _ rfl hd4)) ς (r_ldb (i := 0) ti_3 rfl rfl rfl rfl) 3 rfl rfl rfl rfl rfl rfl fun a hg => Or.inl (⟨un rfl ν2, un rfl ν3, un rfl ν6, un rfl ν8, hg, ς⟩)
   ·exact sq φ (Fr.cons φ.fr0 (φ.at_ 2 4 7 _ rfl hd4)) ς (r_ldb (i := 1) ti_3 rfl rfl rfl rfl) 3 rfl rfl rfl rfl rfl rfl fun a hg => Or.inr (Or.inl (⟨un rfl ν2, un rfl ν3, un rfl ν6, un rfl ν8, s7002, hg, ς⟩))
   ·exact sq φ (Fr.cons φ.fr0 (φ.at_ 2 4 7 _ rfl hd4)) ς (r_ldb (i := 1) ti_3 rfl rfl rfl rfl) 3 rfl rfl rfl rfl rfl rfl fun a hg => Or.inr (Or.inr (Or.inl (⟨un rfl ν2, un rfl ν3, un rfl ν6, un rfl ν8, v7003, hg, ς⟩)))
   ·exact sq φ (Fr.cons φ.fr0 (φ.at_ 2 4 7 _ rfl hd4)) ς (r_ldb (i := 2) ti_3 rfl rfl rfl rfl) 3 rfl rfl rfl rfl rfl rfl fun a hg => Or.inr (Or.inr (Or.inr (Or.inl (⟨un rfl ν2, un rfl ν3, un rfl ν6, un rfl ν8, s7002, v7003, hg, ς⟩))))
   ·exact no_way (cA hcl 6 5 rfl ν6) hSi
   ·exact no_way (cA hcl 6 5 rfl ν6) hSi
  ·obtain rfl : _ = o := Option.some.inj ho
   have hd3 : S 3 = true := depAt hdep 0 rfl rfl
   have hd5 : S 5 = true := depAt hdep 1 rfl rfl
   have hd2 : S 2 = true := depAt hdep 2 rfl rfl
   rcases hI with ⟨ν2, _⟩ | ⟨_, ν3, _⟩ | ⟨ν2, _⟩ | ⟨ν2, ν3, ν6, ν8, s7002, v7003, φ, ς⟩ | ⟨_, _, ν6, _⟩ | ⟨_, _, ν6, _⟩
   ·exact no_way hd2 ν2
   ·exact no_way hd3 ν3
   ·exact no_way hd2 ν2
   ·have hs := St.mk (Fr.cons (Fr.cons φ.fr0 (φ.at_ 5 3 6 _ rfl hd3)) (φ.at_ 3 5 8 _ rfl hd5)) ς
    refine step_ex (x_call hs bd_84 rfl rfl rfl rfl rfl (repeat_c (⟨v7003, [(-1)]⟩ : Ls Int) Lk _ (hs.sh.own 0 rfl) rfl (by omega))) (wanted_none rfl _) ?_
    rintro a28 w28 ⟨_, ⟨s28, rfl, hs28⟩, hf28⟩ ⟨v0, ht28⟩
    have h28 := (⟨hf28, hs.sh.call hs28 (by intro A hA b hb; first | (simp at hA; done) | (simp at hA; subst hA; first | exact Flat.noRd hb | exact (hb : False).elim) | (simp at hA; rcases hA with rfl | rfl <;> first | exact Flat.noRd hb | exact (hb : False).elim))⟩ : St 12 (fun _ => False) W a28 w28 _ _)
    clear hf28 hs28
    exact Or.inr (Or.inr (Or.inr (Or.inr (Or.inl (⟨un rfl ν2, un rfl ν3, upd_self _ _, un rfl ν8, s7002, v7003, s28, φ.stepW hcl hSi [0, 1, 2, 3, 4, 5] (by kernel_rfl) (by kernel_rfl) ht28 h28.fr.defers (h28.fr.at_ 9 _ rfl) 6 rfl rfl rfl rfl, (h28.sh.sel (L' := [.own 3 (⟨s28.v, List.replicate Lk (nth ([(-1)]) 0)⟩ : Ls Int), .own 3 (⟨v7003, [(-1)]⟩ : Ls Int), .own 3 (⟨s7002.v, words.l⟩ : Ls Int), .blk b3 25 [cv, words.v, .int .i64 ((Lk : Nat) : Int), .int .i64 nregs], .at_ words]) [0, 1, 2, 3, 4] (by decide) ⟨rfl, rfl, rfl, rfl, rfl, trivial⟩)⟩)))))
   ·exact no_way ν6 hSi
   ·exact no_way ν6 hSi
  ·obtain rfl : _ = o := Option.some.inj ho
   have hd2 : S 2 = true := depAt hdep 0 rfl rfl
   have hd6 : S 6 = true := depAt hdep 1 rfl rfl
   rcases hI with ⟨ν2, _⟩ | ⟨_, ν3, _⟩ | ⟨ν2, _⟩ | ⟨_, _, ν6, _⟩ | ⟨ν2, ν3, ν6, ν8, s7002, v7003, s7006, φ, ς⟩ | ⟨_, _, _, ν8, _⟩
   ·exact no_way hd2 ν2
   ·exact no_way (cA hcl 6 3 rfl hd6) ν3
   ·exact no_way hd2 ν2
   ·exact no_way hd6 ν6
   ·have hs := St.mk (Fr.cons (Fr.cons φ.fr0 (φ.at_ 4 2 5 _ rfl hd2)) (φ.at_ 6 6 9 _ rfl hd6)) ς
    exact sq φ (Fr.cons (Fr.cons φ.fr0 (φ.at_ 4 2 5 _ rfl hd2)) (φ.at_ 6 6 9 _ rfl hd6)) ς (r_build (cs := [s7002.v, s7006.v]) rfl rfl (by obtain ⟨A30, n30, c30, (e30 : s7006.v = _)⟩ := ((hs.sh.own 0 rfl)).form; rw [e30]; obtain ⟨A29, n29, c29, (e29 : s7002.v = _)⟩ := ((hs.sh.own 2 rfl)).form; rw [e29]; kernel_rfl)) 7 rfl rfl rfl rfl rfl rfl fun a hg => Or.inr (Or.inr (Or.inr (Or.inr (Or.inl (⟨un rfl ν2, un rfl ν3, un rfl ν6, un rfl ν8, s7002, v7003, s7006, hg, ς⟩)))))
   ·exact no_way (cA hcl 8 7 rfl ν8) hSi
  ·obtain rfl : _ = o := Option.some.inj ho
   have hd7 : S 7 = true := depAt hdep 0 rfl rfl
   rcases hI with ⟨ν2, _⟩ | ⟨_, ν3, _⟩ | ⟨ν2, _⟩ | ⟨_, _, ν6, _⟩ | ⟨ν2, ν3, ν6, ν8, s7002, v7003, s7006, φ, ς⟩ | ⟨_, _, _, ν8, _⟩
   ·exact no_way (cA hcl 7 2 rfl hd7) ν2
   ·exact no_way (cA hcl 7 3 rfl hd7) ν3
   ·exact no_way (cA hcl 7 2 rfl hd7) ν2
   ·exact no_way (cA hcl 7 6 rfl hd7) ν6
   ·have hs := St.mk (Fr.cons φ.fr0 (φ.at_ 7 7 10 _ rfl hd7)) ς
    refine step_ex (x_box (cs := [s7002.v, s7006.v]) hs rfl rfl rfl rfl rfl) (wanted_none rfl _) ?_
    rintro a32 w32 ⟨b32, h32⟩ ⟨v0, ht32⟩
    exact Or.inr (Or.inr (Or.inr (Or.inr (Or.inr (⟨un rfl ν2, un rfl ν3, un rfl ν6, upd_self _ _, s7002, v7003, s7006, b32, φ.stepW hcl hSi [0, 1, 2, 3, 4, 5, 6, 7] (by kernel_rfl) (by kernel_rfl) ht32 h32.fr.defers (h32.fr.at_ 11 _ rfl) 8 rfl rfl rfl rfl, (h32.sh.sel (L' := [.blk b32 205 [s7002.v, s7006.v], .own 3 (⟨s7006.v, List.replicate Lk (nth ([(-1)]) 0)⟩ : Ls Int), .own 3 (⟨v7003, [(-1)]⟩ : Ls Int), .own 3 (⟨s7002.v, words.l⟩ : Ls Int), .blk b3 25 [cv, words.v, .int .i64 ((Lk : Nat) : Int), .int .i64 nregs], .at_ words]) [0, 1, 2, 3, 4, 5] (by decide) ⟨rfl, rfl, rfl, rfl, rfl, rfl, trivial⟩)⟩)))))
   ·exact no_way ν8 hSi
  ·obtain rfl : _ = o := Option.some.inj ho
   have hd8 : S 8 = true := depAt hdep 0 rfl rfl
   have hd6 : S 6 = true := depAt hdep 1 rfl rfl
   have hd2 : S 2 = true := depAt hdep 4 rfl rfl
   have hd3 : S 3 = true := depAt hdep 5 rfl rfl
   rcases hI with ⟨ν2, _⟩ | ⟨_, ν3, _⟩ | ⟨ν2, _⟩ | ⟨_, _, ν6, _⟩ | ⟨_, _, _, ν8, _⟩ | ⟨ν2, ν3, ν6, ν8, s7002, v7003, s7006, b7008, φ, ς⟩
   ·exact no_way hd2 ν2
   ·exact no_way hd3 ν3
   ·exact no_way hd2 ν2
   ·exact no_way hd6 ν6
   ·exact no_way hd8 ν8
   ·exact sq φ (Fr.cons φ.fr0 (φ.at_ 8 8 11 _ rfl hd8)) ς (r_assign rfl rfl) 9 rfl rfl rfl rfl rfl rfl fun a hg => Or.inr (Or.inr (Or.inr (Or.inr (Or.inr (⟨un rfl ν2, un rfl ν3, un rfl ν6, un rfl ν8, s7002, v7003, s7006, b7008, hg, ς⟩)))))
  · simp at ho
 intro S hall a w hI
 clear h6
 rcases hI with ⟨ν2, ν3, ν6, ν8, φ, ς⟩ | ⟨ν2, ν3, ν6, ν8, s7002, φ, ς⟩ | ⟨ν2, ν3, ν6, ν8, v7003, φ, ς⟩ | ⟨ν2, ν3, ν6, ν8, s7002, v7003, φ, ς⟩ | ⟨ν2, ν3, ν6, ν8, s7002, v7003, s7006, φ, ς⟩ | ⟨ν2, ν3, ν6, ν8, s7002, v7003, s7006, b7008, φ, ς⟩
 · exact no_way (hall 2 (by decide)) ν2
 · exact no_way (hall 3 (by decide)) ν3
 · exact no_way (hall 2 (by decide)) ν2
 · exact no_way (hall 6 (by decide)) ν6
 · exact no_way (hall 8 (by decide)) ν8
 have h34 : St 12 (fun _ => False) W a w _ [.blk b7008 205 [s7002.v, s7006.v], .own 3 (⟨s7006.v, List.replicate Lk (nth ([(-1)]) 0)⟩ : Ls Int), .own 3 (⟨v7003, [(-1)]⟩ : Ls Int), .own 3 (⟨s7002.v, words.l⟩ : Ls Int), .blk b3 25 [cv, words.v, .int .i64 ((Lk : Nat) : Int), .int .i64 nregs], .at_ words] := ⟨(Fr.cons φ.fr0 (φ.at_ 9 9 2 _ rfl (hall 9 (by decide)))), ς⟩
 clear hall φ ς ν2 ν3 ν6 ν8
 refine hK5 _ _ <| wp_ret ?_
 try simp only [Exit.then, Exit.inBlock]
 refine x_ret1 (fn := Try.f76) (t := 2) rfl h34 rfl ?_
 exact ⟨b7008, ⟨s7002.v, words.l⟩, ⟨s7006.v, List.replicate Lk (nth ([(-1)]) 0)⟩, rfl, rfl, rfl, (h34.sh.sel (L' := [.blk b7008 205 [s7002.v, s7006.v], .own 3 (⟨s7002.v, words.l⟩ : Ls Int), .own 3 (⟨s7006.v, List.replicate Lk (nth ([(-1)]) 0)⟩ : Ls Int)]) [0, 3, 1] (by decide) ⟨rfl, rfl, rfl, trivial⟩)⟩

set_option maxRecDepth 100000 in
set_option maxHeartbeats 1000000 in
theorem plLoad_c (g : Nat) (words owner : Ls Int) (t a b : Int) (W : World) (hB : Blk W g 205 #[words.v, owner.v]) (hw : words.At W) (ho : owner.At W) (ha : 0 ≤ a ∧ a < words.l.length) :
    Rets Try.prog 183 [.pointer (some ⟨g, 0, none⟩), .int .i64 t, .int .i64 a] W (fun v w' => v = .int .i64 (nth words.l a.toNat) ∧ Sh0 W w' []) := by
 refine x_enter (N := 14) Try.func183 rfl Try.ntmps183 (Nat.le_of_ble_eq_true rfl) fun a1 hf1 => ?_
 have h1 : St 14 (fun _ => False) W a1 W [(0, .pointer (some ⟨g, 0, none⟩)), (1, .int .i64 t), (2, .int .i64 a)] [.rblk g 205 [words.v, owner.v], .at_ words, .at_ owner] := ⟨hf1.sub ⟨rfl, rfl, rfl, trivial⟩, Sh0.ext (by intro A hA; simp only [List.mem_cons, List.not_mem_nil, or_false] at hA; rcases hA with rfl | rfl | rfl; exact hB; exact hw; exact ho) (by intro A hA b hb; simp only [List.mem_cons, List.not_mem_nil, or_false] at hA; rcases hA with rfl | rfl | rfl <;> exact hb)⟩
 clear hf1
 refine wp_seq_k fun K2 hK2 => wp_region_lit <| wms 1 h1 rfl fun a3 h3 => wpList_nil <| hK2 _ _ <| wp_seq_k fun K4 hK4 => wp_region_lit <| wms 1 h3 rfl fun a5 h5 => wv h5 (r_nil rfl rfl) rfl rfl fun a6 h6 => wv h6 (r_fieldB (r := 0) fl_205_0 rfl rfl rfl) rfl rfl fun a7 h7 => wv h7 (r_ldbR ti_23 rfl rfl (fun w h => h.rblk 0 rfl) rfl) rfl rfl fun a8 h8 => wms 1 h8 rfl fun a9 h9 => ?_; clear h1 h3 h5 h6 h7 h8
 have hl10 : words.l.length ≤ 140737488355328 := (h9.sh.at 1 rfl).len
 refine wv h9 (r_ixI (s := words) (q := a) sl_23 ti_3 rfl rfl rfl (fun w h => (h.at 1 rfl)) (show 0 ≤ a ∧ a < words.l.length from (by omega))) rfl rfl fun a11 h11 => wv h11 (r_lde (s := words) (i := a.toNat) (v := .int .i64 (nth words.l a.toNat)) ti_3 rfl rfl rfl (fun w h => (h.at 1 rfl)) (show a.toNat < words.l.length from (by omega)) (Nat.le_of_ble_eq_true rfl) rfl) rfl rfl fun a12 h12 => wms 1 h12 rfl fun a13 h13 => wpList_nil <| hK4 _ _ <| wp_ret ?_; clear h9 h11 h12
 try simp only [Exit.then, Exit.inBlock]
 refine x_ret1 (fn := Try.f183) (t := 6) rfl h13 rfl ?_
 exact ⟨rfl, (h13.sh.sel [] (by decide) trivial)⟩

set_option maxRecDepth 100000 in
set_option maxHeartbeats 1000000 in
theorem plFreeing_c (g : Nat) (words owner : Ls Int) (t a b : Int) (W : World) (hB : Blk W g 205 #[words.v, owner.v]) (hw : words.At W) (ho : owner.At W) :
    Rets Try.prog 182 [.pointer (some ⟨g, 0, none⟩), .int .i64 t, .int .i64 a] W (fun v w' => v = .bool false ∧ Sh0 W w' []) := by
 refine x_enter (N := 7) Try.func182 rfl Try.ntmps182 (Nat.le_of_ble_eq_true rfl) fun a1 hf1 => ?_
 have h1 : St 7 (fun _ => False) W a1 W [(0, .pointer (some ⟨g, 0, none⟩)), (1, .int .i64 t), (2, .int .i64 a)] [.rblk g 205 [words.v, owner.v], .at_ words, .at_ owner] := ⟨hf1.sub ⟨rfl, rfl, rfl, trivial⟩, Sh0.ext (by intro A hA; simp only [List.mem_cons, List.not_mem_nil, or_false] at hA; rcases hA with rfl | rfl | rfl; exact hB; exact hw; exact ho) (by intro A hA b hb; simp only [List.mem_cons, List.not_mem_nil, or_false] at hA; rcases hA with rfl | rfl | rfl <;> exact hb)⟩
 clear hf1
 refine wp_seq_k fun K2 hK2 => wp_region_lit <| wms 1 h1 rfl fun a3 h3 => wpList_nil <| hK2 _ _ <| wp_seq_k fun K4 hK4 => wp_region_lit <| wms 1 h3 rfl fun a5 h5 => wpList_nil <| hK4 _ _ <| wp_ret ?_; clear h1 h3
 try simp only [Exit.then, Exit.inBlock]
 refine x_ret1 (fn := Try.f182) (t := 6) rfl h5 rfl ?_
 exact ⟨rfl, (h5.sh.sel [] (by decide) trivial)⟩

set_option maxRecDepth 100000 in
set_option maxHeartbeats 1000000 in
theorem plWaits_c (g : Nat) (words owner : Ls Int) (t a b : Int) (W : World) (hB : Blk W g 205 #[words.v, owner.v]) (hw : words.At W) (ho : owner.At W) :
    Rets Try.prog 187 [.pointer (some ⟨g, 0, none⟩), .int .i64 t] W (fun v w' => v = .int .i64 ((0 : Nat) : Int) ∧ Sh0 W w' []) := by
 refine x_enter (N := 5) Try.func187 rfl Try.ntmps187 (Nat.le_of_ble_eq_true rfl) fun a1 hf1 => ?_
 have h1 : St 5 (fun _ => False) W a1 W [(0, .pointer (some ⟨g, 0, none⟩)), (1, .int .i64 t)] [.rblk g 205 [words.v, owner.v], .at_ words, .at_ owner] := ⟨hf1.sub ⟨rfl, rfl, trivial⟩, Sh0.ext (by intro A hA; simp only [List.mem_cons, List.not_mem_nil, or_false] at hA; rcases hA with rfl | rfl | rfl; exact hB; exact hw; exact ho) (by intro A hA b hb; simp only [List.mem_cons, List.not_mem_nil, or_false] at hA; rcases hA with rfl | rfl | rfl <;> exact hb)⟩
 clear hf1
 refine wp_seq_k fun K2 hK2 => wp_region_lit <| wms 1 h1 rfl fun a3 h3 => wpList_nil <| hK2 _ _ <| wp_seq_k fun K4 hK4 => wp_region_lit <| wms 1 h3 rfl fun a5 h5 => wpList_nil <| hK4 _ _ <| wp_ret ?_; clear h1 h3
 try simp only [Exit.then, Exit.inBlock]
 refine x_ret1 (fn := Try.f187) (t := 4) rfl h5 rfl ?_
 exact ⟨rfl, (h5.sh.sel [] (by decide) trivial)⟩

set_option maxRecDepth 100000 in
set_option maxHeartbeats 1000000 in
theorem plReady_c (g : Nat) (words owner : Ls Int) (t a b : Int) (W : World) (hB : Blk W g 205 #[words.v, owner.v]) (hw : words.At W) (ho : owner.At W) :
    Rets Try.prog 184 [.pointer (some ⟨g, 0, none⟩), .int .i64 t] W (fun v w' => v = .slice none 0 0 ∧ Sh0 W w' []) := by
 refine x_enter (N := 5) Try.func184 rfl Try.ntmps184 (Nat.le_of_ble_eq_true rfl) fun a1 hf1 => ?_
 have h1 : St 5 (fun _ => False) W a1 W [(0, .pointer (some ⟨g, 0, none⟩)), (1, .int .i64 t)] [.rblk g 205 [words.v, owner.v], .at_ words, .at_ owner] := ⟨hf1.sub ⟨rfl, rfl, trivial⟩, Sh0.ext (by intro A hA; simp only [List.mem_cons, List.not_mem_nil, or_false] at hA; rcases hA with rfl | rfl | rfl; exact hB; exact hw; exact ho) (by intro A hA b hb; simp only [List.mem_cons, List.not_mem_nil, or_false] at hA; rcases hA with rfl | rfl | rfl <;> exact hb)⟩
 clear hf1
 refine wp_seq_k fun K2 hK2 => wp_region_lit <| wms 1 h1 rfl fun a3 h3 => wpList_nil <| hK2 _ _ <| wp_seq_k fun K4 hK4 => wp_region_lit <| wms 1 h3 rfl fun a5 h5 => wpList_nil <| hK4 _ _ <| wp_ret ?_; clear h1 h3
 try simp only [Exit.then, Exit.inBlock]
 refine x_ret1 (fn := Try.f184) (t := 4) rfl h5 rfl ?_
 exact ⟨rfl, (h5.sh.sel [] (by decide) trivial)⟩

set_option maxRecDepth 100000 in
set_option maxHeartbeats 1000000 in
theorem plBase_c (g : Nat) (words owner : Ls Int) (t a b : Int) (W : World) (hB : Blk W g 205 #[words.v, owner.v]) (hw : words.At W) (ho : owner.At W) :
    Rets Try.prog 179 [.pointer (some ⟨g, 0, none⟩)] W (fun v w' => v = .pointer (some ⟨g, 0, none⟩) ∧ Sh0 W w' []) := by
 refine x_enter (N := 4) Try.func179 rfl Try.ntmps179 (Nat.le_of_ble_eq_true rfl) fun a1 hf1 => ?_
 have h1 : St 4 (fun _ => False) W a1 W [(0, .pointer (some ⟨g, 0, none⟩))] [.rblk g 205 [words.v, owner.v], .at_ words, .at_ owner] := ⟨hf1.sub ⟨rfl, trivial⟩, Sh0.ext (by intro A hA; simp only [List.mem_cons, List.not_mem_nil, or_false] at hA; rcases hA with rfl | rfl | rfl; exact hB; exact hw; exact ho) (by intro A hA b hb; simp only [List.mem_cons, List.not_mem_nil, or_false] at hA; rcases hA with rfl | rfl | rfl <;> exact hb)⟩
 clear hf1
 refine wp_seq_k fun K2 hK2 => wp_region_lit <| wms 1 h1 rfl fun a3 h3 => wpList_nil <| hK2 _ _ <| wp_seq_k fun K4 hK4 => wp_region_lit <| wms 2 h3 rfl fun a5 h5 => wpList_nil <| hK4 _ _ <| wp_ret ?_; clear h1 h3
 try simp only [Exit.then, Exit.inBlock]
 refine x_ret1 (fn := Try.f179) (t := 2) rfl h5 rfl ?_
 exact ⟨rfl, (h5.sh.sel [] (by decide) trivial)⟩

set_option maxRecDepth 100000 in
set_option maxHeartbeats 1000000 in
theorem plStore_c (K : Nat → Prop) (g : Nat) (words owner : Ls Int) (t a b : Int) (W : World) (hS : Sh K W W [.blk g 205 [words.v, owner.v], .own 3 words, .own 3 owner]) (ha : 0 ≤ a ∧ a < words.l.length) :
    Rets Try.prog 185 [.pointer (some ⟨g, 0, none⟩), .int .i64 t, .int .i64 a, .int .i64 b] W (fun v w' => v = .tuple #[] ∧ Sh K W w' [.blk g 205 [words.v, owner.v], .own 3 (⟨words.v, words.l.set a.toNat b⟩ : Ls Int), .own 3 (⟨owner.v, owner.l⟩ : Ls Int)]) := by
 refine x_enter (N := 15) Try.func185 rfl Try.ntmps185 (Nat.le_of_ble_eq_true rfl) fun a1 hf1 => ?_
 have h1 : St 15 K W a1 W [(0, .pointer (some ⟨g, 0, none⟩)), (1, .int .i64 t), (2, .int .i64 a), (3, .int .i64 b)] [.blk g 205 [words.v, owner.v], .own 3 words, .own 3 owner] := ⟨hf1.sub ⟨rfl, rfl, rfl, rfl, trivial⟩, hS⟩
 clear hf1
 refine wp_region_lit <| wms 1 h1 rfl fun a2 h2 => wv h2 (r_nil rfl rfl) rfl rfl fun a3 h3 => wv h3 (r_fieldB (r := 0) fl_205_0 rfl rfl rfl) rfl rfl fun a4 h4 => wv h4 (r_ldb (i := 0) ti_23 rfl rfl rfl rfl) rfl rfl fun a5 h5 => wms 2 h5 rfl fun a6 h6 => ?_; clear h1 h2 h3 h4 h5
 have hl7 : words.l.length ≤ 140737488355328 := (h6.sh.own 1 rfl).len
 refine wv h6 (r_ixI (s := words) (q := a) sl_23 ti_3 rfl rfl rfl (fun w h => (h.own 1 rfl)) (show 0 ≤ a ∧ a < words.l.length from (by omega))) rfl rfl fun a8 h8 => wl_ex (x_ste (r := 1) (i := a.toNat) (j := 0) (x' := (b : Int)) h8 ti_3 rfl rfl rfl rfl rfl (show a.toNat < words.l.length from (by omega)) (Nat.le_of_ble_eq_true rfl) rfl rfl rfl (by intro q hq; obtain rfl : q = 0 := (by omega); rfl) (fun w h => Flat.inner _ _) (fun b hb => (Flat.on _ _ hb).elim)) (wanted_none rfl _) ?_; clear h6
 rintro a9 w9 h9
 clear h8
 refine wpList_nil ?_
 try simp only [Exit.then, Exit.inBlock, if_true]
 refine x_end0 (fn := Try.f185) rfl h9 ?_
 exact ⟨rfl, (h9.sh.sel (L' := [.blk g 205 [words.v, owner.v], .own 3 (⟨words.v, words.l.set a.toNat b⟩ : Ls Int), .own 3 owner]) [0, 1, 2] (by decide) ⟨rfl, rfl, rfl, trivial⟩)⟩

set_option maxRecDepth 100000 in
set_option maxHeartbeats 1000000 in
theorem plSwap_c (K : Nat → Prop) (g : Nat) (words owner : Ls Int) (t a b : Int) (W : World) (hS : Sh K W W [.blk g 205 [words.v, owner.v], .own 3 words, .own 3 owner]) (ha : 0 ≤ a ∧ a < words.l.length) :
    Rets Try.prog 186 [.pointer (some ⟨g, 0, none⟩), .int .i64 t, .int .i64 a, .int .i64 b] W (fun v w' => v = .tuple #[] ∧ Sh K W w' [.blk g 205 [words.v, owner.v], .own 3 (⟨words.v, words.l.set a.toNat b⟩ : Ls Int), .own 3 (⟨owner.v, owner.l⟩ : Ls Int)]) := by
 refine x_enter (N := 15) Try.func186 rfl Try.ntmps186 (Nat.le_of_ble_eq_true rfl) fun a1 hf1 => ?_
 have h1 : St 15 K W a1 W [(0, .pointer (some ⟨g, 0, none⟩)), (1, .int .i64 t), (2, .int .i64 a), (3, .int .i64 b)] [.blk g 205 [words.v, owner.v], .own 3 words, .own 3 owner] := ⟨hf1.sub ⟨rfl, rfl, rfl, rfl, trivial⟩, hS⟩
 clear hf1
 refine wp_region_lit <| wms 1 h1 rfl fun a2 h2 => wv h2 (r_nil rfl rfl) rfl rfl fun a3 h3 => wv h3 (r_fieldB (r := 0) fl_205_0 rfl rfl rfl) rfl rfl fun a4 h4 => wv h4 (r_ldb (i := 0) ti_23 rfl rfl rfl rfl) rfl rfl fun a5 h5 => wms 2 h5 rfl fun a6 h6 => ?_; clear h1 h2 h3 h4 h5
 have hl7 : words.l.length ≤ 140737488355328 := (h6.sh.own 1 rfl).len
 refine wv h6 (r_ixI (s := words) (q := a) sl_23 ti_3 rfl rfl rfl (fun w h => (h.own 1 rfl)) (show 0 ≤ a ∧ a < words.l.length from (by omega))) rfl rfl fun a8 h8 => wl_ex (x_ste (r := 1) (i := a.toNat) (j := 0) (x' := (b : Int)) h8 ti_3 rfl rfl rfl rfl rfl (show a.toNat < words.l.length from (by omega)) (Nat.le_of_ble_eq_true rfl) rfl rfl rfl (by intro q hq; obtain rfl : q = 0 := (by omega); rfl) (fun w h => Flat.inner _ _) (fun b hb => (Flat.on _ _ hb).elim)) (wanted_none rfl _) ?_; clear h6
 rintro a9 w9 h9
 clear h8
 refine wpList_nil ?_
 try simp only [Exit.then, Exit.inBlock, if_true]
 refine x_end0 (fn := Try.f186) rfl h9 ?_
 exact ⟨rfl, (h9.sh.sel (L' := [.blk g 205 [words.v, owner.v], .own 3 (⟨words.v, words.l.set a.toNat b⟩ : Ls Int), .own 3 owner]) [0, 1, 2] (by decide) ⟨rfl, rfl, rfl, trivial⟩)⟩

set_option maxRecDepth 100000 in
set_option maxHeartbeats 1000000 in
theorem plFree_c (K : Nat → Prop) (g : Nat) (words owner : Ls Int) (t a b : Int) (W : World) (hS : Sh K W W [.blk g 205 [words.v, owner.v], .own 3 words, .own 3 owner]) (ha : 0 ≤ a ∧ a < owner.l.length) :
    Rets Try.prog 181 [.pointer (some ⟨g, 0, none⟩), .int .i64 t, .int .i64 a] W (fun v w' => v = .tuple #[] ∧ Sh K W w' [.blk g 205 [words.v, owner.v], .own 3 (⟨words.v, words.l⟩ : Ls Int), .own 3 (⟨owner.v, owner.l.set a.toNat (-1)⟩ : Ls Int)]) := by
 refine x_enter (N := 12) Try.func181 rfl Try.ntmps181 (Nat.le_of_ble_eq_true rfl) fun a1 hf1 => ?_
 have h1 : St 12 K W a1 W [(0, .pointer (some ⟨g, 0, none⟩)), (1, .int .i64 t), (2, .int .i64 a)] [.blk g 205 [words.v, owner.v], .own 3 words, .own 3 owner] := ⟨hf1.sub ⟨rfl, rfl, rfl, trivial⟩, hS⟩
 clear hf1
 refine wp_region_lit <| wms 1 h1 rfl fun a2 h2 => wv h2 (r_nil rfl rfl) rfl rfl fun a3 h3 => wv h3 (r_fieldB (r := 1) fl_205_1 rfl rfl rfl) rfl rfl fun a4 h4 => wv h4 (r_ldb (i := 0) ti_23 rfl rfl rfl rfl) rfl rfl fun a5 h5 => wms 1 h5 rfl fun a6 h6 => ?_; clear h1 h2 h3 h4 h5
 have hl7 : owner.l.length ≤ 140737488355328 := (h6.sh.own 2 rfl).len
 refine wv h6 (r_ixI (s := owner) (q := a) sl_23 ti_3 rfl rfl rfl (fun w h => (h.own 2 rfl)) (show 0 ≤ a ∧ a < owner.l.length from (by omega))) rfl rfl fun a8 h8 => wl_ex (x_ste (r := 2) (i := a.toNat) (j := 0) (x' := ((-1) : Int)) h8 ti_3 rfl rfl rfl rfl rfl (show a.toNat < owner.l.length from (by omega)) (Nat.le_of_ble_eq_true rfl) rfl rfl rfl (by intro q hq; obtain rfl : q = 0 := (by omega); rfl) (fun w h => Flat.inner _ _) (fun b hb => (Flat.on _ _ hb).elim)) (wanted_none rfl _) ?_; clear h6
 rintro a9 w9 h9
 clear h8
 refine wpList_nil ?_
 try simp only [Exit.then, Exit.inBlock, if_true]
 refine x_end0 (fn := Try.f181) rfl h9 ?_
 exact ⟨rfl, (h9.sh.sel (L' := [.blk g 205 [words.v, owner.v], .own 3 words, .own 3 (⟨owner.v, owner.l.set a.toNat (-1)⟩ : Ls Int)]) [0, 1, 2] (by decide) ⟨rfl, rfl, rfl, trivial⟩)⟩

end Go.Proofs.Ytfpaahkleienoaa
