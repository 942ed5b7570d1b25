/-
  Contracts of functions of this program and of the references, each walked once.
-/
import Derived.Test.YtfpaahkleienoaaX15
import Derived.Test.YtfpaahkleienoaaS8
namespace Go.Proofs.Ytfpaahkleienoaa
open Go.RowKit
set_option linter.unusedSimpArgs false
set_option linter.unusedVariables false


theorem findsL_some {l : List Wt} {words : List Int} {w : Int} {i : Nat} (hi : i < l.length) (h1 : (nth l i).lock = false) (h2 : (nth l i).wh = w) (ha : ∀ j, i < j → j < l.length → ¬ ((nth l j).lock = false ∧ (nth l j).wh = w)) : findsL l words w = (nth l i).what := by
  have e : l.reverse.find? (fun x => !x.lock && decide (x.wh = w)) = some (nth l i) := by
    have hs : l = l.take i ++ nth l i :: l.drop (i + 1) := by
      have := List.take_append_drop i l
      rw [List.drop_eq_getElem_cons hi] at this
      rw [show nth l i = l[i] from by simp [nth, hi]]
      exact this.symm
    rw [hs, List.reverse_append, List.reverse_cons, List.find?_append, List.find?_append]
    have hn : (l.drop (i + 1)).reverse.find? (fun x => !x.lock && decide (x.wh = w)) = none := by
      rw [List.find?_eq_none]
      intro x hx
      rw [List.mem_reverse] at hx
      obtain ⟨k, hk, rfl⟩ := List.mem_iff_getElem.1 hx
      have hk2 : i + 1 + k < l.length := by simpa [Nat.lt_sub_iff_add_lt, Nat.add_comm] using hk
      have := ha (i + 1 + k) (by omega) hk2
      rw [show nth l (i + 1 + k) = (l.drop (i + 1))[k] from by simp [nth, hk2]] at this
      intro hc
      simp only [Bool.and_eq_true, Bool.not_eq_true', decide_eq_true_eq] at hc
      exact this hc
    rw [← hs, hn]
    simp [h1, h2]
  unfold findsL
  rw [e]
theorem findsL_none {l : List Wt} {words : List Int} {w : Int} (ha : ∀ j, j < l.length → ¬ ((nth l j).lock = false ∧ (nth l j).wh = w)) : findsL l words w = nth words w.toNat := by
  have e : l.reverse.find? (fun x => !x.lock && decide (x.wh = w)) = none := by
    rw [List.find?_eq_none]
    intro x hx
    rw [List.mem_reverse] at hx
    obtain ⟨k, hk, rfl⟩ := List.mem_iff_getElem.1 hx
    have := ha k hk
    rw [show nth l k = l[k] from by simp [nth, hk]] at this
    intro hc
    simp only [Bool.and_eq_true, Bool.not_eq_true', decide_eq_true_eq] at hc
    exact this hc
  unfold findsL
  rw [e]

set_option maxRecDepth 100000 in
set_option maxHeartbeats 1000000 in
theorem finds_c (g t : Nat) (word : Int) (thr : Ls ThV) (words : Ls Int) (wait : Ls Wt) (cv pw : Value) (locks regs mode : Int) (ov pv : Value) (fell : Bool) (W : World) (hB : Blk W g 125 #[cv, pw, .int .i64 locks, .int .i64 regs, .int .i64 mode, thr.v, words.v, ov, pv, .bool fell]) (h_thr : thr.At W) (h_words : words.At W) (h_wait : wait.At W) (ht : t < thr.l.length) (hwv : (nth thr.l t).wv = wait.v) (hwo : 0 ≤ word ∧ word < words.l.length) :
    Rets Try.prog 129 [.pointer (some ⟨g, 0, none⟩), .int .i64 ((t : Nat) : Int), .int .i64 word] W (fun v w' => v = .int .i64 (findsL wait.l words.l word) ∧ Sh0 W w' []) := by
 refine x_enter (N := 51) Try.func129 rfl Try.ntmps129 (Nat.le_of_ble_eq_true rfl) fun a1 hf1 => ?_
 have h1 : St 51 (fun _ => False) W a1 W [(0, .pointer (some ⟨g, 0, none⟩)), (1, .int .i64 ((t : Nat) : Int)), (2, .int .i64 word)] [.rblk g 125 [cv, pw, .int .i64 locks, .int .i64 regs, .int .i64 mode, thr.v, words.v, ov, pv, .bool fell], .at_ thr, .at_ words, .at_ wait] := ⟨hf1.sub ⟨rfl, rfl, rfl, trivial⟩, Sh0.ext (by intro A hA; simp at hA; rcases hA with rfl | rfl | rfl | rfl; exact hB; exact h_thr; exact h_words; exact h_wait) (by intro A hA b hb; simp at hA; rcases hA with rfl | rfl | rfl | rfl <;> exact hb)⟩
 clear hf1
 refine wp_seq_k fun K2 hK2 => wp_region_lit <| wms 1 h1 rfl fun a3 h3 => wpList_nil <| hK2 _ _ <| wp_seq_k fun K4 hK4 => wp_region_lit <| wms 1 h3 rfl fun a5 h5 => wv h5 (r_nil rfl rfl) rfl rfl fun a6 h6 => wv h6 (r_fieldB (r := 5) fl_125_2 rfl rfl rfl) rfl rfl fun a7 h7 => wv h7 (r_ldbR ti_123 rfl rfl (fun w h => h.rblk 0 rfl) rfl) rfl rfl fun a8 h8 => wms 1 h8 rfl fun a9 h9 => ?_; clear h1 h3 h5 h6 h7 h8
 have hl10 : thr.l.length ≤ 140737488355328 := (h9.sh.at 1 rfl).len
 refine wv h9 (r_ixN (s := thr) (q := t) sl_123 ti_147 rfl rfl rfl (fun w h => (h.at 1 rfl)) (show t < thr.l.length from (by omega))) rfl rfl fun a11 h11 => wv h11 (r_fieldE (r := 2) fl_147_2 rfl rfl rfl) rfl rfl fun a12 h12 => wv h12 (Rn.same (r_lde (s := thr) (i := t) (v := ((nth thr.l t).wv)) ti_145 rfl rfl rfl (fun w h => (h.at 1 rfl)) (show t < thr.l.length from (by omega)) (Nat.le_of_ble_eq_true rfl) rfl) hwv) rfl rfl fun a13 h13 => wms 1 h13 rfl fun a14 h14 => wpList_nil <| hK4 _ _ <| wp_seq_k fun K15 hK15 => wp_seq_k fun K16 hK16 => wp_region_lit <| wms 1 h14 rfl fun a17 h17 => ?_; clear h9 h11 h12 h13 h14
 have hl18 : wait.l.length ≤ 140737488355328 := (h17.sh.at 3 rfl).len
 refine wv h17 (r_len (s := wait) (n := wait.l.length) sl_145 rfl rfl (fun w h => (h.at 3 rfl)) rfl) rfl rfl fun a19 h19 => wv h19 (r_subI (p := ((wait.l.length : Nat) : Int)) (q := 1) rfl rfl rfl (show -9223372036854775808 ≤ ((wait.l.length : Nat) : Int) - 1 ∧ ((wait.l.length : Nat) : Int) - 1 < 9223372036854775808 from (by omega))) rfl rfl fun a20 h20 => wms 1 h20 rfl fun a21 h21 => wpList_nil <| hK16 _ _ <| wp_block <| x_loop (fun m a w => ∃ (i : Int), (-1 ≤ i ∧ i < wait.l.length) ∧ (∀ j : Nat, i < j → j < wait.l.length → ¬ ((nth wait.l j).lock = false ∧ (nth wait.l j).wh = word)) ∧ St 51 (fun _ => False) W a w [(0, .pointer (some ⟨g, 0, none⟩)), (2, .int .i64 word), (7, wait.v), (8, .int .i64 i)] [.rblk g 125 [cv, pw, .int .i64 locks, .int .i64 regs, .int .i64 mode, thr.v, words.v, ov, pv, .bool fell], .at_ thr, .at_ words, .at_ wait] ∧ m = (i + 1).toNat) ⟨_, ((wait.l.length : Nat) : Int) - 1, (by omega), (fun j hj hj2 => absurd hj (by omega)), h21.nrm ⟨rfl, rfl, rfl, rfl, trivial⟩ [0, 1, 2, 3] (by decide) ⟨rfl, rfl, rfl, rfl, trivial⟩, rfl⟩ ?_; clear h17 h19 h20
 clear h21
 rintro m22 a22 w22 ⟨i, hi, hall, h22, hm22⟩
 refine wp_seq_k fun K23 hK23 => wp_seq_k fun K24 hK24 => wp_region_lit <| wms 1 h22 rfl fun a25 h25 => wv h25 (r_geqI (p := i) (q := 0) rfl rfl rfl) rfl rfl fun a26 h26 => wpList_nil <| hK24 _ _ <| x_cond h26 rfl (fun hb27 => ?_) (fun hb27 => ?_); clear h22 h25
 ·have hp27 : 0 ≤ i := of_decide_eq_true hb27
  refine wp_skip <| hK23 _ _ <| wp_seq_k fun K28 hK28 => wp_block <| wp_seq_k fun K29 hK29 => wp_region_lit <| wms 2 h26 rfl fun a30 h30 => wv h30 (r_ixI (s := wait) (q := i) sl_145 ti_210 rfl rfl rfl (fun w h => (h.at 3 rfl)) (show 0 ≤ i ∧ i < wait.l.length from (by omega))) rfl rfl fun a31 h31 => wv h31 (r_fieldE (r := 0) fl_210_0 rfl rfl rfl) rfl rfl fun a32 h32 => wv h32 (r_lde (s := wait) (i := i.toNat) (v := .bool ((nth wait.l i.toNat).lock)) ti_4 rfl rfl rfl (fun w h => (h.at 3 rfl)) (show i.toNat < wait.l.length from (by omega)) (Nat.le_of_ble_eq_true rfl) rfl) rfl rfl fun a33 h33 => wv h33 (r_not rfl rfl) rfl rfl fun a34 h34 => wms 1 h34 rfl fun a35 h35 => ?_; clear h26 h30 h31 h32 h33 h34
  rcases Bool.eq_false_or_eq_true (!((nth wait.l i.toNat).lock)) with hb36 | hb36
  ·have hn36 : (nth wait.l i.toNat).lock = false := (Bool.not_eq_true' _).mp hb36
   refine wl_val h35 (r_move rfl rfl) (wanted_yes h35.fr rfl rfl rfl rfl hb36) rfl rfl fun a37 h37 => wl_val h37 (r_move rfl rfl) (wanted_yes h37.fr rfl rfl rfl rfl hb36) rfl rfl fun a38 h38 => wl_val h38 (r_ixI (s := wait) (q := i) sl_145 ti_210 rfl rfl rfl (fun w h => (h.at 3 rfl)) (show 0 ≤ i ∧ i < wait.l.length from (by omega))) (wanted_yes h38.fr rfl rfl rfl rfl hb36) rfl rfl fun a39 h39 => wl_val h39 (r_fieldE (r := 1) fl_210_1 rfl rfl rfl) (wanted_yes h39.fr rfl rfl rfl rfl hb36) rfl rfl fun a40 h40 => wl_val h40 (r_lde (s := wait) (i := i.toNat) (v := .int .i64 ((nth wait.l i.toNat).wh)) ti_3 rfl rfl rfl (fun w h => (h.at 3 rfl)) (show i.toNat < wait.l.length from (by omega)) (Nat.le_of_ble_eq_true rfl) rfl) (wanted_yes h40.fr rfl rfl rfl rfl hb36) rfl rfl fun a41 h41 => wl_val h41 (r_move rfl rfl) (wanted_yes h41.fr rfl rfl rfl rfl hb36) rfl rfl fun a42 h42 => wl_val h42 (r_eqlI (p := (nth wait.l i.toNat).wh) (q := word) rfl rfl rfl) (wanted_yes h42.fr rfl rfl rfl rfl hb36) rfl rfl fun a43 h43 => wv h43 (r_pickT rfl rfl hb36 rfl) rfl rfl fun a44 h44 => wpList_nil <| hK29 _ _ <| x_cond h44 rfl (fun hb45 => ?_) (fun hb45 => ?_); clear h35 h37 h38 h39 h40 h41 h42 h43
   ·have hp45 : (nth wait.l i.toNat).wh = word := of_decide_eq_true hb45
    refine wp_seq_k fun K46 hK46 => wp_region_lit <| wms 2 h44 rfl fun a47 h47 => wv h47 (r_ixI (s := wait) (q := i) sl_145 ti_210 rfl rfl rfl (fun w h => (h.at 3 rfl)) (show 0 ≤ i ∧ i < wait.l.length from (by omega))) rfl rfl fun a48 h48 => wv h48 (r_fieldE (r := 2) fl_210_2 rfl rfl rfl) rfl rfl fun a49 h49 => wv h49 (r_lde (s := wait) (i := i.toNat) (v := .int .i64 ((nth wait.l i.toNat).what)) ti_3 rfl rfl rfl (fun w h => (h.at 3 rfl)) (show i.toNat < wait.l.length from (by omega)) (Nat.le_of_ble_eq_true rfl) rfl) rfl rfl fun a50 h50 => wms 1 h50 rfl fun a51 h51 => wpList_nil <| hK46 _ _ ?_; clear h44 h47 h48 h49 h50
    have h52 : St 51 (fun _ => False) W a51 w22 [(6, .int .i64 ((nth wait.l i.toNat).what))] [.rblk g 125 [cv, pw, .int .i64 locks, .int .i64 regs, .int .i64 mode, thr.v, words.v, ov, pv, .bool fell], .at_ thr, .at_ words, .at_ wait] := h51.nrm ⟨rfl, trivial⟩ [0, 1, 2, 3] (by decide) ⟨rfl, rfl, rfl, rfl, trivial⟩
    clear h51
    refine wp_ret ?_
    try simp only [Exit.then, Exit.inBlock]
    refine x_ret1 (fn := Try.f129) (t := 6) rfl h52 rfl <| ⟨?_, (h52.sh.sel [] (by decide) trivial)⟩
    congr 1
    first | exact (findsL_some (i := i.toNat) (by omega) (by assumption) (by omega) (fun j hj hj2 => hall j (by omega) hj2)).symm | exact (findsL_none (fun j hj => hall j (by omega) hj)).symm
   have hp45 : ¬ ((nth wait.l i.toNat).wh = word) := of_decide_eq_false hb45
   refine wp_skip <| hK28 _ _ <| wp_region_lit <| wms 1 h44 rfl fun a53 h53 => wv h53 (r_subI (p := i) (q := 1) rfl rfl rfl (show -9223372036854775808 ≤ i - 1 ∧ i - 1 < 9223372036854775808 from (by omega))) rfl rfl fun a54 h54 => wms 1 h54 rfl fun a55 h55 => wpList_nil <| x_again ⟨_, ?_, i - 1, ?_, ?_, h55.nrm ⟨rfl, rfl, rfl, rfl, trivial⟩ [0, 1, 2, 3] (by decide) ⟨rfl, rfl, rfl, rfl, trivial⟩, rfl⟩; clear h44 h53 h54
   · rw [hm22]; first | omega | (simp only [lens9]; omega)
   · omega
   · intro j hj hj2; by_cases h9 : i < j; (exact hall j h9 hj2); obtain rfl : j = i.toNat := (by omega); first | (rintro ⟨h8, _⟩; exact absurd (h8.symm.trans (show _ = true by assumption)) (by decide)) | (rintro ⟨_, h8⟩; omega)
  have hn36 : (nth wait.l i.toNat).lock = true := (Bool.not_eq_false' _).mp hb36
  refine wl_skip h35 (wanted_no h35.fr rfl rfl rfl rfl hb36) rfl rfl fun a56 h56 => wl_skip h56 (wanted_no h56.fr rfl rfl rfl rfl hb36) rfl rfl fun a57 h57 => wl_skip h57 (wanted_no h57.fr rfl rfl rfl rfl hb36) rfl rfl fun a58 h58 => wl_skip h58 (wanted_no h58.fr rfl rfl rfl rfl hb36) rfl rfl fun a59 h59 => wl_skip h59 (wanted_no h59.fr rfl rfl rfl rfl hb36) rfl rfl fun a60 h60 => wl_skip h60 (wanted_no h60.fr rfl rfl rfl rfl hb36) rfl rfl fun a61 h61 => wl_skip h61 (wanted_no h61.fr rfl rfl rfl rfl hb36) rfl rfl fun a62 h62 => wv h62 (r_pickF rfl rfl hb36 rfl) rfl rfl fun a63 h63 => wpList_nil <| hK29 _ _ <| x_condF h63 rfl rfl <| wp_skip <| hK28 _ _ <| wp_region_lit ?_; clear h35 h56 h57 h58 h59 h60 h61 h62
  refine wms 1 h63 rfl fun a64 h64 => wv h64 (r_subI (p := i) (q := 1) rfl rfl rfl (show -9223372036854775808 ≤ i - 1 ∧ i - 1 < 9223372036854775808 from (by omega))) rfl rfl fun a65 h65 => wms 1 h65 rfl fun a66 h66 => wpList_nil <| x_again ⟨_, ?_, i - 1, ?_, ?_, h66.nrm ⟨rfl, rfl, rfl, rfl, trivial⟩ [0, 1, 2, 3] (by decide) ⟨rfl, rfl, rfl, rfl, trivial⟩, rfl⟩; clear h63 h64 h65
  · rw [hm22]; first | omega | (simp only [lens9]; omega)
  · omega
  · intro j hj hj2; by_cases h9 : i < j; (exact hall j h9 hj2); obtain rfl : j = i.toNat := (by omega); first | (rintro ⟨h8, _⟩; exact absurd (h8.symm.trans (show _ = true by assumption)) (by decide)) | (rintro ⟨_, h8⟩; omega)
 have hp27 : ¬ (0 ≤ i) := of_decide_eq_false hb27
 refine wp_exit <| hK15 _ _ <| wp_seq_k fun K67 hK67 => wp_region_lit <| wms 1 h26 rfl fun a68 h68 => wv h68 (r_nil rfl rfl) rfl rfl fun a69 h69 => wv h69 (r_fieldB (r := 6) fl_125_3 rfl rfl rfl) rfl rfl fun a70 h70 => wv h70 (r_ldbR ti_23 rfl rfl (fun w h => h.rblk 0 rfl) rfl) rfl rfl fun a71 h71 => wms 1 h71 rfl fun a72 h72 => ?_; clear h26 h68 h69 h70 h71
 have hl73 : words.l.length ≤ 140737488355328 := (h72.sh.at 2 rfl).len
 refine wv h72 (r_ixI (s := words) (q := word) sl_23 ti_3 rfl rfl rfl (fun w h => (h.at 2 rfl)) (show 0 ≤ word ∧ word < words.l.length from (by omega))) rfl rfl fun a74 h74 => wv h74 (r_lde (s := words) (i := word.toNat) (v := .int .i64 (nth words.l word.toNat)) ti_3 rfl rfl rfl (fun w h => (h.at 2 rfl)) (show word.toNat < words.l.length from (by omega)) (Nat.le_of_ble_eq_true rfl) rfl) rfl rfl fun a75 h75 => wms 1 h75 rfl fun a76 h76 => wpList_nil <| hK67 _ _ <| wp_ret ?_; clear h72 h74 h75
 try simp only [Exit.then, Exit.inBlock]
 refine x_ret1 (fn := Try.f129) (t := 6) rfl h76 rfl <| ⟨?_, (h76.sh.sel [] (by decide) trivial)⟩
 congr 1
 first | exact (findsL_some (i := i.toNat) (by omega) (by assumption) (by omega) (fun j hj hj2 => hall j (by omega) hj2)).symm | exact (findsL_none (fun j hj => hall j (by omega) hj)).symm

end Go.Proofs.Ytfpaahkleienoaa
