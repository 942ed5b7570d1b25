/-
  Contracts of functions of this program and of the references, each walked once.
-/
import Derived.Test.YtanhbpofhebbaaaX23
import Derived.Test.YtanhbpofhebbaaaX6
namespace Go.Proofs.Ytanhbpofhebbaaa
open Go.RowKit
set_option linter.unusedSimpArgs false
set_option linter.unusedVariables false


set_option maxRecDepth 100000 in
set_option maxHeartbeats 4000000 in
theorem holds_c (code : Ls (Ls Ins)) (words : Ls Int) (code2 : Ls (Ls Ins)) (words2 : Ls Int) (Lk R : Nat) (W : World) (hcode : code.At W) (hwords : words.At W) (hcode2 : code2.At W) (hwords2 : words2.At W) (hok : OkPg (pgN code words Lk R)) (hok2 : OkPg (pgN code2 words2 Lk R)) (heq : ∀ m : Int, m = 0 ∨ m = 1 → ∀ o, Outs (pgN code words Lk R) m o ↔ Outs (pgN code2 words2 Lk R) m o) :
    Rets Try.prog 30 [.agg #[code.v, words.v, .int .i64 ((Lk : Nat) : Int), .int .i64 ((R : Nat) : Int)], .agg #[code2.v, words2.v, .int .i64 ((Lk : Nat) : Int), .int .i64 ((R : Nat) : Int)]] W (fun v w' => v = .bool true ∧ Sh0 W w' []) := by
 have hz2 := checkG_ok hok2
 refine x_enter (N := 50) Try.func30 rfl Try.ntmps30 (Nat.le_of_ble_eq_true rfl) fun a1 hf1 => ?_
 have h1 : St 50 (fun _ => False) W a1 W [(0, .agg #[code.v, words.v, .int .i64 ((Lk : Nat) : Int), .int .i64 ((R : Nat) : Int)]), (1, .agg #[code2.v, words2.v, .int .i64 ((Lk : Nat) : Int), .int .i64 ((R : Nat) : Int)])] [.at_ code, .at_ words, .at_ code2, .at_ words2] := ⟨hf1.sub ⟨rfl, rfl, trivial⟩, Sh0.ext4 hcode hwords hcode2 hwords2⟩
 clear hf1
 refine wp_seq_k fun K2 hK2 => wp_region_lit ?_
 refine wl_ex (x_box (cs := [code.v, words.v, .int .i64 ((Lk : Nat) : Int), .int .i64 ((R : Nat) : Int)]) h1 rfl rfl rfl rfl rfl) (wanted_none rfl _) ?_
 rintro a3 w3 ⟨b3, h3⟩; clear h1
 refine wl_ex (x_box (cs := [code2.v, words2.v, .int .i64 ((Lk : Nat) : Int), .int .i64 ((R : Nat) : Int)]) h3 rfl rfl rfl rfl rfl) (wanted_none rfl _) ?_
 rintro a4 w4 ⟨b4, h4⟩; clear h3
 refine wms 1 h4 rfl fun a5 h5 => ?_; clear h4
 refine wpList_nil (hK2 _ _ ?_)
 refine wp_seq_k fun K6 hK6 => wp_region_lit ?_
 refine wv h5 (r_ldbw (i := 0) (vs := [code2.v, words2.v, .int .i64 ((Lk : Nat) : Int), .int .i64 ((R : Nat) : Int)]) ti_28 rfl rfl rfl rfl rfl) rfl rfl fun a7 h7 => ?_; clear h5
 refine wl_ex (x_call h7 bd_20 rfl rfl rfl rfl rfl (refCheck_c (code := code2) (words := words2) (locks := ((Lk : Nat) : Int)) (regs := ((R : Nat) : Int)) (h7.sh.at 4 rfl) (h7.sh.at 5 rfl))) (wanted_none rfl _) ?_
 rintro a8 w8 ⟨_, ⟨rfl, hs8⟩, hf8⟩
 have h8 : St 50 (fun _ => False) W a8 w8 _ _ := ⟨hf8, h7.sh.call0 hs8⟩
 clear hf8 hs8
 clear h7
 refine wl_ex (x_alloc h8 ti_31 rfl rfl rfl) (wanted_none rfl _) ?_
 rintro a9 w9 ⟨b9, h9⟩; clear h8
 refine wl_ex (x_stb (i := 0) (vs := [.int .i64 ((checkG (pgOf code2 words2 ((Lk : Nat) : Int) ((R : Nat) : Int))).code), .int .i64 ((checkG (pgOf code2 words2 ((Lk : Nat) : Int) ((R : Nat) : Int))).thread), .int .i64 ((checkG (pgOf code2 words2 ((Lk : Nat) : Int) ((R : Nat) : Int))).at_)]) (cs' := [.int .i64 ((checkG (pgOf code2 words2 ((Lk : Nat) : Int) ((R : Nat) : Int))).code), .int .i64 ((checkG (pgOf code2 words2 ((Lk : Nat) : Int) ((R : Nat) : Int))).thread), .int .i64 ((checkG (pgOf code2 words2 ((Lk : Nat) : Int) ((R : Nat) : Int))).at_)]) h9 ti_31 rfl rfl rfl rfl rfl rfl rfl (allOne_cons rfl (allOne_cons rfl (allOne_cons rfl allOne_nil))) (Nat.le_of_ble_eq_true rfl) rfl) (wanted_none rfl _) ?_
 rintro a10 w10 h10
 clear h9
 refine wpList_nil (hK6 _ _ ?_)
 refine wp_seq_k fun K11 hK11 => ?_
 refine wp_seq_k fun K12 hK12 => wp_region_lit ?_
 refine wv h10 (r_fieldB (r := 0) fl_31_0 rfl rfl rfl) rfl rfl fun a13 h13 => ?_; clear h10
 refine wv h13 (r_ldb (i := 0) ti_22 rfl rfl rfl rfl) rfl rfl fun a14 h14 => ?_; clear h13
 refine wv h14 (r_neqI (p := (checkG (pgOf code2 words2 ((Lk : Nat) : Int) ((R : Nat) : Int))).code) (q := 0) rfl rfl rfl) rfl rfl fun a15 h15 => ?_; clear h14
 refine wpList_nil (hK12 _ _ ?_)
 refine x_condF h15 rfl (by rw [show checkG (pgOf code2 words2 ((Lk : Nat) : Int) ((R : Nat) : Int)) = ⟨0, 0, 0⟩ from hz2]; rfl) ?_
 refine wp_skip ?_
 refine hK11 _ _ ?_
 refine wp_seq_k fun K16 hK16 => ?_
 refine wp_seq_k fun K17 hK17 => wp_region_lit ?_
 refine wms 1 h15 rfl fun a18 h18 => ?_; clear h15
 refine wpList_nil (hK17 _ _ ?_)
 refine wp_block ?_
 refine x_loop (fun m a w => ∃ (md : Nat), (md ≤ 2) ∧ St 50 (fun _ => False) W a w [(2, .pointer (some ⟨b3, 0, none⟩)), (3, .pointer (some ⟨b4, 0, none⟩)), (6, .int .i64 ((md : Nat) : Int))] [.blk b9 31 [.int .i64 ((checkG (pgOf code2 words2 ((Lk : Nat) : Int) ((R : Nat) : Int))).code), .int .i64 ((checkG (pgOf code2 words2 ((Lk : Nat) : Int) ((R : Nat) : Int))).thread), .int .i64 ((checkG (pgOf code2 words2 ((Lk : Nat) : Int) ((R : Nat) : Int))).at_)], .blk b4 28 [code2.v, words2.v, .int .i64 ((Lk : Nat) : Int), .int .i64 ((R : Nat) : Int)], .blk b3 28 [code.v, words.v, .int .i64 ((Lk : Nat) : Int), .int .i64 ((R : Nat) : Int)], .at_ code, .at_ words, .at_ code2, .at_ words2] ∧ m = 2 - md) ⟨_, 0, (by omega), h18.nrm ⟨rfl, rfl, rfl, trivial⟩ [0, 1, 2, 3, 4, 5, 6] (by decide) ⟨rfl, rfl, rfl, rfl, rfl, rfl, rfl, trivial⟩, rfl⟩ ?_
 clear h18
 rintro m19 a19 w19 ⟨md, hm, h19, hm19⟩
 refine wp_seq_k fun K20 hK20 => ?_
 refine wp_seq_k fun K21 hK21 => wp_region_lit ?_
 refine wms 1 h19 rfl fun a22 h22 => ?_; clear h19
 refine wv h22 (r_lssN (p := md) (q := 2) rfl rfl rfl) rfl rfl fun a23 h23 => ?_; clear h22
 refine wpList_nil (hK21 _ _ ?_)
 refine x_cond h23 rfl (fun hb24 => ?_) (fun hb24 => ?_)
 ·
  have hp24 : md < 2 := of_decide_eq_true hb24
  refine wp_skip ?_
  refine hK20 _ _ ?_
  refine wp_seq_k fun K25 hK25 => ?_
  refine wp_block ?_
  refine wp_seq_k fun K26 hK26 => wp_region_lit ?_
  refine wv h23 (r_ldbw (i := 2) (vs := [code.v, words.v, .int .i64 ((Lk : Nat) : Int), .int .i64 ((R : Nat) : Int)]) ti_28 rfl rfl rfl rfl rfl) rfl rfl fun a27 h27 => ?_; clear h23
  refine wms 1 h27 rfl fun a28 h28 => ?_; clear h27
  refine wl_ex (x_call h28 bd_67 rfl rfl rfl rfl rfl (by_c code words Lk R ((md : Nat) : Int) _ (h28.sh.at 3 rfl) (h28.sh.at 4 rfl) hok)) (wanted_none rfl _) ?_
  rintro a29 w29 ⟨_, ⟨g29, fu29, sv29, kv29, hv29, bv29, en29, rfl, hby29, hel29, hnw29, hs29⟩, hf29⟩
  have hsz29 := h28.sh.chg.size
  have h29 := (⟨hf29, h28.sh.call hs29 (by intro A hA b hb; simp only [List.mem_cons, List.not_mem_nil, or_false] at hA; rcases hA with rfl | rfl; exact (hb : False).elim; exact .inl (by obtain ⟨i9, hi9, hb9⟩ := hb; exact hnw29 _ (nth_mem _ _ hi9) b hb9))⟩ : St 50 (fun _ => False) W a29 w29 _ _)
  clear hf29 hs29
  clear h28
  refine wms 1 h29 rfl fun a30 h30 => ?_; clear h29
  refine wpList_nil (hK26 _ _ ?_)
  refine wp_seq_k fun K31 hK31 => wp_region_lit ?_
  refine wv h30 (r_ldbw (i := 3) (vs := [code2.v, words2.v, .int .i64 ((Lk : Nat) : Int), .int .i64 ((R : Nat) : Int)]) ti_28 rfl rfl rfl rfl rfl) rfl rfl fun a32 h32 => ?_; clear h30
  refine wms 1 h32 rfl fun a33 h33 => ?_; clear h32
  refine wl_ex (x_call h33 bd_67 rfl rfl rfl rfl rfl (by_c code2 words2 Lk R ((md : Nat) : Int) _ (h33.sh.at 7 rfl) (h33.sh.at 8 rfl) hok2)) (wanted_none rfl _) ?_
  rintro a34 w34 ⟨_, ⟨g34, fu34, sv34, kv34, hv34, bv34, en34, rfl, hby34, hel34, hnw34, hs34⟩, hf34⟩
  have hsz34 := h33.sh.chg.size
  have h34 := (⟨hf34, h33.sh.call hs34 (by intro A hA b hb; simp only [List.mem_cons, List.not_mem_nil, or_false] at hA; rcases hA with rfl | rfl; exact (hb : False).elim; exact .inl (by obtain ⟨i9, hi9, hb9⟩ := hb; exact hnw34 _ (nth_mem _ _ hi9) b hb9))⟩ : St 50 (fun _ => False) W a34 w34 _ _)
  clear hf34 hs34
  clear h33
  refine wms 1 h34 rfl fun a35 h35 => ?_; clear h34
  refine wpList_nil (hK31 _ _ ?_)
  refine wp_seq_k fun K36 hK36 => ?_
  refine x_quiet (by kernel_rfl) (by kernel_rfl) h35 fun Z37 hZ37 => ?_
  have hq37 := h35.fr
  refine wq_val hq37 (r_move rfl rfl) (wanted_none rfl _) rfl rfl fun a38 hq38 => ?_; clear hq37
  refine wq_val hq38 (r_nil rfl rfl) (wanted_none rfl _) rfl rfl fun a39 hq39 => ?_; clear hq38
  refine wq_val hq39 (r_fieldB (r := 4) fl_49_4 rfl rfl rfl) (wanted_none rfl _) rfl rfl fun a40 hq40 => ?_; clear hq39
  refine wq_val hq40 (r_ldb (i := 2) ti_47 rfl rfl rfl rfl) (wanted_none rfl _) rfl rfl fun a41 hq41 => ?_; clear hq40
  refine wq_val hq41 (r_move rfl rfl) (wanted_none rfl _) rfl rfl fun a42 hq42 => ?_; clear hq41
  refine wq_val hq42 (r_nil rfl rfl) (wanted_none rfl _) rfl rfl fun a43 hq43 => ?_; clear hq42
  refine wq_val hq43 (r_fieldB (r := 4) fl_49_4 rfl rfl rfl) (wanted_none rfl _) rfl rfl fun a44 hq44 => ?_; clear hq43
  refine wq_val hq44 (r_ldb (i := 0) ti_47 rfl rfl rfl rfl) (wanted_none rfl _) rfl rfl fun a45 hq45 => ?_; clear hq44
  refine wq_call hq45 bd_25 rfl rfl rfl (wanted_none rfl _) rfl rfl (fun w h => (sameO_c en29 en34 _ (h.own 3 rfl) (h.own 1 rfl))) fun a46 hq46 => ?_; clear hq45
  refine wq_val hq46 (r_assign rfl rfl) (wanted_none rfl _) rfl rfl fun a47 hq47 => ?_; clear hq46
  refine wpQuiet_nil (hZ37 _ fun w48 hw48 => ?_)
  have h48 : St 50 (fun _ => False) W a47 w48 _ _ := ⟨hq47, hw48⟩
  clear hq47 hw48 h35
  refine hK36 _ _ ?_
  refine wp_seq_k fun K49 hK49 => wp_region_lit ?_
  refine wms 1 h48 rfl fun a50 h50 => ?_; clear h48
  refine wv h50 (r_nil rfl rfl) rfl rfl fun a51 h51 => ?_; clear h50
  refine wv h51 (r_fieldB (r := 5) fl_49_5 rfl rfl rfl) rfl rfl fun a52 h52 => ?_; clear h51
  refine wv h52 (r_ldb (i := 2) ti_4 rfl rfl rfl rfl) rfl rfl fun a53 h53 => ?_; clear h52
  refine wv h53 (r_not rfl rfl) rfl rfl fun a54 h54 => ?_; clear h53
  refine wms 1 h54 rfl fun a55 h55 => ?_; clear h54
  rcases Bool.eq_false_or_eq_true (!fu29) with hb56 | hb56
  ·
   have hn56 : fu29 = false := (Bool.not_eq_true' _).mp hb56
   refine wl_val h55 (r_move rfl rfl) (wanted_yes h55.fr rfl rfl rfl rfl hb56) rfl rfl fun a57 h57 => ?_; clear h55
   refine wl_val h57 (r_nil rfl rfl) (wanted_yes h57.fr rfl rfl rfl rfl hb56) rfl rfl fun a58 h58 => ?_; clear h57
   refine wl_val h58 (r_fieldB (r := 5) fl_49_5 rfl rfl rfl) (wanted_yes h58.fr rfl rfl rfl rfl hb56) rfl rfl fun a59 h59 => ?_; clear h58
   refine wl_val h59 (r_ldb (i := 0) ti_4 rfl rfl rfl rfl) (wanted_yes h59.fr rfl rfl rfl rfl hb56) rfl rfl fun a60 h60 => ?_; clear h59
   refine wl_val h60 (r_not rfl rfl) (wanted_yes h60.fr rfl rfl rfl rfl hb56) rfl rfl fun a61 h61 => ?_; clear h60
   refine wv h61 (r_pickT rfl rfl hb56 rfl) rfl rfl fun a62 h62 => ?_; clear h61
   refine wms 1 h62 rfl fun a63 h63 => ?_; clear h62
   rcases Bool.eq_false_or_eq_true (!fu34) with hb64 | hb64
   ·
    have hn64 : fu34 = false := (Bool.not_eq_true' _).mp hb64
    refine wl_val h63 (r_move rfl rfl) (wanted_yes h63.fr rfl rfl rfl rfl hb64) rfl rfl fun a65 h65 => ?_; clear h63
    refine wl_val h65 (r_not rfl rfl) (wanted_yes h65.fr rfl rfl rfl rfl hb64) rfl rfl fun a66 h66 => ?_; clear h65
    refine wv h66 (r_pickT rfl rfl hb64 rfl) rfl rfl fun a67 h67 => ?_; clear h66
    refine wpList_nil (hK49 _ _ ?_)
    have h68 : St 50 (fun _ => False) W a67 w48 [(2, .pointer (some ⟨b3, 0, none⟩)), (3, .pointer (some ⟨b4, 0, none⟩)), (6, .int .i64 ((md : Nat) : Int)), (49, .bool (!(decide (en29.l.map OutL.out = en34.l.map OutL.out))))] [.blk g34 49 [sv34, kv34, hv34, bv34, en34.v, .bool fu34], .own 56 en34, .blk g29 49 [sv29, kv29, hv29, bv29, en29.v, .bool fu29], .own 56 en29, .blk b9 31 [.int .i64 ((checkG (pgOf code2 words2 ((Lk : Nat) : Int) ((R : Nat) : Int))).code), .int .i64 ((checkG (pgOf code2 words2 ((Lk : Nat) : Int) ((R : Nat) : Int))).thread), .int .i64 ((checkG (pgOf code2 words2 ((Lk : Nat) : Int) ((R : Nat) : Int))).at_)], .blk b4 28 [code2.v, words2.v, .int .i64 ((Lk : Nat) : Int), .int .i64 ((R : Nat) : Int)], .blk b3 28 [code.v, words.v, .int .i64 ((Lk : Nat) : Int), .int .i64 ((R : Nat) : Int)], .at_ code, .at_ words, .at_ code2, .at_ words2] := h67.nrm ⟨rfl, rfl, rfl, rfl, trivial⟩ [0, 1, 2, 3, 4, 5, 6, 7, 8, 9, 10] (by decide) ⟨rfl, rfl, rfl, rfl, rfl, rfl, rfl, rfl, rfl, rfl, rfl, trivial⟩
    clear h67
    refine x_cond h68 rfl (fun hb69 => ?_) (fun hb69 => ?_)
    ·
     have hp69 : ¬ (en29.l.map OutL.out = en34.l.map OutL.out) := by simpa using hb69
     exact absurd (same_ends (hby29 (by assumption)).1 (hby29 (by assumption)).2 (hby34 (by assumption)).1 (hby34 (by assumption)).2 (heq _ (by omega))) (by assumption)
    have hp69 : en29.l.map OutL.out = en34.l.map OutL.out := by simpa using hb69
    refine wp_skip ?_
    refine hK25 _ _ ?_
    refine wp_region_lit ?_
    refine wms 1 h68 rfl fun a70 h70 => ?_; clear h68
    refine wv h70 (r_addN (p := md) (q := 1) rfl rfl rfl (show md + 1 < 9223372036854775808 from (by omega))) rfl rfl fun a71 h71 => ?_; clear h70
    refine wms 1 h71 rfl fun a72 h72 => ?_; clear h71
    refine wpList_nil ?_
    refine x_again ⟨_, ?_, md + 1, ?_, h72.nrm ⟨rfl, rfl, rfl, trivial⟩ [4, 5, 6, 7, 8, 9, 10] (by decide) ⟨rfl, rfl, rfl, rfl, rfl, rfl, rfl, trivial⟩, rfl⟩
    · rw [hm19]; first | omega | (simp only [lens9]; omega)
    · omega
   have hn64 : fu34 = true := (Bool.not_eq_false' _).mp hb64
   refine wl_skip h63 (wanted_no h63.fr rfl rfl rfl rfl hb64) rfl rfl fun a73 h73 => ?_; clear h63
   refine wl_skip h73 (wanted_no h73.fr rfl rfl rfl rfl hb64) rfl rfl fun a74 h74 => ?_; clear h73
   refine wv h74 (r_pickF rfl rfl hb64 rfl) rfl rfl fun a75 h75 => ?_; clear h74
   refine wpList_nil (hK49 _ _ ?_)
   have h76 : St 50 (fun _ => False) W a75 w48 [(2, .pointer (some ⟨b3, 0, none⟩)), (3, .pointer (some ⟨b4, 0, none⟩)), (6, .int .i64 ((md : Nat) : Int)), (49, .bool false)] [.blk g34 49 [sv34, kv34, hv34, bv34, en34.v, .bool fu34], .own 56 en34, .blk g29 49 [sv29, kv29, hv29, bv29, en29.v, .bool fu29], .own 56 en29, .blk b9 31 [.int .i64 ((checkG (pgOf code2 words2 ((Lk : Nat) : Int) ((R : Nat) : Int))).code), .int .i64 ((checkG (pgOf code2 words2 ((Lk : Nat) : Int) ((R : Nat) : Int))).thread), .int .i64 ((checkG (pgOf code2 words2 ((Lk : Nat) : Int) ((R : Nat) : Int))).at_)], .blk b4 28 [code2.v, words2.v, .int .i64 ((Lk : Nat) : Int), .int .i64 ((R : Nat) : Int)], .blk b3 28 [code.v, words.v, .int .i64 ((Lk : Nat) : Int), .int .i64 ((R : Nat) : Int)], .at_ code, .at_ words, .at_ code2, .at_ words2] := h75.nrm ⟨rfl, rfl, rfl, rfl, trivial⟩ [0, 1, 2, 3, 4, 5, 6, 7, 8, 9, 10] (by decide) ⟨rfl, rfl, rfl, rfl, rfl, rfl, rfl, rfl, rfl, rfl, rfl, trivial⟩
   clear h75
   refine x_condF h76 rfl rfl ?_
   refine wp_skip ?_
   refine hK25 _ _ ?_
   refine wp_region_lit ?_
   refine wms 1 h76 rfl fun a77 h77 => ?_; clear h76
   refine wv h77 (r_addN (p := md) (q := 1) rfl rfl rfl (show md + 1 < 9223372036854775808 from (by omega))) rfl rfl fun a78 h78 => ?_; clear h77
   refine wms 1 h78 rfl fun a79 h79 => ?_; clear h78
   refine wpList_nil ?_
   refine x_again ⟨_, ?_, md + 1, ?_, h79.nrm ⟨rfl, rfl, rfl, trivial⟩ [4, 5, 6, 7, 8, 9, 10] (by decide) ⟨rfl, rfl, rfl, rfl, rfl, rfl, rfl, trivial⟩, rfl⟩
   · rw [hm19]; first | omega | (simp only [lens9]; omega)
   · omega
  have hn56 : fu29 = true := (Bool.not_eq_false' _).mp hb56
  refine wl_skip h55 (wanted_no h55.fr rfl rfl rfl rfl hb56) rfl rfl fun a80 h80 => ?_; clear h55
  refine wl_skip h80 (wanted_no h80.fr rfl rfl rfl rfl hb56) rfl rfl fun a81 h81 => ?_; clear h80
  refine wl_skip h81 (wanted_no h81.fr rfl rfl rfl rfl hb56) rfl rfl fun a82 h82 => ?_; clear h81
  refine wl_skip h82 (wanted_no h82.fr rfl rfl rfl rfl hb56) rfl rfl fun a83 h83 => ?_; clear h82
  refine wl_skip h83 (wanted_no h83.fr rfl rfl rfl rfl hb56) rfl rfl fun a84 h84 => ?_; clear h83
  refine wv h84 (r_pickF rfl rfl hb56 rfl) rfl rfl fun a85 h85 => ?_; clear h84
  refine wms 1 h85 rfl fun a86 h86 => ?_; clear h85
  refine wl_skip h86 (wanted_no h86.fr rfl rfl rfl rfl rfl) rfl rfl fun a87 h87 => ?_; clear h86
  refine wl_skip h87 (wanted_no h87.fr rfl rfl rfl rfl rfl) rfl rfl fun a88 h88 => ?_; clear h87
  refine wv h88 (r_pickF rfl rfl rfl rfl) rfl rfl fun a89 h89 => ?_; clear h88
  refine wpList_nil (hK49 _ _ ?_)
  have h90 : St 50 (fun _ => False) W a89 w48 [(2, .pointer (some ⟨b3, 0, none⟩)), (3, .pointer (some ⟨b4, 0, none⟩)), (6, .int .i64 ((md : Nat) : Int)), (49, .bool false)] [.blk g34 49 [sv34, kv34, hv34, bv34, en34.v, .bool fu34], .own 56 en34, .blk g29 49 [sv29, kv29, hv29, bv29, en29.v, .bool fu29], .own 56 en29, .blk b9 31 [.int .i64 ((checkG (pgOf code2 words2 ((Lk : Nat) : Int) ((R : Nat) : Int))).code), .int .i64 ((checkG (pgOf code2 words2 ((Lk : Nat) : Int) ((R : Nat) : Int))).thread), .int .i64 ((checkG (pgOf code2 words2 ((Lk : Nat) : Int) ((R : Nat) : Int))).at_)], .blk b4 28 [code2.v, words2.v, .int .i64 ((Lk : Nat) : Int), .int .i64 ((R : Nat) : Int)], .blk b3 28 [code.v, words.v, .int .i64 ((Lk : Nat) : Int), .int .i64 ((R : Nat) : Int)], .at_ code, .at_ words, .at_ code2, .at_ words2] := h89.nrm ⟨rfl, rfl, rfl, rfl, trivial⟩ [0, 1, 2, 3, 4, 5, 6, 7, 8, 9, 10] (by decide) ⟨rfl, rfl, rfl, rfl, rfl, rfl, rfl, rfl, rfl, rfl, rfl, trivial⟩
  clear h89
  refine x_condF h90 rfl rfl ?_
  refine wp_skip ?_
  refine hK25 _ _ ?_
  refine wp_region_lit ?_
  refine wms 1 h90 rfl fun a91 h91 => ?_; clear h90
  refine wv h91 (r_addN (p := md) (q := 1) rfl rfl rfl (show md + 1 < 9223372036854775808 from (by omega))) rfl rfl fun a92 h92 => ?_; clear h91
  refine wms 1 h92 rfl fun a93 h93 => ?_; clear h92
  refine wpList_nil ?_
  refine x_again ⟨_, ?_, md + 1, ?_, h93.nrm ⟨rfl, rfl, rfl, trivial⟩ [4, 5, 6, 7, 8, 9, 10] (by decide) ⟨rfl, rfl, rfl, rfl, rfl, rfl, rfl, trivial⟩, rfl⟩
  · rw [hm19]; first | omega | (simp only [lens9]; omega)
  · omega
 have hp24 : ¬ (md < 2) := of_decide_eq_false hb24
 refine wp_exit ?_
 refine hK16 _ _ ?_
 refine wp_seq_k fun K94 hK94 => wp_region_lit ?_
 refine wms 1 h23 rfl fun a95 h95 => ?_; clear h23
 refine wpList_nil (hK94 _ _ ?_)
 refine wp_ret ?_
 try simp only [Exit.then, Exit.inBlock]
 refine x_ret1 (fn := Try.f30) (t := 4) rfl h95 rfl ?_
 exact ⟨rfl, (h95.sh.sel [] (by decide) trivial)⟩

end Go.Proofs.Ytanhbpofhebbaaa
