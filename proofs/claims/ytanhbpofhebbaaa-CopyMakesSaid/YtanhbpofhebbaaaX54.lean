/-
  Contracts of functions of this program and of the references, each walked once.
-/
import Derived.Test.YtanhbpofhebbaaaU3
import Derived.Test.YtanhbpofhebbaaaX6
namespace Go.Proofs.Ytanhbpofhebbaaa
open Go.RowKit
set_option linter.unusedSimpArgs false
set_option linter.unusedVariables false

set_option maxRecDepth 10000 in
set_option maxHeartbeats 16000000 in
theorem copies_c (code : Ls (Ls Ins)) (words : Ls Int) (locks regs : Int) (W : World) (hcode : code.At W) (hwords : words.At W) (hok : OkPg (pgOf code words locks regs)) :
    Rets Try.prog 46 [.agg #[code.v, words.v, .int .i64 locks, .int .i64 regs]] W (fun v w' => ∃ (c : Ls (Ls Ins)) (u : Ls Int), v = .agg #[c.v, u.v, .int .i64 locks, .int .i64 regs] ∧ c.l.map (·.l) = (code.l.map (·.l)).map copyL ∧ u.l = words.l ∧ Sh0 W w' [.deep 64 c, .own 3 u]) := by
 obtain ⟨hl1, hl2, hl3, hl4', hl5, hl6, hl7⟩ := ok_len hok
 refine x_enter (N := 153) Try.func46 rfl Try.ntmps46 (Nat.le_of_ble_eq_true rfl) fun a1 hf1 => ?_
 have h1 : St 153 (fun _ => False) W a1 W [(0, .agg #[code.v, words.v, .int .i64 locks, .int .i64 regs])] [.at_ code, .at_ words] := ⟨hf1.sub ⟨rfl, trivial⟩, Sh0.ext2 hcode hwords⟩
 clear hf1
 refine wp_seq_k fun K2 hK2 => wp_region_lit ?_
 refine wl_ex (x_box (cs := [code.v, words.v, .int .i64 locks, .int .i64 regs]) h1 rfl rfl rfl rfl rfl) (wanted_none rfl _) ?_
 rintro a3 w3 ⟨b3, h3⟩; clear h1
 refine wl_ex (x_alloc h3 ti_28 rfl rfl rfl) (wanted_none rfl _) ?_
 rintro a4 w4 ⟨b4, h4⟩; clear h3
 refine wpList_nil (hK2 _ _ ?_)
 refine wp_seq_k fun K5 hK5 => wp_region_lit ?_
 refine wv h4 (r_fieldB (r := 2) fl_28_2 rfl rfl rfl) rfl rfl fun a6 h6 => ?_; clear h4
 refine wv h6 (r_ldb (i := 1) ti_3 rfl rfl rfl rfl) rfl rfl fun a7 h7 => ?_; clear h6
 refine wv h7 (r_fieldB (r := 3) fl_28_3 rfl rfl rfl) rfl rfl fun a8 h8 => ?_; clear h7
 refine wv h8 (r_ldb (i := 1) ti_3 rfl rfl rfl rfl) rfl rfl fun a9 h9 => ?_; clear h8
 refine wv h9 (r_build (cs := [(.slice none 0 0), (.slice none 0 0), .int .i64 locks, .int .i64 regs]) rfl rfl (by kernel_rfl)) rfl rfl fun a10 h10 => ?_; clear h9
 refine wl_ex (x_alloc h10 ti_28 rfl rfl rfl) (wanted_none rfl _) ?_
 rintro a11 w11 ⟨b11, h11⟩; clear h10
 refine wl_ex (x_stb (i := 0) (vs := [(.slice none 0 0), (.slice none 0 0), .int .i64 locks, .int .i64 regs]) (cs' := [(.slice none 0 0), (.slice none 0 0), .int .i64 locks, .int .i64 regs]) h11 ti_28 rfl rfl rfl rfl rfl rfl rfl (allOne_cons rfl (allOne_cons rfl (allOne_cons rfl (allOne_cons rfl allOne_nil)))) (Nat.le_of_ble_eq_true rfl) rfl) (wanted_none rfl _) ?_
 rintro a12 w12 h12
 clear h11
 refine wpList_nil (hK5 _ _ ?_)
 refine wp_seq_k fun K13 hK13 => wp_region_lit ?_
 refine wl_ex (x_lit0 (α := Int) h12 sl_24 ti_3 rfl rfl rfl) (wanted_none rfl _) ?_
 rintro a14 w14 ⟨v14, h14⟩; clear h12
 refine wv h14 (r_fieldB (r := 1) fl_28_1 rfl rfl rfl) rfl rfl fun a15 h15 => ?_; clear h14
 refine wv h15 (r_ldb (i := 3) ti_24 rfl rfl rfl rfl) rfl rfl fun a16 h16 => ?_; clear h15
 refine wl_ex (x_app (r := 0) (rm := 5) (s := (⟨v14, []⟩ : Ls Int)) (m := words) h16 sl_24 ti_3 rfl rfl rfl rfl rfl rfl rfl (fun w h => (h.at 5 rfl)) (fun b hb => .inr hb) (fun q hq b hb => .inr ⟨q, hq, hb⟩) rfl rfl rfl inferInstance (show (([]).length + words.l.length) * 8 ≤ 140737488355328 ∧ ([]).length + words.l.length ≤ 140737488355328 from (by first | omega | (simp only [lens9]; omega))) rfl rfl) (wanted_none rfl _) ?_
 rintro a17 w17 ⟨v17, h17⟩; clear h16
 refine wv h17 (r_fieldB (r := 1) fl_28_1 rfl rfl rfl) rfl rfl fun a18 h18 => ?_; clear h17
 refine wl_ex (x_stb (i := 1) (vs := [v17]) (cs' := [(.slice none 0 0), v17, .int .i64 locks, .int .i64 regs]) h18 ti_24 rfl rfl rfl rfl rfl (cells_oneL ((h18.sh.own 0 rfl)).one) rfl (allOne_cons ((h18.sh.own 0 rfl)).one allOne_nil) (Nat.le_of_ble_eq_true rfl) rfl) (wanted_none rfl _) ?_
 rintro a19 w19 h19
 clear h18
 refine wpList_nil (hK13 _ _ ?_)
 refine wp_seq_k fun K20 hK20 => ?_
 refine wp_seq_k fun K21 hK21 => wp_region_lit ?_
 refine wms 1 h19 rfl fun a22 h22 => ?_; clear h19
 refine wpList_nil (hK21 _ _ ?_)
 refine wp_block ?_
 have h24 := h22.nilDeep (α := Ls Ins) 64
 clear h22
 refine x_loop (fun m a w => ∃ (t : Nat) (qs : List (Ls Ins)) (vq : Value), (t ≤ code.l.length) ∧ (qs.map (·.l) = ((code.l.take t).map (·.l)).map copyL) ∧ (qs.length = t) ∧ St 153 (fun _ => False) W a w [(1, .pointer (some ⟨b3, 0, none⟩)), (2, .pointer (some ⟨b4, 0, none⟩)), (3, .pointer (some ⟨b11, 0, none⟩)), (4, .int .i64 ((t : Nat) : Int))] [.own 3 (⟨v17, words.l⟩ : Ls Int), .blk b11 28 [vq, v17, .int .i64 locks, .int .i64 regs], .blk b4 28 [(.slice none 0 0), (.slice none 0 0), .int .i64 0, .int .i64 0], .blk b3 28 [code.v, words.v, .int .i64 locks, .int .i64 regs], .at_ code, .at_ words, .deep 64 (⟨vq, qs⟩ : Ls (Ls Ins))] ∧ m = code.l.length - t) ⟨_, 0, [], (.slice none 0 0), (by omega), (rfl), (rfl), h24.nrm ⟨rfl, rfl, rfl, rfl, trivial⟩ [1, 2, 3, 4, 5, 6, 0] (by decide) ⟨rfl, rfl, rfl, rfl, rfl, rfl, rfl, trivial⟩, rfl⟩ ?_
 clear h24
 rintro m23 a23 w23 ⟨t, qs, vq, ht, hqs, hql, h23, hm23⟩
 refine wp_seq_k fun K25 hK25 => ?_
 refine wp_seq_k fun K26 hK26 => wp_region_lit ?_
 refine wms 1 h23 rfl fun a27 h27 => ?_; clear h23
 refine wv h27 (r_fieldB (r := 0) fl_28_0 rfl rfl rfl) rfl rfl fun a28 h28 => ?_; clear h27
 refine wv h28 (r_ldb (i := 3) ti_26 rfl rfl rfl rfl) rfl rfl fun a29 h29 => ?_; clear h28
 have hl30 : code.l.length ≤ 140737488355328 := (h29.sh.at 4 rfl).len
 refine wv h29 (r_len (s := code) (n := code.l.length) sl_26 rfl rfl (fun w h => (h.at 4 rfl)) rfl) rfl rfl fun a31 h31 => ?_; clear h29
 refine wv h31 (r_lssN (p := t) (q := code.l.length) rfl rfl rfl) rfl rfl fun a32 h32 => ?_; clear h31
 refine wpList_nil (hK26 _ _ ?_)
 refine x_cond h32 rfl (fun hb33 => ?_) (fun hb33 => ?_)
 ·
  have hp33 : t < code.l.length := of_decide_eq_true hb33
  refine wp_skip ?_
  refine hK25 _ _ ?_
  obtain ⟨hl4, hjt⟩ := ok_thread hok t (by omega)
  have htl : t < code.l.length := by omega
  have hct := codeC_of hok htl
  refine wp_seq_k fun K34 hK34 => ?_
  refine wp_block ?_
  refine wp_seq_k fun K35 hK35 => wp_region_lit ?_
  refine wv h32 (r_fieldB (r := 0) fl_28_0 rfl rfl rfl) rfl rfl fun a36 h36 => ?_; clear h32
  refine wv h36 (r_ldb (i := 3) ti_26 rfl rfl rfl rfl) rfl rfl fun a37 h37 => ?_; clear h36
  refine wms 1 h37 rfl fun a38 h38 => ?_; clear h37
  refine wv h38 (r_ixN (s := code) (q := t) sl_26 ti_64 rfl rfl rfl (fun w h => (h.at 4 rfl)) (show t < code.l.length from (by omega))) rfl rfl fun a39 h39 => ?_; clear h38
  refine wv h39 (r_lde (s := code) (i := t) (v := (nth code.l t).v) ti_64 rfl rfl rfl (fun w h => (h.at 4 rfl)) (show t < code.l.length from (by omega)) (Nat.le_of_ble_eq_true rfl) rfl) rfl rfl fun a40 h40 => ?_; clear h39
  refine wms 1 h40 rfl fun a41 h41 => ?_; clear h40
  refine wpList_nil (hK35 _ _ ?_)
  refine wp_seq_k fun K42 hK42 => wp_region_lit ?_
  refine wms 1 h41 rfl fun a43 h43 => ?_; clear h41
  have hl44 : ((nth code.l t).l).length ≤ 140737488355328 := ((h43.sh.at 4 rfl).nth t (show t < code.l.length from (by omega))).len
  refine wv h43 (r_len (s := nth code.l t) (n := ((nth code.l t).l).length) sl_64 rfl rfl (fun w h => ((h.at 4 rfl).nth t (show t < code.l.length from (by omega)))) rfl) rfl rfl fun a45 h45 => ?_; clear h43
  refine wv h45 (r_addN (p := ((nth code.l t).l).length) (q := 1) rfl rfl rfl (show (((nth code.l t).l).length) + 1 < 9223372036854775808 from (by omega))) rfl rfl fun a46 h46 => ?_; clear h45
  refine wl_ex (x_makeMat (n := (((nth code.l t).l).length) + 1) h46 sl_46 ti_24 rfl rfl rfl (show 24 * ((((nth code.l t).l).length) + 1) ≤ 140737488355328 ∧ (((nth code.l t).l).length) + 1 ≤ 140737488355328 from (by omega)) rfl rfl 3 Int) (wanted_none rfl _) ?_
  rintro a47 w47 ⟨v47, h47⟩; clear h46
  refine wms 1 h47 rfl fun a48 h48 => ?_; clear h47
  refine wpList_nil (hK42 _ _ ?_)
  refine wp_seq_k fun K49 hK49 => ?_
  refine wp_seq_k fun K50 hK50 => wp_region_lit ?_
  refine wms 1 h48 rfl fun a51 h51 => ?_; clear h48
  refine wpList_nil (hK50 _ _ ?_)
  refine wp_block ?_
  refine x_loop (fun m a w => ∃ (i : Nat) (M : List (Ls Int)), (i ≤ (nth code.l t).l.length + 1) ∧ (M.length = (nth code.l t).l.length + 1) ∧ (RowsP M i regs.toNat (fun _ _ => -1)) ∧ St 153 (fun _ => False) W a w [(1, .pointer (some ⟨b3, 0, none⟩)), (2, .pointer (some ⟨b4, 0, none⟩)), (3, .pointer (some ⟨b11, 0, none⟩)), (4, .int .i64 ((t : Nat) : Int)), (5, (nth code.l t).v), (6, v47), (7, .int .i64 ((i : Nat) : Int))] [.big (matX (.own 3) 24 v47 M), .own 3 (⟨v17, words.l⟩ : Ls Int), .blk b11 28 [vq, v17, .int .i64 locks, .int .i64 regs], .blk b4 28 [(.slice none 0 0), (.slice none 0 0), .int .i64 0, .int .i64 0], .blk b3 28 [code.v, words.v, .int .i64 locks, .int .i64 regs], .at_ code, .at_ words, .deep 64 (⟨vq, qs⟩ : Ls (Ls Ins))] ∧ m = (nth code.l t).l.length + 1 - i) ⟨_, 0, List.replicate ((((nth code.l t).l).length) + 1) ⟨.slice none 0 0, []⟩, (by omega), (by simp), (fun a ha => absurd ha (by omega)), h51.nrm ⟨rfl, rfl, rfl, rfl, rfl, rfl, rfl, trivial⟩ [0, 1, 2, 3, 4, 5, 6, 7] (by decide) ⟨rfl, rfl, rfl, rfl, rfl, rfl, rfl, rfl, trivial⟩, rfl⟩ ?_
  clear h51
  rintro m52 a52 w52 ⟨i, M, hi, hM, hR, h52, hm52⟩
  refine wp_seq_k fun K53 hK53 => ?_
  refine wp_seq_k fun K54 hK54 => wp_region_lit ?_
  refine wms 2 h52 rfl fun a55 h55 => ?_; clear h52
  refine wv h55 (r_len (s := nth code.l t) (n := ((nth code.l t).l).length) sl_64 rfl rfl (fun w h => ((h.at 5 rfl).nth t (show t < code.l.length from (by omega)))) rfl) rfl rfl fun a56 h56 => ?_; clear h55
  refine wv h56 (r_leqN (p := i) (q := ((nth code.l t).l).length) rfl rfl rfl) rfl rfl fun a57 h57 => ?_; clear h56
  refine wpList_nil (hK54 _ _ ?_)
  refine x_cond h57 rfl (fun hb58 => ?_) (fun hb58 => ?_)
  ·
   have hp58 : i ≤ ((nth code.l t).l).length := of_decide_eq_true hb58
   refine wp_skip ?_
   refine hK53 _ _ ?_
   refine wp_seq_k fun K59 hK59 => ?_
   refine wp_block ?_
   refine wp_seq_k fun K60 hK60 => wp_region_lit ?_
   refine wms 2 h57 rfl fun a61 h61 => ?_; clear h57
   refine wv h61 (r_fieldB (r := 3) fl_28_3 rfl rfl rfl) rfl rfl fun a62 h62 => ?_; clear h61
   refine wv h62 (r_ldb (i := 4) ti_3 rfl rfl rfl rfl) rfl rfl fun a63 h63 => ?_; clear h62
   refine wl_ex (x_make (n := regs.toNat) (0 : Int) h63 sl_24 ti_3 rfl (ev_nat (show 0 ≤ regs from (by omega)) rfl) (ev_nat (show 0 ≤ regs from (by omega)) rfl) rfl rfl (show 8 * regs.toNat ≤ 140737488355328 ∧ regs.toNat ≤ 140737488355328 from (by omega)) (fun w => Flat.inner _ _) (fun b => Flat.on _ _) rfl rfl) (wanted_none rfl _) ?_
   rintro a64 w64 ⟨v64, h64⟩; clear h63
   refine wv h64 (r_ixN (s := (⟨v47, rvs M⟩ : Ls RV)) (q := i) sl_46 ti_24 rfl rfl rfl (fun w h => (h.matAt 1 rfl)) (by rw [rvs_len]; exact (show i < M.length from (by omega)))) rfl rfl fun a65 h65 => ?_; clear h64
   have ha66 := (h65.sh.own 0 rfl)
   have h67 := h65.sel (L' := [.big (matX (.own 3) 24 v47 M), .own 3 (⟨v64, List.replicate regs.toNat 0⟩ : Ls Int), .own 3 (⟨v17, words.l⟩ : Ls Int), .blk b11 28 [vq, v17, .int .i64 locks, .int .i64 regs], .blk b4 28 [(.slice none 0 0), (.slice none 0 0), .int .i64 0, .int .i64 0], .blk b3 28 [code.v, words.v, .int .i64 locks, .int .i64 regs], .at_ code, .at_ words, .deep 64 (⟨vq, qs⟩ : Ls (Ls Ins))]) [1, 0, 2, 3, 4, 5, 6, 7, 8] (by decide) ⟨rfl, rfl, rfl, rfl, rfl, rfl, rfl, rfl, rfl, trivial⟩
   refine wl_ex (x_stMat (i := i) (s := (⟨v64, List.replicate regs.toNat 0⟩ : Ls Int)) h67 ti_24 rfl rfl rfl rfl (show i < M.length from (by omega)) ha66) (wanted_none rfl _) ?_
   rintro a68 w68 h68
   clear h67
   refine wpList_nil (hK60 _ _ ?_)
   refine wp_seq_k fun K69 hK69 => wp_region_lit ?_
   refine wms 1 h68 rfl fun a70 h70 => ?_; clear h68
   refine wpList_nil (hK69 _ _ ?_)
   refine wp_block ?_
   refine x_loop (fun m a w => ∃ (r : Nat) (M2 : List (Ls Int)), (r ≤ regs.toNat) ∧ (M2.length = (nth code.l t).l.length + 1) ∧ (RowsP M2 i regs.toNat (fun _ _ => -1)) ∧ ((nth M2 i).l.length = regs.toNat) ∧ (∀ b, b < r → nth (nth M2 i).l b = -1) ∧ St 153 (fun _ => False) W a w [(1, .pointer (some ⟨b3, 0, none⟩)), (2, .pointer (some ⟨b4, 0, none⟩)), (3, .pointer (some ⟨b11, 0, none⟩)), (4, .int .i64 ((t : Nat) : Int)), (5, (nth code.l t).v), (6, v47), (7, .int .i64 ((i : Nat) : Int)), (8, .int .i64 ((r : Nat) : Int))] [.big (matX (.own 3) 24 v47 M2), .own 3 (⟨v17, words.l⟩ : Ls Int), .blk b11 28 [vq, v17, .int .i64 locks, .int .i64 regs], .blk b4 28 [(.slice none 0 0), (.slice none 0 0), .int .i64 0, .int .i64 0], .blk b3 28 [code.v, words.v, .int .i64 locks, .int .i64 regs], .at_ code, .at_ words, .deep 64 (⟨vq, qs⟩ : Ls (Ls Ins))] ∧ m = regs.toNat - r) ⟨_, 0, M.set i (⟨v64, List.replicate regs.toNat 0⟩ : Ls Int), (by omega), (by rw [List.length_set]; exact hM), (hR.other (Nat.le_refl _) (by omega) _), (by rw [nth_setR _ _ _ _ (by omega), if_pos rfl]; simp), (fun b hb => absurd hb (by omega)), h70.nrm ⟨rfl, rfl, rfl, rfl, rfl, rfl, rfl, rfl, trivial⟩ [0, 1, 2, 3, 4, 5, 6, 7] (by decide) ⟨rfl, rfl, rfl, rfl, rfl, rfl, rfl, rfl, trivial⟩, rfl⟩ ?_
   clear h70
   rintro m71 a71 w71 ⟨r, M2, hr, hM2, hR2, hc2, hv2, h71, hm71⟩
   refine wp_seq_k fun K72 hK72 => ?_
   refine wp_seq_k fun K73 hK73 => wp_region_lit ?_
   refine wms 1 h71 rfl fun a74 h74 => ?_; clear h71
   refine wv h74 (r_fieldB (r := 3) fl_28_3 rfl rfl rfl) rfl rfl fun a75 h75 => ?_; clear h74
   refine wv h75 (r_ldb (i := 4) ti_3 rfl rfl rfl rfl) rfl rfl fun a76 h76 => ?_; clear h75
   refine wv h76 (r_lssI (p := ((r : Nat) : Int)) (q := regs) rfl rfl rfl) rfl rfl fun a77 h77 => ?_; clear h76
   refine wpList_nil (hK73 _ _ ?_)
   refine x_cond h77 rfl (fun hb78 => ?_) (fun hb78 => ?_)
   ·
    have hp78 : ((r : Nat) : Int) < regs := of_decide_eq_true hb78
    refine wp_skip ?_
    refine hK72 _ _ ?_
    refine wp_seq_k fun K79 hK79 => ?_
    refine wp_block ?_
    refine wp_region_lit ?_
    refine wms 2 h77 rfl fun a80 h80 => ?_; clear h77
    refine wv h80 (r_ixN (s := (⟨v47, rvs M2⟩ : Ls RV)) (q := i) sl_46 ti_24 rfl rfl rfl (fun w h => (h.matAt 0 rfl)) (by rw [rvs_len]; exact (show i < M2.length from (by first | omega | (rw [hc2]; omega))))) rfl rfl fun a81 h81 => ?_; clear h80
    refine wv h81 (Rn.same (r_lde (s := (⟨v47, rvs M2⟩ : Ls RV)) (i := i) (v := (nth (rvs M2) i).v) ti_24 rfl rfl rfl (fun w h => h.matAt 0 rfl) (by rw [rvs_len]; exact (show i < M2.length from (by omega))) (Nat.le_of_ble_eq_true rfl) rfl) (nth_rvs M2 i)) rfl rfl fun a82 h82 => ?_; clear h81
    refine wms 1 h82 rfl fun a83 h83 => ?_; clear h82
    have hl84 : ((nth M2 i).l).length ≤ 140737488355328 := (h83.sh.matRow 0 rfl i (show i < M2.length from (by omega))).len
    refine wv h83 (r_ixN (s := (nth M2 i)) (q := r) sl_24 ti_3 rfl rfl rfl (fun w h => (h.matRow 0 rfl i (show i < M2.length from (by omega)))) (show r < ((nth M2 i).l).length from (by first | omega | (rw [hc2]; omega)))) rfl rfl fun a85 h85 => ?_; clear h83
    refine wl_ex (x_stMatE (i := i) (q := r) (x' := ((-1) : Int)) h85 ti_3 rfl rfl rfl rfl (show i < M2.length from (by omega)) (show r < (nth M2 i).l.length from (by rw [hc2]; omega)) rfl rfl rfl rfl) (wanted_none rfl _) ?_
    rintro a86 w86 h86
    clear h85
    refine wpList_nil (hK79 _ _ ?_)
    refine wp_region_lit ?_
    refine wms 1 h86 rfl fun a87 h87 => ?_; clear h86
    refine wv h87 (r_addN (p := r) (q := 1) rfl rfl rfl (show r + 1 < 9223372036854775808 from (by omega))) rfl rfl fun a88 h88 => ?_; clear h87
    refine wms 1 h88 rfl fun a89 h89 => ?_; clear h88
    refine wpList_nil ?_
    refine x_again ⟨_, ?_, r + 1, M2.set i ⟨(nth M2 i).v, (nth M2 i).l.set r (-1)⟩, ?_, ?_, ?_, ?_, ?_, h89.nrm ⟨rfl, rfl, rfl, rfl, rfl, rfl, rfl, rfl, trivial⟩ [0, 1, 2, 3, 4, 5, 6, 7] (by decide) ⟨rfl, rfl, rfl, rfl, rfl, rfl, rfl, rfl, trivial⟩, rfl⟩
    · rw [hm71]; first | omega | (simp only [lens9]; omega)
    · omega
    · rw [List.length_set]; exact hM2
    · exact hR2.other (Nat.le_refl _) (by omega) _
    · rw [nth_setR _ _ _ _ (by omega), if_pos rfl]; simp only [List.length_set]; exact hc2
    · intro b hb; rw [nth_setR _ _ _ _ (by omega), if_pos rfl]; rw [nth_setI _ _ _ _ (by omega)]; split; rfl; exact hv2 b (by omega)
   have hp78 : ¬ (((r : Nat) : Int) < regs) := of_decide_eq_false hb78
   refine wp_exit ?_
   refine hK59 _ _ ?_
   refine wp_region_lit ?_
   refine wms 1 h77 rfl fun a90 h90 => ?_; clear h77
   refine wv h90 (r_addN (p := i) (q := 1) rfl rfl rfl (show i + 1 < 9223372036854775808 from (by omega))) rfl rfl fun a91 h91 => ?_; clear h90
   refine wms 1 h91 rfl fun a92 h92 => ?_; clear h91
   refine wpList_nil ?_
   refine x_again ⟨_, ?_, i + 1, M2, ?_, ?_, ?_, h92.nrm ⟨rfl, rfl, rfl, rfl, rfl, rfl, rfl, trivial⟩ [0, 1, 2, 3, 4, 5, 6, 7] (by decide) ⟨rfl, rfl, rfl, rfl, rfl, rfl, rfl, rfl, trivial⟩, rfl⟩
   · rw [hm52]; first | omega | (simp only [lens9]; omega)
   · omega
   · exact hM2
   · exact hR2.more hc2 (fun b hb => hv2 b (by omega))
  have hp58 : ¬ (i ≤ ((nth code.l t).l).length) := of_decide_eq_false hb58
  refine wp_exit ?_
  refine hK49 _ _ ?_
  refine wp_seq_k fun K93 hK93 => ?_
  refine wp_seq_k fun K94 hK94 => wp_region_lit ?_
  refine wms 1 h57 rfl fun a95 h95 => ?_; clear h57
  refine wpList_nil (hK94 _ _ ?_)
  refine wp_block ?_
  refine x_loop (fun m a w => ∃ (j : Nat) (M3 : List (Ls Int)), (j ≤ (nth code.l t).l.length) ∧ (M3.length = (nth code.l t).l.length + 1) ∧ (RowsP M3 (nth code.l t).l.length regs.toNat (fun a b => othF (nth code.l t).l a j b)) ∧ St 153 (fun _ => False) W a w [(1, .pointer (some ⟨b3, 0, none⟩)), (2, .pointer (some ⟨b4, 0, none⟩)), (3, .pointer (some ⟨b11, 0, none⟩)), (4, .int .i64 ((t : Nat) : Int)), (5, (nth code.l t).v), (6, v47), (9, .int .i64 ((j : Nat) : Int))] [.big (matX (.own 3) 24 v47 M3), .own 3 (⟨v17, words.l⟩ : Ls Int), .blk b11 28 [vq, v17, .int .i64 locks, .int .i64 regs], .blk b4 28 [(.slice none 0 0), (.slice none 0 0), .int .i64 0, .int .i64 0], .blk b3 28 [code.v, words.v, .int .i64 locks, .int .i64 regs], .at_ code, .at_ words, .deep 64 (⟨vq, qs⟩ : Ls (Ls Ins))] ∧ m = (nth code.l t).l.length - j) ⟨_, 0, M, (by omega), (hM), (fun a ha => hR a (by omega)), h95.nrm ⟨rfl, rfl, rfl, rfl, rfl, rfl, rfl, trivial⟩ [0, 1, 2, 3, 4, 5, 6, 7] (by decide) ⟨rfl, rfl, rfl, rfl, rfl, rfl, rfl, rfl, trivial⟩, rfl⟩ ?_
  clear h95
  rintro m96 a96 w96 ⟨j, M3, hj, hM3, hR3, h96, hm96⟩
  refine wp_seq_k fun K97 hK97 => ?_
  refine wp_seq_k fun K98 hK98 => wp_region_lit ?_
  refine wms 2 h96 rfl fun a99 h99 => ?_; clear h96
  refine wv h99 (r_len (s := nth code.l t) (n := ((nth code.l t).l).length) sl_64 rfl rfl (fun w h => ((h.at 5 rfl).nth t (show t < code.l.length from (by omega)))) rfl) rfl rfl fun a100 h100 => ?_; clear h99
  refine wv h100 (r_lssN (p := j) (q := ((nth code.l t).l).length) rfl rfl rfl) rfl rfl fun a101 h101 => ?_; clear h100
  refine wpList_nil (hK98 _ _ ?_)
  refine x_cond h101 rfl (fun hb102 => ?_) (fun hb102 => ?_)
  ·
   have hp102 : j < ((nth code.l t).l).length := of_decide_eq_true hb102
   refine wp_skip ?_
   refine hK97 _ _ ?_
   refine wp_seq_k fun K103 hK103 => ?_
   refine wp_block ?_
   refine wp_seq_k fun K104 hK104 => ?_
   refine wp_seq_k fun K105 hK105 => ?_
   refine x_quiet (by kernel_rfl) (by kernel_rfl) h101 fun Z106 hZ106 => ?_
   have hq106 := h101.fr
   refine wq_val hq106 (r_move rfl rfl) (wanted_none rfl _) rfl rfl fun a107 hq107 => ?_; clear hq106
   refine wq_val hq107 (r_move rfl rfl) (wanted_none rfl _) rfl rfl fun a108 hq108 => ?_; clear hq107
   refine wq_val hq108 (r_ixN (s := nth code.l t) (q := j) sl_64 ti_73 rfl rfl rfl (fun w h => ((h.at 5 rfl).nth t (show t < code.l.length from (by omega)))) (show j < ((nth code.l t).l).length from (by omega))) (wanted_none rfl _) rfl rfl fun a109 hq109 => ?_; clear hq108
   refine wq_val hq109 (r_fieldE (r := 0) fl_73_0 rfl rfl rfl) (wanted_none rfl _) rfl rfl fun a110 hq110 => ?_; clear hq109
   refine wq_val hq110 (r_lde (s := nth code.l t) (i := j) (v := .int .i64 ((nth ((nth code.l t).l) j).op)) ti_3 rfl rfl rfl (fun w h => ((h.at 5 rfl).nth t (show t < code.l.length from (by omega)))) (show j < ((nth code.l t).l).length from (by omega)) (Nat.le_of_ble_eq_true rfl) rfl) (wanted_none rfl _) rfl rfl fun a111 hq111 => ?_; clear hq110
   refine wq_val hq111 (r_neqI (p := (nth ((nth code.l t).l) j).op) (q := 2) rfl rfl rfl) (wanted_none rfl _) rfl rfl fun a112 hq112 => ?_; clear hq111
   refine wq_val hq112 (r_move rfl rfl) (wanted_none rfl _) rfl rfl fun a113 hq113 => ?_; clear hq112
   rcases Bool.eq_false_or_eq_true (decide ((nth ((nth code.l t).l) j).op ≠ 2)) with hb114 | hb114
   ·
    have hp114 : (nth ((nth code.l t).l) j).op ≠ 2 := of_decide_eq_true hb114
    refine wq_skip hq113 (wanted_no hq113 rfl rfl rfl rfl hb114) rfl rfl fun a115 hq115 => ?_; clear hq113
    refine wq_skip hq115 (wanted_no hq115 rfl rfl rfl rfl hb114) rfl rfl fun a116 hq116 => ?_; clear hq115
    refine wq_skip hq116 (wanted_no hq116 rfl rfl rfl rfl hb114) rfl rfl fun a117 hq117 => ?_; clear hq116
    refine wq_skip hq117 (wanted_no hq117 rfl rfl rfl rfl hb114) rfl rfl fun a118 hq118 => ?_; clear hq117
    refine wq_skip hq118 (wanted_no hq118 rfl rfl rfl rfl hb114) rfl rfl fun a119 hq119 => ?_; clear hq118
    refine wq_skip hq119 (wanted_no hq119 rfl rfl rfl rfl hb114) rfl rfl fun a120 hq120 => ?_; clear hq119
    refine wq_skip hq120 (wanted_no hq120 rfl rfl rfl rfl hb114) rfl rfl fun a121 hq121 => ?_; clear hq120
    refine wq_skip hq121 (wanted_no hq121 rfl rfl rfl rfl hb114) rfl rfl fun a122 hq122 => ?_; clear hq121
    refine wq_skip hq122 (wanted_no hq122 rfl rfl rfl rfl hb114) rfl rfl fun a123 hq123 => ?_; clear hq122
    refine wq_skip hq123 (wanted_no hq123 rfl rfl rfl rfl hb114) rfl rfl fun a124 hq124 => ?_; clear hq123
    refine wq_skip hq124 (wanted_no hq124 rfl rfl rfl rfl hb114) rfl rfl fun a125 hq125 => ?_; clear hq124
    refine wq_val hq125 (r_pickT rfl rfl hb114 rfl) (wanted_none rfl _) rfl rfl fun a126 hq126 => ?_; clear hq125
    refine wpQuiet_nil (hZ106 _ fun w127 hw127 => ?_)
    have h127 : St 153 (fun _ => False) W a126 w127 _ _ := ⟨hq126, hw127⟩
    clear hq126 hw127 h101
    refine hK105 _ _ ?_
    refine x_condT h127 rfl rfl ?_
    refine wp_exit ?_
    refine hK103 _ _ ?_
    have h128 : St 153 (fun _ => False) W a126 w127 [(1, .pointer (some ⟨b3, 0, none⟩)), (2, .pointer (some ⟨b4, 0, none⟩)), (3, .pointer (some ⟨b11, 0, none⟩)), (4, .int .i64 ((t : Nat) : Int)), (5, (nth code.l t).v), (6, v47), (9, .int .i64 ((j : Nat) : Int))] [.big (matX (.own 3) 24 v47 M3), .own 3 (⟨v17, words.l⟩ : Ls Int), .blk b11 28 [vq, v17, .int .i64 locks, .int .i64 regs], .blk b4 28 [(.slice none 0 0), (.slice none 0 0), .int .i64 0, .int .i64 0], .blk b3 28 [code.v, words.v, .int .i64 locks, .int .i64 regs], .at_ code, .at_ words, .deep 64 (⟨vq, qs⟩ : Ls (Ls Ins))] := h127.nrm ⟨rfl, rfl, rfl, rfl, rfl, rfl, rfl, trivial⟩ [0, 1, 2, 3, 4, 5, 6, 7] (by decide) ⟨rfl, rfl, rfl, rfl, rfl, rfl, rfl, rfl, trivial⟩
    clear h127
    refine wp_region_lit ?_
    refine wms 1 h128 rfl fun a129 h129 => ?_; clear h128
    refine wv h129 (r_addN (p := j) (q := 1) rfl rfl rfl (show j + 1 < 9223372036854775808 from (by omega))) rfl rfl fun a130 h130 => ?_; clear h129
    refine wms 1 h130 rfl fun a131 h131 => ?_; clear h130
    refine wpList_nil ?_
    refine x_again ⟨_, ?_, j + 1, M3, ?_, ?_, ?_, h131.nrm ⟨rfl, rfl, rfl, rfl, rfl, rfl, rfl, trivial⟩ [0, 1, 2, 3, 4, 5, 6, 7] (by decide) ⟨rfl, rfl, rfl, rfl, rfl, rfl, rfl, rfl, trivial⟩, rfl⟩
    · rw [hm96]; first | omega | (simp only [lens9]; omega)
    · omega
    · first | exact hM4 | exact hM3
    · first | (have e9 : i4 = (nth code.l t).l.length := (by omega); rw [e9] at hR4; exact oth_end2 hR4) | exact oth_skip hR3 (by omega)
   have hp114 : ¬ ((nth ((nth code.l t).l) j).op ≠ 2) := of_decide_eq_false hb114
   refine wq_val hq113 (r_move rfl rfl) (wanted_yes hq113 rfl rfl rfl rfl hb114) rfl rfl fun a133 hq133 => ?_; clear hq113
   refine wq_val hq133 (r_move rfl rfl) (wanted_yes hq133 rfl rfl rfl rfl hb114) rfl rfl fun a135 hq135 => ?_; clear hq133
   refine wq_val hq135 (r_ixN (s := nth code.l t) (q := j) sl_64 ti_73 rfl rfl rfl (fun w h => ((h.at 5 rfl).nth t (show t < code.l.length from (by omega)))) (show j < ((nth code.l t).l).length from (by omega))) (wanted_yes hq135 rfl rfl rfl rfl hb114) rfl rfl fun a137 hq137 => ?_; clear hq135
   refine wq_val hq137 (r_fieldE (r := 1) fl_73_1 rfl rfl rfl) (wanted_yes hq137 rfl rfl rfl rfl hb114) rfl rfl fun a139 hq139 => ?_; clear hq137
   refine wq_val hq139 (r_lde (s := nth code.l t) (i := j) (v := .int .i64 ((nth ((nth code.l t).l) j).a)) ti_3 rfl rfl rfl (fun w h => ((h.at 5 rfl).nth t (show t < code.l.length from (by omega)))) (show j < ((nth code.l t).l).length from (by omega)) (Nat.le_of_ble_eq_true rfl) rfl) (wanted_yes hq139 rfl rfl rfl rfl hb114) rfl rfl fun a141 hq141 => ?_; clear hq139
   refine wq_val hq141 (r_move rfl rfl) (wanted_yes hq141 rfl rfl rfl rfl hb114) rfl rfl fun a143 hq143 => ?_; clear hq141
   refine wq_val hq143 (r_move rfl rfl) (wanted_yes hq143 rfl rfl rfl rfl hb114) rfl rfl fun a145 hq145 => ?_; clear hq143
   refine wq_val hq145 (r_ixN (s := nth code.l t) (q := j) sl_64 ti_73 rfl rfl rfl (fun w h => ((h.at 5 rfl).nth t (show t < code.l.length from (by omega)))) (show j < ((nth code.l t).l).length from (by omega))) (wanted_yes hq145 rfl rfl rfl rfl hb114) rfl rfl fun a147 hq147 => ?_; clear hq145
   refine wq_val hq147 (r_fieldE (r := 2) fl_73_2 rfl rfl rfl) (wanted_yes hq147 rfl rfl rfl rfl hb114) rfl rfl fun a149 hq149 => ?_; clear hq147
   refine wq_val hq149 (r_lde (s := nth code.l t) (i := j) (v := .int .i64 ((nth ((nth code.l t).l) j).b)) ti_3 rfl rfl rfl (fun w h => ((h.at 5 rfl).nth t (show t < code.l.length from (by omega)))) (show j < ((nth code.l t).l).length from (by omega)) (Nat.le_of_ble_eq_true rfl) rfl) (wanted_yes hq149 rfl rfl rfl rfl hb114) rfl rfl fun a151 hq151 => ?_; clear hq149
   refine wq_val hq151 (r_eqlI (p := (nth ((nth code.l t).l) j).a) (q := (nth ((nth code.l t).l) j).b) rfl rfl rfl) (wanted_yes hq151 rfl rfl rfl rfl hb114) rfl rfl fun a153 hq153 => ?_; clear hq151
   refine wq_val hq153 (r_pickF rfl rfl hb114 rfl) (wanted_none rfl _) rfl rfl fun a154 hq154 => ?_; clear hq153
   refine wpQuiet_nil (hZ106 _ fun w155 hw155 => ?_)
   have h155 : St 153 (fun _ => False) W a154 w155 _ _ := ⟨hq154, hw155⟩
   clear hq154 hw155 h101
   refine hK105 _ _ ?_
   refine x_cond h155 rfl (fun hb156 => ?_) (fun hb156 => ?_)
   ·
    have hp156 : (nth ((nth code.l t).l) j).a = (nth ((nth code.l t).l) j).b := of_decide_eq_true hb156
    refine wp_exit ?_
    refine hK103 _ _ ?_
    have h157 : St 153 (fun _ => False) W a154 w155 [(1, .pointer (some ⟨b3, 0, none⟩)), (2, .pointer (some ⟨b4, 0, none⟩)), (3, .pointer (some ⟨b11, 0, none⟩)), (4, .int .i64 ((t : Nat) : Int)), (5, (nth code.l t).v), (6, v47), (9, .int .i64 ((j : Nat) : Int))] [.big (matX (.own 3) 24 v47 M3), .own 3 (⟨v17, words.l⟩ : Ls Int), .blk b11 28 [vq, v17, .int .i64 locks, .int .i64 regs], .blk b4 28 [(.slice none 0 0), (.slice none 0 0), .int .i64 0, .int .i64 0], .blk b3 28 [code.v, words.v, .int .i64 locks, .int .i64 regs], .at_ code, .at_ words, .deep 64 (⟨vq, qs⟩ : Ls (Ls Ins))] := h155.nrm ⟨rfl, rfl, rfl, rfl, rfl, rfl, rfl, trivial⟩ [0, 1, 2, 3, 4, 5, 6, 7] (by decide) ⟨rfl, rfl, rfl, rfl, rfl, rfl, rfl, rfl, trivial⟩
    clear h155
    refine wp_region_lit ?_
    refine wms 1 h157 rfl fun a158 h158 => ?_; clear h157
    refine wv h158 (r_addN (p := j) (q := 1) rfl rfl rfl (show j + 1 < 9223372036854775808 from (by omega))) rfl rfl fun a159 h159 => ?_; clear h158
    refine wms 1 h159 rfl fun a160 h160 => ?_; clear h159
    refine wpList_nil ?_
    refine x_again ⟨_, ?_, j + 1, M3, ?_, ?_, ?_, h160.nrm ⟨rfl, rfl, rfl, rfl, rfl, rfl, rfl, trivial⟩ [0, 1, 2, 3, 4, 5, 6, 7] (by decide) ⟨rfl, rfl, rfl, rfl, rfl, rfl, rfl, rfl, trivial⟩, rfl⟩
    · rw [hm96]; first | omega | (simp only [lens9]; omega)
    · omega
    · first | exact hM4 | exact hM3
    · first | (have e9 : i4 = (nth code.l t).l.length := (by omega); rw [e9] at hR4; exact oth_end2 hR4) | exact oth_skip hR3 (by omega)
   have hp156 : ¬ ((nth ((nth code.l t).l) j).a = (nth ((nth code.l t).l) j).b) := of_decide_eq_false hb156
   refine wp_skip ?_
   refine hK104 _ _ ?_
   have h161 : St 153 (fun _ => False) W a154 w155 [(1, .pointer (some ⟨b3, 0, none⟩)), (2, .pointer (some ⟨b4, 0, none⟩)), (3, .pointer (some ⟨b11, 0, none⟩)), (4, .int .i64 ((t : Nat) : Int)), (5, (nth code.l t).v), (6, v47), (9, .int .i64 ((j : Nat) : Int))] [.big (matX (.own 3) 24 v47 M3), .own 3 (⟨v17, words.l⟩ : Ls Int), .blk b11 28 [vq, v17, .int .i64 locks, .int .i64 regs], .blk b4 28 [(.slice none 0 0), (.slice none 0 0), .int .i64 0, .int .i64 0], .blk b3 28 [code.v, words.v, .int .i64 locks, .int .i64 regs], .at_ code, .at_ words, .deep 64 (⟨vq, qs⟩ : Ls (Ls Ins))] := h155.nrm ⟨rfl, rfl, rfl, rfl, rfl, rfl, rfl, trivial⟩ [0, 1, 2, 3, 4, 5, 6, 7] (by decide) ⟨rfl, rfl, rfl, rfl, rfl, rfl, rfl, rfl, trivial⟩
   clear h155
   have hmv := mv_in hok htl (i := j) (by omega) (by omega)
   refine wp_seq_k fun K162 hK162 => ?_
   refine x_tail 11 [] (by kernel_rfl) (by kernel_rfl) h161 fun Z163 hZ163 => ?_
   have hq163 := h161.fr
   refine wq_val hq163 (r_move rfl rfl) (wanted_none rfl _) rfl rfl fun a164 hq164 => ?_; clear hq163
   refine wq_val hq164 (r_move rfl rfl) (wanted_none rfl _) rfl rfl fun a165 hq165 => ?_; clear hq164
   refine wq_val hq165 (r_move rfl rfl) (wanted_none rfl _) rfl rfl fun a166 hq166 => ?_; clear hq165
   refine wq_val hq166 (r_ixN (s := nth code.l t) (q := j) sl_64 ti_73 rfl rfl rfl (fun w h => ((h.at 5 rfl).nth t (show t < code.l.length from (by omega)))) (show j < ((nth code.l t).l).length from (by omega))) (wanted_none rfl _) rfl rfl fun a167 hq167 => ?_; clear hq166
   refine wq_val hq167 (r_fieldE (r := 1) fl_73_1 rfl rfl rfl) (wanted_none rfl _) rfl rfl fun a168 hq168 => ?_; clear hq167
   refine wq_val hq168 (r_lde (s := nth code.l t) (i := j) (v := .int .i64 ((nth ((nth code.l t).l) j).a)) ti_3 rfl rfl rfl (fun w h => ((h.at 5 rfl).nth t (show t < code.l.length from (by omega)))) (show j < ((nth code.l t).l).length from (by omega)) (Nat.le_of_ble_eq_true rfl) rfl) (wanted_none rfl _) rfl rfl fun a169 hq169 => ?_; clear hq168
   refine wq_val hq169 (r_move rfl rfl) (wanted_none rfl _) rfl rfl fun a170 hq170 => ?_; clear hq169
   refine wq_val hq170 (r_move rfl rfl) (wanted_none rfl _) rfl rfl fun a171 hq171 => ?_; clear hq170
   refine wq_val hq171 (r_ixN (s := nth code.l t) (q := j) sl_64 ti_73 rfl rfl rfl (fun w h => ((h.at 5 rfl).nth t (show t < code.l.length from (by omega)))) (show j < ((nth code.l t).l).length from (by omega))) (wanted_none rfl _) rfl rfl fun a172 hq172 => ?_; clear hq171
   refine wq_val hq172 (r_fieldE (r := 2) fl_73_2 rfl rfl rfl) (wanted_none rfl _) rfl rfl fun a173 hq173 => ?_; clear hq172
   refine wq_val hq173 (r_lde (s := nth code.l t) (i := j) (v := .int .i64 ((nth ((nth code.l t).l) j).b)) ti_3 rfl rfl rfl (fun w h => ((h.at 5 rfl).nth t (show t < code.l.length from (by omega)))) (show j < ((nth code.l t).l).length from (by omega)) (Nat.le_of_ble_eq_true rfl) rfl) (wanted_none rfl _) rfl rfl fun a174 hq174 => ?_; clear hq173
   refine wpQuiet_nil (hZ163 _ fun w175 hw175 => ?_)
   have h175 : St 153 (fun _ => False) W a174 w175 _ _ := ⟨hq174, hw175⟩
   clear hq174 hw175 h161
   refine wl_ex (x_call h175 bd_88 rfl rfl rfl rfl rfl (is_c (nth code.l t) ((nth ((nth code.l t).l) j).a) ((nth ((nth code.l t).l) j).b) _ ((h175.sh.at 5 rfl).nth t (show t < code.l.length from (by omega))) hct (by omega))) (wanted_none rfl _) ?_
   rintro a176 w176 ⟨_, ⟨s176, rfl, hsl176, hsv176, hs176⟩, hf176⟩
   have h176 := (⟨hf176, h175.sh.call hs176 (by intro A hA b hb; first | (simp at hA; done) | (simp at hA; subst hA; first | exact Flat.noRd hb | exact (hb : False).elim) | (simp at hA; rcases hA with rfl | rfl <;> first | exact Flat.noRd hb | exact (hb : False).elim))⟩ : St 153 (fun _ => False) W a176 w176 _ _)
   clear hf176 hs176
   clear h175
   refine wms 1 h176 rfl fun a177 h177 => ?_; clear h176
   refine wpList_nil (hK162 _ _ ?_)
   refine wp_seq_k fun K178 hK178 => wp_region_lit ?_
   refine wms 1 h177 rfl fun a179 h179 => ?_; clear h177
   refine wpList_nil (hK178 _ _ ?_)
   refine wp_block ?_
   refine x_loop (fun m a w => ∃ (i4 : Nat) (M4 : List (Ls Int)), (i4 ≤ (nth code.l t).l.length) ∧ (M4.length = (nth code.l t).l.length + 1) ∧ (RowsP M4 (nth code.l t).l.length regs.toNat (othM (nth code.l t).l j i4)) ∧ St 153 (fun _ => False) W a w [(1, .pointer (some ⟨b3, 0, none⟩)), (2, .pointer (some ⟨b4, 0, none⟩)), (3, .pointer (some ⟨b11, 0, none⟩)), (4, .int .i64 ((t : Nat) : Int)), (5, (nth code.l t).v), (6, v47), (9, .int .i64 ((j : Nat) : Int)), (10, s176.v), (11, .int .i64 ((i4 : Nat) : Int))] [.own 4 s176, .big (matX (.own 3) 24 v47 M4), .own 3 (⟨v17, words.l⟩ : Ls Int), .blk b11 28 [vq, v17, .int .i64 locks, .int .i64 regs], .blk b4 28 [(.slice none 0 0), (.slice none 0 0), .int .i64 0, .int .i64 0], .blk b3 28 [code.v, words.v, .int .i64 locks, .int .i64 regs], .at_ code, .at_ words, .deep 64 (⟨vq, qs⟩ : Ls (Ls Ins))] ∧ m = (nth code.l t).l.length - i4) ⟨_, 0, M3, (by omega), (hM3), (oth_start hR3), h179.nrm ⟨rfl, rfl, rfl, rfl, rfl, rfl, rfl, rfl, rfl, trivial⟩ [0, 1, 2, 3, 4, 5, 6, 7, 8] (by decide) ⟨rfl, rfl, rfl, rfl, rfl, rfl, rfl, rfl, rfl, trivial⟩, rfl⟩ ?_
   clear h179
   rintro m180 a180 w180 ⟨i4, M4, hi4, hM4, hR4, h180, hm180⟩
   refine wp_seq_k fun K181 hK181 => ?_
   refine wp_seq_k fun K182 hK182 => wp_region_lit ?_
   refine wms 2 h180 rfl fun a183 h183 => ?_; clear h180
   refine wv h183 (r_len (s := nth code.l t) (n := ((nth code.l t).l).length) sl_64 rfl rfl (fun w h => ((h.at 6 rfl).nth t (show t < code.l.length from (by omega)))) rfl) rfl rfl fun a184 h184 => ?_; clear h183
   refine wv h184 (r_lssN (p := i4) (q := ((nth code.l t).l).length) rfl rfl rfl) rfl rfl fun a185 h185 => ?_; clear h184
   refine wpList_nil (hK182 _ _ ?_)
   refine x_cond h185 rfl (fun hb186 => ?_) (fun hb186 => ?_)
   ·
    have hp186 : i4 < ((nth code.l t).l).length := of_decide_eq_true hb186
    refine wp_skip ?_
    refine hK181 _ _ ?_
    refine wp_seq_k fun K187 hK187 => ?_
    refine wp_block ?_
    refine wp_seq_k fun K188 hK188 => wp_region_lit ?_
    refine wms 2 h185 rfl fun a189 h189 => ?_; clear h185
    have hl190 : s176.l.length ≤ 140737488355328 := (h189.sh.own 0 rfl).len
    refine wv h189 (r_ixN (s := s176) (q := i4) sl_66 ti_4 rfl rfl rfl (fun w h => (h.own 0 rfl)) (show i4 < s176.l.length from (by omega))) rfl rfl fun a191 h191 => ?_; clear h189
    refine wv h191 (r_lde (s := s176) (i := i4) (v := .bool (nth s176.l i4)) ti_4 rfl rfl rfl (fun w h => (h.own 0 rfl)) (show i4 < s176.l.length from (by omega)) (Nat.le_of_ble_eq_true rfl) rfl) rfl rfl fun a192 h192 => ?_; clear h191
    refine wpList_nil (hK188 _ _ ?_)
    have hrl := (hR4 i4 (by omega)).1
    refine x_cond h192 rfl (fun hb193 => ?_) (fun hb193 => ?_)
    ·
     skip
     refine x_tail 15 [] (by kernel_rfl) (by kernel_rfl) h192 fun Z194 hZ194 => ?_
     have hq194 := h192.fr
     refine wq_val hq194 (r_move rfl rfl) (wanted_none rfl _) rfl rfl fun a195 hq195 => ?_; clear hq194
     refine wq_val hq195 (r_move rfl rfl) (wanted_none rfl _) rfl rfl fun a196 hq196 => ?_; clear hq195
     refine wq_val hq196 (r_ixN (s := (⟨v47, rvs M4⟩ : Ls RV)) (q := i4) sl_46 ti_24 rfl rfl rfl (fun w h => (h.matAt 1 rfl)) (by rw [rvs_len]; exact (show i4 < M4.length from (by first | omega | (constructor <;> omega))))) (wanted_none rfl _) rfl rfl fun a197 hq197 => ?_; clear hq196
     refine wq_val hq197 (Rn.same (r_lde (s := (⟨v47, rvs M4⟩ : Ls RV)) (i := i4) (v := (nth (rvs M4) i4).v) ti_24 rfl rfl rfl (fun w h => h.matAt 1 rfl) (by rw [rvs_len]; exact (show i4 < M4.length from (by omega))) (Nat.le_of_ble_eq_true rfl) rfl) (nth_rvs M4 i4)) (wanted_none rfl _) rfl rfl fun a198 hq198 => ?_; clear hq197
     refine wq_val hq198 (r_move rfl rfl) (wanted_none rfl _) rfl rfl fun a199 hq199 => ?_; clear hq198
     refine wq_val hq199 (r_move rfl rfl) (wanted_none rfl _) rfl rfl fun a200 hq200 => ?_; clear hq199
     refine wq_val hq200 (r_ixN (s := nth code.l t) (q := j) sl_64 ti_73 rfl rfl rfl (fun w h => ((h.at 6 rfl).nth t (show t < code.l.length from (by omega)))) (show j < ((nth code.l t).l).length from (by first | omega | (constructor <;> omega)))) (wanted_none rfl _) rfl rfl fun a201 hq201 => ?_; clear hq200
     refine wq_val hq201 (r_fieldE (r := 1) fl_73_1 rfl rfl rfl) (wanted_none rfl _) rfl rfl fun a202 hq202 => ?_; clear hq201
     refine wq_val hq202 (r_lde (s := nth code.l t) (i := j) (v := .int .i64 ((nth ((nth code.l t).l) j).a)) ti_3 rfl rfl rfl (fun w h => ((h.at 6 rfl).nth t (show t < code.l.length from (by omega)))) (show j < ((nth code.l t).l).length from (by omega)) (Nat.le_of_ble_eq_true rfl) rfl) (wanted_none rfl _) rfl rfl fun a203 hq203 => ?_; clear hq202
     refine wq_val hq203 (r_move rfl rfl) (wanted_none rfl _) rfl rfl fun a204 hq204 => ?_; clear hq203
     refine wq_val hq204 (r_move rfl rfl) (wanted_none rfl _) rfl rfl fun a205 hq205 => ?_; clear hq204
     refine wq_val hq205 (r_ixN (s := nth code.l t) (q := j) sl_64 ti_73 rfl rfl rfl (fun w h => ((h.at 6 rfl).nth t (show t < code.l.length from (by omega)))) (show j < ((nth code.l t).l).length from (by first | omega | (constructor <;> omega)))) (wanted_none rfl _) rfl rfl fun a206 hq206 => ?_; clear hq205
     refine wq_val hq206 (r_fieldE (r := 2) fl_73_2 rfl rfl rfl) (wanted_none rfl _) rfl rfl fun a207 hq207 => ?_; clear hq206
     refine wq_val hq207 (r_lde (s := nth code.l t) (i := j) (v := .int .i64 ((nth ((nth code.l t).l) j).b)) ti_3 rfl rfl rfl (fun w h => ((h.at 6 rfl).nth t (show t < code.l.length from (by omega)))) (show j < ((nth code.l t).l).length from (by omega)) (Nat.le_of_ble_eq_true rfl) rfl) (wanted_none rfl _) rfl rfl fun a208 hq208 => ?_; clear hq207
     have hl209 : ((nth M4 i4).l).length ≤ 140737488355328 := (h192.sh.matRow 1 rfl i4 (show i4 < M4.length from (by omega))).len
     refine wq_val hq208 (r_ixI (s := (nth M4 i4)) (q := (nth ((nth code.l t).l) j).a) sl_24 ti_3 rfl rfl rfl (fun w h => (h.matRow 1 rfl i4 (show i4 < M4.length from (by omega)))) (show 0 ≤ (nth ((nth code.l t).l) j).a ∧ (nth ((nth code.l t).l) j).a < ((nth M4 i4).l).length from (by first | omega | (constructor <;> omega)))) (wanted_none rfl _) rfl rfl fun a210 hq210 => ?_; clear hq208
     refine wpQuiet_nil (hZ194 _ fun w211 hw211 => ?_)
     have h211 : St 153 (fun _ => False) W a210 w211 _ _ := ⟨hq210, hw211⟩
     clear hq210 hw211 h192
     have h212 := h211.sel (L' := [.big (matX (.own 3) 24 v47 M4), .own 4 s176, .own 3 (⟨v17, words.l⟩ : Ls Int), .blk b11 28 [vq, v17, .int .i64 locks, .int .i64 regs], .blk b4 28 [(.slice none 0 0), (.slice none 0 0), .int .i64 0, .int .i64 0], .blk b3 28 [code.v, words.v, .int .i64 locks, .int .i64 regs], .at_ code, .at_ words, .deep 64 (⟨vq, qs⟩ : Ls (Ls Ins))]) [1, 0, 2, 3, 4, 5, 6, 7, 8] (by decide) ⟨rfl, rfl, rfl, rfl, rfl, rfl, rfl, rfl, rfl, trivial⟩
     refine wl_ex (x_stMatE (i := i4) (q := ((nth ((nth code.l t).l) j).a).toNat) (x' := ((nth ((nth code.l t).l) j).b : Int)) h212 ti_3 rfl rfl rfl rfl (show i4 < M4.length from (by omega)) (show ((nth ((nth code.l t).l) j).a).toNat < (nth M4 i4).l.length from (by first | omega | (rw [hrl]; omega))) rfl rfl rfl rfl) (wanted_none rfl _) ?_
     rintro a213 w213 h213
     clear h212
     refine wpList_nil (hK187 _ _ ?_)
     have h214 : St 153 (fun _ => False) W a213 w213 [(1, .pointer (some ⟨b3, 0, none⟩)), (2, .pointer (some ⟨b4, 0, none⟩)), (3, .pointer (some ⟨b11, 0, none⟩)), (4, .int .i64 ((t : Nat) : Int)), (5, (nth code.l t).v), (6, v47), (9, .int .i64 ((j : Nat) : Int)), (10, s176.v), (11, .int .i64 ((i4 : Nat) : Int))] [.big (matX (.own 3) 24 v47 (M4.set i4 ⟨(nth M4 i4).v, (nth M4 i4).l.set (((nth ((nth code.l t).l) j).a).toNat) ((nth ((nth code.l t).l) j).b)⟩)), .own 4 s176, .own 3 (⟨v17, words.l⟩ : Ls Int), .blk b11 28 [vq, v17, .int .i64 locks, .int .i64 regs], .blk b4 28 [(.slice none 0 0), (.slice none 0 0), .int .i64 0, .int .i64 0], .blk b3 28 [code.v, words.v, .int .i64 locks, .int .i64 regs], .at_ code, .at_ words, .deep 64 (⟨vq, qs⟩ : Ls (Ls Ins))] := h213.nrm ⟨rfl, rfl, rfl, rfl, rfl, rfl, rfl, rfl, rfl, trivial⟩ [0, 1, 2, 3, 4, 5, 6, 7, 8] (by decide) ⟨rfl, rfl, rfl, rfl, rfl, rfl, rfl, rfl, rfl, trivial⟩
     clear h213
     refine wp_region_lit ?_
     refine wms 1 h214 rfl fun a215 h215 => ?_; clear h214
     refine wv h215 (r_addN (p := i4) (q := 1) rfl rfl rfl (show i4 + 1 < 9223372036854775808 from (by omega))) rfl rfl fun a216 h216 => ?_; clear h215
     refine wms 1 h216 rfl fun a217 h217 => ?_; clear h216
     refine wpList_nil ?_
     refine x_again ⟨_, ?_, i4 + 1, M4.set i4 ⟨(nth M4 i4).v, (nth M4 i4).l.set (((nth ((nth code.l t).l) j).a).toNat) ((nth ((nth code.l t).l) j).b)⟩, ?_, ?_, ?_, h217.nrm ⟨rfl, rfl, rfl, rfl, rfl, rfl, rfl, rfl, rfl, trivial⟩ [1, 0, 2, 3, 4, 5, 6, 7, 8] (by decide) ⟨rfl, rfl, rfl, rfl, rfl, rfl, rfl, rfl, rfl, trivial⟩, rfl⟩
     · rw [hm180]; first | omega | (simp only [lens9]; omega)
     · omega
     · first | exact hM4 | (rw [List.length_set]; exact hM4)
     · first | exact oth_off hR4 (fun h9 => absurd ((hsv176 i4 (by omega)).2 h9) (by rw [(by assumption : nth _ i4 = false)]; decide)) | exact oth_on hct (by omega) hR4 (by omega) (by omega) (by omega) (by omega) ((hsv176 i4 (by omega)).1 (by assumption)) (by omega)
    refine wp_skip ?_
    refine hK187 _ _ ?_
    refine wp_region_lit ?_
    refine wms 1 h192 rfl fun a218 h218 => ?_; clear h192
    refine wv h218 (r_addN (p := i4) (q := 1) rfl rfl rfl (show i4 + 1 < 9223372036854775808 from (by omega))) rfl rfl fun a219 h219 => ?_; clear h218
    refine wms 1 h219 rfl fun a220 h220 => ?_; clear h219
    refine wpList_nil ?_
    refine x_again ⟨_, ?_, i4 + 1, M4, ?_, ?_, ?_, h220.nrm ⟨rfl, rfl, rfl, rfl, rfl, rfl, rfl, rfl, rfl, trivial⟩ [0, 1, 2, 3, 4, 5, 6, 7, 8] (by decide) ⟨rfl, rfl, rfl, rfl, rfl, rfl, rfl, rfl, rfl, trivial⟩, rfl⟩
    · rw [hm180]; first | omega | (simp only [lens9]; omega)
    · omega
    · first | exact hM4 | (rw [List.length_set]; exact hM4)
    · first | exact oth_off hR4 (fun h9 => absurd ((hsv176 i4 (by omega)).2 h9) (by rw [(by assumption : nth _ i4 = false)]; decide)) | exact oth_on hct (by omega) hR4 (by omega) (by omega) (by omega) (by omega) ((hsv176 i4 (by omega)).1 (by assumption)) (by omega)
   have hp186 : ¬ (i4 < ((nth code.l t).l).length) := of_decide_eq_false hb186
   refine wp_exit ?_
   refine hK103 _ _ ?_
   refine wp_region_lit ?_
   refine wms 1 h185 rfl fun a221 h221 => ?_; clear h185
   refine wv h221 (r_addN (p := j) (q := 1) rfl rfl rfl (show j + 1 < 9223372036854775808 from (by omega))) rfl rfl fun a222 h222 => ?_; clear h221
   refine wms 1 h222 rfl fun a223 h223 => ?_; clear h222
   refine wpList_nil ?_
   refine x_again ⟨_, ?_, j + 1, M4, ?_, ?_, ?_, h223.nrm ⟨rfl, rfl, rfl, rfl, rfl, rfl, rfl, trivial⟩ [1, 2, 3, 4, 5, 6, 7, 8] (by decide) ⟨rfl, rfl, rfl, rfl, rfl, rfl, rfl, rfl, trivial⟩, rfl⟩
   · rw [hm96]; first | omega | (simp only [lens9]; omega)
   · omega
   · first | exact hM4 | exact hM3
   · first | (have e9 : i4 = (nth code.l t).l.length := (by omega); rw [e9] at hR4; exact oth_end2 hR4) | exact oth_skip hR3 (by omega)
  have hp102 : ¬ (j < ((nth code.l t).l).length) := of_decide_eq_false hb102
  refine wp_exit ?_
  refine hK93 _ _ ?_
  refine wp_seq_k fun K224 hK224 => wp_region_lit ?_
  refine wms 1 h101 rfl fun a225 h225 => ?_; clear h101
  refine wpList_nil (hK224 _ _ ?_)
  refine wp_seq_k fun K226 hK226 => ?_
  refine wp_seq_k fun K227 hK227 => wp_region_lit ?_
  refine wms 1 h225 rfl fun a228 h228 => ?_; clear h225
  refine wpList_nil (hK227 _ _ ?_)
  refine wp_block ?_
  have h230 := h228.nil (α := Ins) 73
  clear h228
  have hR5 : RowsP M3 (nth code.l t).l.length regs.toNat (fun a b => othF (nth code.l t).l a (nth code.l t).l.length b) := by have e9 : j = (nth code.l t).l.length := (by omega); rw [e9] at hR3; exact hR3
  refine x_loop (fun m a w => ∃ (i5 : Nat) (ol : List Ins) (vo : Value), (i5 ≤ (nth code.l t).l.length) ∧ (ol = (List.range i5).map fun i => copyIns (sameF (nth code.l t).l i) (nth (nth code.l t).l i)) ∧ (ol.length = i5) ∧ St 153 (fun _ => False) W a w [(1, .pointer (some ⟨b3, 0, none⟩)), (2, .pointer (some ⟨b4, 0, none⟩)), (3, .pointer (some ⟨b11, 0, none⟩)), (4, .int .i64 ((t : Nat) : Int)), (5, (nth code.l t).v), (6, v47), (12, vo), (13, .int .i64 ((i5 : Nat) : Int))] [.big (matX (.own 3) 24 v47 M3), .own 3 (⟨v17, words.l⟩ : Ls Int), .blk b11 28 [vq, v17, .int .i64 locks, .int .i64 regs], .blk b4 28 [(.slice none 0 0), (.slice none 0 0), .int .i64 0, .int .i64 0], .blk b3 28 [code.v, words.v, .int .i64 locks, .int .i64 regs], .at_ code, .at_ words, .deep 64 (⟨vq, qs⟩ : Ls (Ls Ins)), .own 73 (⟨vo, ol⟩ : Ls Ins)] ∧ m = (nth code.l t).l.length - i5) ⟨_, 0, [], (.slice none 0 0), (by omega), (rfl), (rfl), h230.nrm ⟨rfl, rfl, rfl, rfl, rfl, rfl, rfl, rfl, trivial⟩ [1, 2, 3, 4, 5, 6, 7, 8, 0] (by decide) ⟨rfl, rfl, rfl, rfl, rfl, rfl, rfl, rfl, rfl, trivial⟩, rfl⟩ ?_
  clear h230
  rintro m229 a229 w229 ⟨i5, ol, vo, hi5, hol, holl, h229, hm229⟩
  refine wp_seq_k fun K231 hK231 => ?_
  refine wp_seq_k fun K232 hK232 => wp_region_lit ?_
  refine wms 2 h229 rfl fun a233 h233 => ?_; clear h229
  refine wv h233 (r_len (s := nth code.l t) (n := ((nth code.l t).l).length) sl_64 rfl rfl (fun w h => ((h.at 5 rfl).nth t (show t < code.l.length from (by omega)))) rfl) rfl rfl fun a234 h234 => ?_; clear h233
  refine wv h234 (r_lssN (p := i5) (q := ((nth code.l t).l).length) rfl rfl rfl) rfl rfl fun a235 h235 => ?_; clear h234
  refine wpList_nil (hK232 _ _ ?_)
  refine x_cond h235 rfl (fun hb236 => ?_) (fun hb236 => ?_)
  ·
   have hp236 : i5 < ((nth code.l t).l).length := of_decide_eq_true hb236
   refine wp_skip ?_
   refine hK231 _ _ ?_
   refine wp_seq_k fun K237 hK237 => ?_
   refine wp_block ?_
   refine wp_seq_k fun K238 hK238 => ?_
   have h239 : St 153 (fun _ => False) W a235 w229 [(1, .pointer (some ⟨b3, 0, none⟩)), (2, .pointer (some ⟨b4, 0, none⟩)), (3, .pointer (some ⟨b11, 0, none⟩)), (4, .int .i64 ((t : Nat) : Int)), (5, (nth code.l t).v), (6, v47), (12, vo), (13, .int .i64 ((i5 : Nat) : Int)), (127, .int .i64 ((i5 : Nat) : Int)), (128, (nth code.l t).v), (129, .int .i64 ((((nth code.l t).l).length : Nat) : Int)), (130, .bool (decide (i5 < ((nth code.l t).l).length)))] [.big (matX (.own 3) 24 v47 M3), .own 3 (⟨v17, words.l⟩ : Ls Int), .blk b11 28 [vq, v17, .int .i64 locks, .int .i64 regs], .blk b4 28 [(.slice none 0 0), (.slice none 0 0), .int .i64 0, .int .i64 0], .blk b3 28 [code.v, words.v, .int .i64 locks, .int .i64 regs], .at_ code, .at_ words, .deep 64 (⟨vq, qs⟩ : Ls (Ls Ins)), .own 73 (⟨vo, ol⟩ : Ls Ins)] := h235.nrm ⟨rfl, rfl, rfl, rfl, rfl, rfl, rfl, rfl, rfl, rfl, rfl, rfl, trivial⟩ [0, 1, 2, 3, 4, 5, 6, 7, 8] (by decide) ⟨rfl, rfl, rfl, rfl, rfl, rfl, rfl, rfl, rfl, trivial⟩
   clear h235
   refine x_any (fun S a w => (S 8 = false ∧ S 9 = false ∧ S 10 = false ∧ FrI 153 S [(1, .pointer (some ⟨b3, 0, none⟩)), (2, .pointer (some ⟨b4, 0, none⟩)), (3, .pointer (some ⟨b11, 0, none⟩)), (4, .int .i64 ((t : Nat) : Int)), (5, (nth code.l t).v), (6, v47), (12, vo), (13, .int .i64 ((i5 : Nat) : Int)), (127, .int .i64 ((i5 : Nat) : Int)), (128, (nth code.l t).v), (129, .int .i64 ((((nth code.l t).l).length : Nat) : Int)), (130, .bool (decide (i5 < ((nth code.l t).l).length)))] [(0, 133, (nth code.l t).v), (1, 134, .int .i64 ((i5 : Nat) : Int)), (2, 135, .pointer (some (padr ((nth code.l t).v) 4 i5 0))), (3, 136, .agg #[.int .i64 ((nth ((nth code.l t).l) i5).op), .int .i64 ((nth ((nth code.l t).l) i5).a), .int .i64 ((nth ((nth code.l t).l) i5).b), .int .i64 ((nth ((nth code.l t).l) i5).c)]), (4, 137, v47), (5, 138, .int .i64 ((i5 : Nat) : Int)), (6, 139, .pointer (some (padr v47 1 i5 0))), (7, 140, (nth M3 i5).v)] a ∧ Sh (fun _ => False) W w [.big (matX (.own 3) 24 v47 M3), .own 3 (⟨v17, words.l⟩ : Ls Int), .blk b11 28 [vq, v17, .int .i64 locks, .int .i64 regs], .blk b4 28 [(.slice none 0 0), (.slice none 0 0), .int .i64 0, .int .i64 0], .blk b3 28 [code.v, words.v, .int .i64 locks, .int .i64 regs], .at_ code, .at_ words, .deep 64 (⟨vq, qs⟩ : Ls (Ls Ins)), .own 73 (⟨vo, ol⟩ : Ls Ins)]) ∨ (S 8 = true ∧ S 9 = false ∧ S 10 = false ∧ FrI 153 S [(1, .pointer (some ⟨b3, 0, none⟩)), (2, .pointer (some ⟨b4, 0, none⟩)), (3, .pointer (some ⟨b11, 0, none⟩)), (4, .int .i64 ((t : Nat) : Int)), (5, (nth code.l t).v), (6, v47), (12, vo), (13, .int .i64 ((i5 : Nat) : Int)), (127, .int .i64 ((i5 : Nat) : Int)), (128, (nth code.l t).v), (129, .int .i64 ((((nth code.l t).l).length : Nat) : Int)), (130, .bool (decide (i5 < ((nth code.l t).l).length)))] [(0, 133, (nth code.l t).v), (1, 134, .int .i64 ((i5 : Nat) : Int)), (2, 135, .pointer (some (padr ((nth code.l t).v) 4 i5 0))), (3, 136, .agg #[.int .i64 ((nth ((nth code.l t).l) i5).op), .int .i64 ((nth ((nth code.l t).l) i5).a), .int .i64 ((nth ((nth code.l t).l) i5).b), .int .i64 ((nth ((nth code.l t).l) i5).c)]), (4, 137, v47), (5, 138, .int .i64 ((i5 : Nat) : Int)), (6, 139, .pointer (some (padr v47 1 i5 0))), (7, 140, (nth M3 i5).v), (8, 141, .agg #[.int .i64 ((copyIns (rowF ((nth M3 i5).l)) (nth ((nth code.l t).l) i5)).op), .int .i64 ((copyIns (rowF ((nth M3 i5).l)) (nth ((nth code.l t).l) i5)).a), .int .i64 ((copyIns (rowF ((nth M3 i5).l)) (nth ((nth code.l t).l) i5)).b), .int .i64 ((copyIns (rowF ((nth M3 i5).l)) (nth ((nth code.l t).l) i5)).c)])] a ∧ Sh (fun _ => False) W w [.big (matX (.own 3) 24 v47 M3), .own 3 (⟨v17, words.l⟩ : Ls Int), .blk b11 28 [vq, v17, .int .i64 locks, .int .i64 regs], .blk b4 28 [(.slice none 0 0), (.slice none 0 0), .int .i64 0, .int .i64 0], .blk b3 28 [code.v, words.v, .int .i64 locks, .int .i64 regs], .at_ code, .at_ words, .deep 64 (⟨vq, qs⟩ : Ls (Ls Ins)), .own 73 (⟨vo, ol⟩ : Ls Ins)]) ∨ (S 8 = false ∧ S 9 = true ∧ S 10 = false ∧ ∃ (b7009 : Nat), FrI 153 S [(1, .pointer (some ⟨b3, 0, none⟩)), (2, .pointer (some ⟨b4, 0, none⟩)), (3, .pointer (some ⟨b11, 0, none⟩)), (4, .int .i64 ((t : Nat) : Int)), (5, (nth code.l t).v), (6, v47), (12, vo), (13, .int .i64 ((i5 : Nat) : Int)), (127, .int .i64 ((i5 : Nat) : Int)), (128, (nth code.l t).v), (129, .int .i64 ((((nth code.l t).l).length : Nat) : Int)), (130, .bool (decide (i5 < ((nth code.l t).l).length)))] [(0, 133, (nth code.l t).v), (1, 134, .int .i64 ((i5 : Nat) : Int)), (2, 135, .pointer (some (padr ((nth code.l t).v) 4 i5 0))), (3, 136, .agg #[.int .i64 ((nth ((nth code.l t).l) i5).op), .int .i64 ((nth ((nth code.l t).l) i5).a), .int .i64 ((nth ((nth code.l t).l) i5).b), .int .i64 ((nth ((nth code.l t).l) i5).c)]), (4, 137, v47), (5, 138, .int .i64 ((i5 : Nat) : Int)), (6, 139, .pointer (some (padr v47 1 i5 0))), (7, 140, (nth M3 i5).v), (9, 14, .pointer (some ⟨b7009, 0, none⟩))] a ∧ Sh (fun _ => False) W w [.blk b7009 73 [.int .i64 0, .int .i64 0, .int .i64 0, .int .i64 0], .big (matX (.own 3) 24 v47 M3), .own 3 (⟨v17, words.l⟩ : Ls Int), .blk b11 28 [vq, v17, .int .i64 locks, .int .i64 regs], .blk b4 28 [(.slice none 0 0), (.slice none 0 0), .int .i64 0, .int .i64 0], .blk b3 28 [code.v, words.v, .int .i64 locks, .int .i64 regs], .at_ code, .at_ words, .deep 64 (⟨vq, qs⟩ : Ls (Ls Ins)), .own 73 (⟨vo, ol⟩ : Ls Ins)]) ∨ (S 8 = true ∧ S 9 = true ∧ S 10 = false ∧ ∃ (b7009 : Nat), FrI 153 S [(1, .pointer (some ⟨b3, 0, none⟩)), (2, .pointer (some ⟨b4, 0, none⟩)), (3, .pointer (some ⟨b11, 0, none⟩)), (4, .int .i64 ((t : Nat) : Int)), (5, (nth code.l t).v), (6, v47), (12, vo), (13, .int .i64 ((i5 : Nat) : Int)), (127, .int .i64 ((i5 : Nat) : Int)), (128, (nth code.l t).v), (129, .int .i64 ((((nth code.l t).l).length : Nat) : Int)), (130, .bool (decide (i5 < ((nth code.l t).l).length)))] [(0, 133, (nth code.l t).v), (1, 134, .int .i64 ((i5 : Nat) : Int)), (2, 135, .pointer (some (padr ((nth code.l t).v) 4 i5 0))), (3, 136, .agg #[.int .i64 ((nth ((nth code.l t).l) i5).op), .int .i64 ((nth ((nth code.l t).l) i5).a), .int .i64 ((nth ((nth code.l t).l) i5).b), .int .i64 ((nth ((nth code.l t).l) i5).c)]), (4, 137, v47), (5, 138, .int .i64 ((i5 : Nat) : Int)), (6, 139, .pointer (some (padr v47 1 i5 0))), (7, 140, (nth M3 i5).v), (8, 141, .agg #[.int .i64 ((copyIns (rowF ((nth M3 i5).l)) (nth ((nth code.l t).l) i5)).op), .int .i64 ((copyIns (rowF ((nth M3 i5).l)) (nth ((nth code.l t).l) i5)).a), .int .i64 ((copyIns (rowF ((nth M3 i5).l)) (nth ((nth code.l t).l) i5)).b), .int .i64 ((copyIns (rowF ((nth M3 i5).l)) (nth ((nth code.l t).l) i5)).c)]), (9, 14, .pointer (some ⟨b7009, 0, none⟩))] a ∧ Sh (fun _ => False) W w [.blk b7009 73 [.int .i64 0, .int .i64 0, .int .i64 0, .int .i64 0], .big (matX (.own 3) 24 v47 M3), .own 3 (⟨v17, words.l⟩ : Ls Int), .blk b11 28 [vq, v17, .int .i64 locks, .int .i64 regs], .blk b4 28 [(.slice none 0 0), (.slice none 0 0), .int .i64 0, .int .i64 0], .blk b3 28 [code.v, words.v, .int .i64 locks, .int .i64 regs], .at_ code, .at_ words, .deep 64 (⟨vq, qs⟩ : Ls (Ls Ins)), .own 73 (⟨vo, ol⟩ : Ls Ins)]) ∨ (S 8 = true ∧ S 9 = true ∧ S 10 = true ∧ ∃ (b7009 : Nat), FrI 153 S [(1, .pointer (some ⟨b3, 0, none⟩)), (2, .pointer (some ⟨b4, 0, none⟩)), (3, .pointer (some ⟨b11, 0, none⟩)), (4, .int .i64 ((t : Nat) : Int)), (5, (nth code.l t).v), (6, v47), (12, vo), (13, .int .i64 ((i5 : Nat) : Int)), (127, .int .i64 ((i5 : Nat) : Int)), (128, (nth code.l t).v), (129, .int .i64 ((((nth code.l t).l).length : Nat) : Int)), (130, .bool (decide (i5 < ((nth code.l t).l).length)))] [(0, 133, (nth code.l t).v), (1, 134, .int .i64 ((i5 : Nat) : Int)), (2, 135, .pointer (some (padr ((nth code.l t).v) 4 i5 0))), (3, 136, .agg #[.int .i64 ((nth ((nth code.l t).l) i5).op), .int .i64 ((nth ((nth code.l t).l) i5).a), .int .i64 ((nth ((nth code.l t).l) i5).b), .int .i64 ((nth ((nth code.l t).l) i5).c)]), (4, 137, v47), (5, 138, .int .i64 ((i5 : Nat) : Int)), (6, 139, .pointer (some (padr v47 1 i5 0))), (7, 140, (nth M3 i5).v), (8, 141, .agg #[.int .i64 ((copyIns (rowF ((nth M3 i5).l)) (nth ((nth code.l t).l) i5)).op), .int .i64 ((copyIns (rowF ((nth M3 i5).l)) (nth ((nth code.l t).l) i5)).a), .int .i64 ((copyIns (rowF ((nth M3 i5).l)) (nth ((nth code.l t).l) i5)).b), .int .i64 ((copyIns (rowF ((nth M3 i5).l)) (nth ((nth code.l t).l) i5)).c)]), (9, 14, .pointer (some ⟨b7009, 0, none⟩))] a ∧ Sh (fun _ => False) W w [.blk b7009 73 [.int .i64 ((copyIns (rowF ((nth M3 i5).l)) (nth ((nth code.l t).l) i5)).op), .int .i64 ((copyIns (rowF ((nth M3 i5).l)) (nth ((nth code.l t).l) i5)).a), .int .i64 ((copyIns (rowF ((nth M3 i5).l)) (nth ((nth code.l t).l) i5)).b), .int .i64 ((copyIns (rowF ((nth M3 i5).l)) (nth ((nth code.l t).l) i5)).c)], .big (matX (.own 3) 24 v47 M3), .own 3 (⟨v17, words.l⟩ : Ls Int), .blk b11 28 [vq, v17, .int .i64 locks, .int .i64 regs], .blk b4 28 [(.slice none 0 0), (.slice none 0 0), .int .i64 0, .int .i64 0], .blk b3 28 [code.v, words.v, .int .i64 locks, .int .i64 regs], .at_ code, .at_ words, .deep 64 (⟨vq, qs⟩ : Ls (Ls Ins)), .own 73 (⟨vo, ol⟩ : Ls Ins)])) (by kernel_rfl) (by kernel_rfl) (Or.inl (⟨rfl, rfl, rfl, FrI.start h239.fr, h239.sh.drew⟩)) ?_ ?_
   ·intro S i o ho hSi hcl hdep a w hI
    clear h239
    rcases i with _ | _ | _ | _ | _ | _ | _ | _ | _ | _ | _ | i
    ·
     obtain rfl : _ = o := Option.some.inj ho
     rcases hI with ⟨hw8, hw9, hw10, hfr, hsh⟩ | ⟨hw8, hw9, hw10, hfr, hsh⟩ | ⟨hw8, hw9, hw10, b7009, hfr, hsh⟩ | ⟨hw8, hw9, hw10, b7009, hfr, hsh⟩ | ⟨hw8, hw9, hw10, b7009, hfr, hsh⟩
     ·
      exact sq hfr hfr.fr0 hsh (r_move rfl rfl) 0 rfl rfl rfl rfl rfl rfl fun a hg => Or.inl (⟨un rfl hw8, un rfl hw9, un rfl hw10, hg, hsh⟩)
     ·
      exact no_way (cA hcl 8 0 rfl hw8) hSi
     ·
      exact sq hfr hfr.fr0 hsh (r_move rfl rfl) 0 rfl rfl rfl rfl rfl rfl fun a hg => Or.inr (Or.inr (Or.inl (⟨un rfl hw8, un rfl hw9, un rfl hw10, b7009, hg, hsh⟩)))
     ·
      exact no_way (cA hcl 8 0 rfl hw8) hSi
     ·
      exact no_way (cA hcl 8 0 rfl hw8) hSi
    ·
     obtain rfl : _ = o := Option.some.inj ho
     rcases hI with ⟨hw8, hw9, hw10, hfr, hsh⟩ | ⟨hw8, hw9, hw10, hfr, hsh⟩ | ⟨hw8, hw9, hw10, b7009, hfr, hsh⟩ | ⟨hw8, hw9, hw10, b7009, hfr, hsh⟩ | ⟨hw8, hw9, hw10, b7009, hfr, hsh⟩
     ·
      exact sq hfr hfr.fr0 hsh (r_move rfl rfl) 1 rfl rfl rfl rfl rfl rfl fun a hg => Or.inl (⟨un rfl hw8, un rfl hw9, un rfl hw10, hg, hsh⟩)
     ·
      exact no_way (cA hcl 8 1 rfl hw8) hSi
     ·
      exact sq hfr hfr.fr0 hsh (r_move rfl rfl) 1 rfl rfl rfl rfl rfl rfl fun a hg => Or.inr (Or.inr (Or.inl (⟨un rfl hw8, un rfl hw9, un rfl hw10, b7009, hg, hsh⟩)))
     ·
      exact no_way (cA hcl 8 1 rfl hw8) hSi
     ·
      exact no_way (cA hcl 8 1 rfl hw8) hSi
    ·
     obtain rfl : _ = o := Option.some.inj ho
     have hd0 : S 0 = true := depAt hdep 0 rfl rfl
     have hd1 : S 1 = true := depAt hdep 1 rfl rfl
     rcases hI with ⟨hw8, hw9, hw10, hfr, hsh⟩ | ⟨hw8, hw9, hw10, hfr, hsh⟩ | ⟨hw8, hw9, hw10, b7009, hfr, hsh⟩ | ⟨hw8, hw9, hw10, b7009, hfr, hsh⟩ | ⟨hw8, hw9, hw10, b7009, hfr, hsh⟩
     ·
      exact sq hfr (Fr.cons (Fr.cons hfr.fr0 (hfr.at_ 0 0 133 _ rfl hd0)) (hfr.at_ 1 1 134 _ rfl hd1)) hsh (r_ixN (s := nth code.l t) (q := i5) sl_64 ti_73 rfl rfl rfl (fun w h => ((h.at 5 rfl).nth t (show t < code.l.length from (by omega)))) (show i5 < ((nth code.l t).l).length from (by omega))) 2 rfl rfl rfl rfl rfl rfl fun a hg => Or.inl (⟨un rfl hw8, un rfl hw9, un rfl hw10, hg, hsh⟩)
     ·
      exact no_way (cA hcl 8 2 rfl hw8) hSi
     ·
      exact sq hfr (Fr.cons (Fr.cons hfr.fr0 (hfr.at_ 0 0 133 _ rfl hd0)) (hfr.at_ 1 1 134 _ rfl hd1)) hsh (r_ixN (s := nth code.l t) (q := i5) sl_64 ti_73 rfl rfl rfl (fun w h => ((h.at 6 rfl).nth t (show t < code.l.length from (by omega)))) (show i5 < ((nth code.l t).l).length from (by omega))) 2 rfl rfl rfl rfl rfl rfl fun a hg => Or.inr (Or.inr (Or.inl (⟨un rfl hw8, un rfl hw9, un rfl hw10, b7009, hg, hsh⟩)))
     ·
      exact no_way (cA hcl 8 2 rfl hw8) hSi
     ·
      exact no_way (cA hcl 8 2 rfl hw8) hSi
    ·
     obtain rfl : _ = o := Option.some.inj ho
     have hd2 : S 2 = true := depAt hdep 0 rfl rfl
     rcases hI with ⟨hw8, hw9, hw10, hfr, hsh⟩ | ⟨hw8, hw9, hw10, hfr, hsh⟩ | ⟨hw8, hw9, hw10, b7009, hfr, hsh⟩ | ⟨hw8, hw9, hw10, b7009, hfr, hsh⟩ | ⟨hw8, hw9, hw10, b7009, hfr, hsh⟩
     ·
      exact sq hfr (Fr.cons hfr.fr0 (hfr.at_ 2 2 135 _ rfl hd2)) hsh (r_ldew (s := nth code.l t) (i := i5) (vs := [.int .i64 ((nth ((nth code.l t).l) i5).op), .int .i64 ((nth ((nth code.l t).l) i5).a), .int .i64 ((nth ((nth code.l t).l) i5).b), .int .i64 ((nth ((nth code.l t).l) i5).c)]) ti_73 rfl rfl rfl (fun w h => ((h.at 5 rfl).nth t (show t < code.l.length from (by omega)))) (show i5 < ((nth code.l t).l).length from (by omega)) (Nat.le_of_ble_eq_true rfl) rfl) 3 rfl rfl rfl rfl rfl rfl fun a hg => Or.inl (⟨un rfl hw8, un rfl hw9, un rfl hw10, hg, hsh⟩)
     ·
      exact no_way (cA hcl 8 3 rfl hw8) hSi
     ·
      exact sq hfr (Fr.cons hfr.fr0 (hfr.at_ 2 2 135 _ rfl hd2)) hsh (r_ldew (s := nth code.l t) (i := i5) (vs := [.int .i64 ((nth ((nth code.l t).l) i5).op), .int .i64 ((nth ((nth code.l t).l) i5).a), .int .i64 ((nth ((nth code.l t).l) i5).b), .int .i64 ((nth ((nth code.l t).l) i5).c)]) ti_73 rfl rfl rfl (fun w h => ((h.at 6 rfl).nth t (show t < code.l.length from (by omega)))) (show i5 < ((nth code.l t).l).length from (by omega)) (Nat.le_of_ble_eq_true rfl) rfl) 3 rfl rfl rfl rfl rfl rfl fun a hg => Or.inr (Or.inr (Or.inl (⟨un rfl hw8, un rfl hw9, un rfl hw10, b7009, hg, hsh⟩)))
     ·
      exact no_way (cA hcl 8 3 rfl hw8) hSi
     ·
      exact no_way (cA hcl 8 3 rfl hw8) hSi
    ·
     obtain rfl : _ = o := Option.some.inj ho
     rcases hI with ⟨hw8, hw9, hw10, hfr, hsh⟩ | ⟨hw8, hw9, hw10, hfr, hsh⟩ | ⟨hw8, hw9, hw10, b7009, hfr, hsh⟩ | ⟨hw8, hw9, hw10, b7009, hfr, hsh⟩ | ⟨hw8, hw9, hw10, b7009, hfr, hsh⟩
     ·
      exact sq hfr hfr.fr0 hsh (r_move rfl rfl) 4 rfl rfl rfl rfl rfl rfl fun a hg => Or.inl (⟨un rfl hw8, un rfl hw9, un rfl hw10, hg, hsh⟩)
     ·
      exact no_way (cA hcl 8 4 rfl hw8) hSi
     ·
      exact sq hfr hfr.fr0 hsh (r_move rfl rfl) 4 rfl rfl rfl rfl rfl rfl fun a hg => Or.inr (Or.inr (Or.inl (⟨un rfl hw8, un rfl hw9, un rfl hw10, b7009, hg, hsh⟩)))
     ·
      exact no_way (cA hcl 8 4 rfl hw8) hSi
     ·
      exact no_way (cA hcl 8 4 rfl hw8) hSi
    ·
     obtain rfl : _ = o := Option.some.inj ho
     rcases hI with ⟨hw8, hw9, hw10, hfr, hsh⟩ | ⟨hw8, hw9, hw10, hfr, hsh⟩ | ⟨hw8, hw9, hw10, b7009, hfr, hsh⟩ | ⟨hw8, hw9, hw10, b7009, hfr, hsh⟩ | ⟨hw8, hw9, hw10, b7009, hfr, hsh⟩
     ·
      exact sq hfr hfr.fr0 hsh (r_move rfl rfl) 5 rfl rfl rfl rfl rfl rfl fun a hg => Or.inl (⟨un rfl hw8, un rfl hw9, un rfl hw10, hg, hsh⟩)
     ·
      exact no_way (cA hcl 8 5 rfl hw8) hSi
     ·
      exact sq hfr hfr.fr0 hsh (r_move rfl rfl) 5 rfl rfl rfl rfl rfl rfl fun a hg => Or.inr (Or.inr (Or.inl (⟨un rfl hw8, un rfl hw9, un rfl hw10, b7009, hg, hsh⟩)))
     ·
      exact no_way (cA hcl 8 5 rfl hw8) hSi
     ·
      exact no_way (cA hcl 8 5 rfl hw8) hSi
    ·
     obtain rfl : _ = o := Option.some.inj ho
     have hd4 : S 4 = true := depAt hdep 0 rfl rfl
     have hd5 : S 5 = true := depAt hdep 1 rfl rfl
     rcases hI with ⟨hw8, hw9, hw10, hfr, hsh⟩ | ⟨hw8, hw9, hw10, hfr, hsh⟩ | ⟨hw8, hw9, hw10, b7009, hfr, hsh⟩ | ⟨hw8, hw9, hw10, b7009, hfr, hsh⟩ | ⟨hw8, hw9, hw10, b7009, hfr, hsh⟩
     ·
      exact sq hfr (Fr.cons (Fr.cons hfr.fr0 (hfr.at_ 4 4 137 _ rfl hd4)) (hfr.at_ 5 5 138 _ rfl hd5)) hsh (r_ixN (s := (⟨v47, rvs M3⟩ : Ls RV)) (q := i5) sl_46 ti_24 rfl rfl rfl (fun w h => (h.matAt 0 rfl)) (by rw [rvs_len]; exact (show i5 < M3.length from (by omega)))) 6 rfl rfl rfl rfl rfl rfl fun a hg => Or.inl (⟨un rfl hw8, un rfl hw9, un rfl hw10, hg, hsh⟩)
     ·
      exact no_way (cA hcl 8 6 rfl hw8) hSi
     ·
      exact sq hfr (Fr.cons (Fr.cons hfr.fr0 (hfr.at_ 4 4 137 _ rfl hd4)) (hfr.at_ 5 5 138 _ rfl hd5)) hsh (r_ixN (s := (⟨v47, rvs M3⟩ : Ls RV)) (q := i5) sl_46 ti_24 rfl rfl rfl (fun w h => (h.matAt 1 rfl)) (by rw [rvs_len]; exact (show i5 < M3.length from (by omega)))) 6 rfl rfl rfl rfl rfl rfl fun a hg => Or.inr (Or.inr (Or.inl (⟨un rfl hw8, un rfl hw9, un rfl hw10, b7009, hg, hsh⟩)))
     ·
      exact no_way (cA hcl 8 6 rfl hw8) hSi
     ·
      exact no_way (cA hcl 8 6 rfl hw8) hSi
    ·
     obtain rfl : _ = o := Option.some.inj ho
     have hd6 : S 6 = true := depAt hdep 0 rfl rfl
     rcases hI with ⟨hw8, hw9, hw10, hfr, hsh⟩ | ⟨hw8, hw9, hw10, hfr, hsh⟩ | ⟨hw8, hw9, hw10, b7009, hfr, hsh⟩ | ⟨hw8, hw9, hw10, b7009, hfr, hsh⟩ | ⟨hw8, hw9, hw10, b7009, hfr, hsh⟩
     ·
      exact sq hfr (Fr.cons hfr.fr0 (hfr.at_ 6 6 139 _ rfl hd6)) hsh (Rn.same (r_lde (s := (⟨v47, rvs M3⟩ : Ls RV)) (i := i5) (v := (nth (rvs M3) i5).v) ti_24 rfl rfl rfl (fun w h => h.matAt 0 rfl) (by rw [rvs_len]; exact (show i5 < M3.length from (by omega))) (Nat.le_of_ble_eq_true rfl) rfl) (nth_rvs M3 i5)) 7 rfl rfl rfl rfl rfl rfl fun a hg => Or.inl (⟨un rfl hw8, un rfl hw9, un rfl hw10, hg, hsh⟩)
     ·
      exact no_way (cA hcl 8 7 rfl hw8) hSi
     ·
      exact sq hfr (Fr.cons hfr.fr0 (hfr.at_ 6 6 139 _ rfl hd6)) hsh (Rn.same (r_lde (s := (⟨v47, rvs M3⟩ : Ls RV)) (i := i5) (v := (nth (rvs M3) i5).v) ti_24 rfl rfl rfl (fun w h => h.matAt 1 rfl) (by rw [rvs_len]; exact (show i5 < M3.length from (by omega))) (Nat.le_of_ble_eq_true rfl) rfl) (nth_rvs M3 i5)) 7 rfl rfl rfl rfl rfl rfl fun a hg => Or.inr (Or.inr (Or.inl (⟨un rfl hw8, un rfl hw9, un rfl hw10, b7009, hg, hsh⟩)))
     ·
      exact no_way (cA hcl 8 7 rfl hw8) hSi
     ·
      exact no_way (cA hcl 8 7 rfl hw8) hSi
    ·
     obtain rfl : _ = o := Option.some.inj ho
     have hd3 : S 3 = true := depAt hdep 0 rfl rfl
     have hd7 : S 7 = true := depAt hdep 1 rfl rfl
     rcases hI with ⟨hw8, hw9, hw10, hfr, hsh⟩ | ⟨hw8, hw9, hw10, hfr, hsh⟩ | ⟨hw8, hw9, hw10, b7009, hfr, hsh⟩ | ⟨hw8, hw9, hw10, b7009, hfr, hsh⟩ | ⟨hw8, hw9, hw10, b7009, hfr, hsh⟩
     ·
      have hs := St.mk (Fr.cons (Fr.cons hfr.fr0 (hfr.at_ 3 3 136 _ rfl hd3)) (hfr.at_ 7 7 140 _ rfl hd7)) hsh
      refine step_ex (x_call hs bd_89 rfl rfl rfl rfl rfl (withR_c (nth ((nth code.l t).l) i5) (nth M3 i5) _ (hs.sh.matRow 0 rfl i5 (show i5 < M3.length from (by omega))) (hct.op _ (by omega)) (cp_inR hok htl (by omega) (hR5 i5 (by omega)).1))) (wanted_none rfl _) ?_
      rintro a257 w257 ⟨_, ⟨rfl, hs257⟩, hf257⟩ ⟨v0, ht257⟩
      have h257 : St 153 (fun _ => False) W a257 w257 _ _ := ⟨hf257, hs.sh.call0 hs257⟩
      clear hf257 hs257
      have hm257 : FrI 153 S [(1, .pointer (some ⟨b3, 0, none⟩)), (2, .pointer (some ⟨b4, 0, none⟩)), (3, .pointer (some ⟨b11, 0, none⟩)), (4, .int .i64 ((t : Nat) : Int)), (5, (nth code.l t).v), (6, v47), (12, vo), (13, .int .i64 ((i5 : Nat) : Int)), (127, .int .i64 ((i5 : Nat) : Int)), (128, (nth code.l t).v), (129, .int .i64 ((((nth code.l t).l).length : Nat) : Int)), (130, .bool (decide (i5 < ((nth code.l t).l).length)))] [(0, 133, (nth code.l t).v), (1, 134, .int .i64 ((i5 : Nat) : Int)), (2, 135, .pointer (some (padr ((nth code.l t).v) 4 i5 0))), (3, 136, .agg #[.int .i64 ((nth ((nth code.l t).l) i5).op), .int .i64 ((nth ((nth code.l t).l) i5).a), .int .i64 ((nth ((nth code.l t).l) i5).b), .int .i64 ((nth ((nth code.l t).l) i5).c)]), (4, 137, v47), (5, 138, .int .i64 ((i5 : Nat) : Int)), (6, 139, .pointer (some (padr v47 1 i5 0))), (7, 140, (nth M3 i5).v), (8, 141, .agg #[.int .i64 ((copyIns (rowF ((nth M3 i5).l)) (nth ((nth code.l t).l) i5)).op), .int .i64 ((copyIns (rowF ((nth M3 i5).l)) (nth ((nth code.l t).l) i5)).a), .int .i64 ((copyIns (rowF ((nth M3 i5).l)) (nth ((nth code.l t).l) i5)).b), .int .i64 ((copyIns (rowF ((nth M3 i5).l)) (nth ((nth code.l t).l) i5)).c)])] a := hfr.more (by
       intro k j d v hk hS
       rcases k with _ | _ | _ | _ | _ | _ | _ | _ | _ | k
       ·obtain ⟨rfl, rfl, rfl⟩ : _ = j ∧ _ = d ∧ _ = v := by simpa using hk
        exact hfr.at_ 0 _ _ _ rfl hS
       ·obtain ⟨rfl, rfl, rfl⟩ : _ = j ∧ _ = d ∧ _ = v := by simpa using hk
        exact hfr.at_ 1 _ _ _ rfl hS
       ·obtain ⟨rfl, rfl, rfl⟩ : _ = j ∧ _ = d ∧ _ = v := by simpa using hk
        exact hfr.at_ 2 _ _ _ rfl hS
       ·obtain ⟨rfl, rfl, rfl⟩ : _ = j ∧ _ = d ∧ _ = v := by simpa using hk
        exact hfr.at_ 3 _ _ _ rfl hS
       ·obtain ⟨rfl, rfl, rfl⟩ : _ = j ∧ _ = d ∧ _ = v := by simpa using hk
        exact hfr.at_ 4 _ _ _ rfl hS
       ·obtain ⟨rfl, rfl, rfl⟩ : _ = j ∧ _ = d ∧ _ = v := by simpa using hk
        exact hfr.at_ 5 _ _ _ rfl hS
       ·obtain ⟨rfl, rfl, rfl⟩ : _ = j ∧ _ = d ∧ _ = v := by simpa using hk
        exact hfr.at_ 6 _ _ _ rfl hS
       ·obtain ⟨rfl, rfl, rfl⟩ : _ = j ∧ _ = d ∧ _ = v := by simpa using hk
        exact hfr.at_ 7 _ _ _ rfl hS
       ·obtain ⟨rfl, rfl, rfl⟩ : _ = j ∧ _ = d ∧ _ = v := by simpa using hk
        exact no_way hS hSi
       · simp at hk)
      exact Or.inr (Or.inl (⟨upd_self _ _, un rfl hw9, un rfl hw10, hm257.step ht257 h257.fr.defers (h257.fr.at_ 141 _ rfl) 8 rfl rfl rfl rfl, (h257.sh.sel (L' := [.big (matX (.own 3) 24 v47 M3), .own 3 (⟨v17, words.l⟩ : Ls Int), .blk b11 28 [vq, v17, .int .i64 locks, .int .i64 regs], .blk b4 28 [(.slice none 0 0), (.slice none 0 0), .int .i64 0, .int .i64 0], .blk b3 28 [code.v, words.v, .int .i64 locks, .int .i64 regs], .at_ code, .at_ words, .deep 64 (⟨vq, qs⟩ : Ls (Ls Ins)), .own 73 (⟨vo, ol⟩ : Ls Ins)]) [0, 1, 2, 3, 4, 5, 6, 7, 8] (by decide) ⟨rfl, rfl, rfl, rfl, rfl, rfl, rfl, rfl, rfl, trivial⟩)⟩))
     ·
      exact no_way hw8 hSi
     ·
      have hs := St.mk (Fr.cons (Fr.cons hfr.fr0 (hfr.at_ 3 3 136 _ rfl hd3)) (hfr.at_ 7 7 140 _ rfl hd7)) hsh
      refine step_ex (x_call hs bd_89 rfl rfl rfl rfl rfl (withR_c (nth ((nth code.l t).l) i5) (nth M3 i5) _ (hs.sh.matRow 1 rfl i5 (show i5 < M3.length from (by omega))) (hct.op _ (by omega)) (cp_inR hok htl (by omega) (hR5 i5 (by omega)).1))) (wanted_none rfl _) ?_
      rintro a258 w258 ⟨_, ⟨rfl, hs258⟩, hf258⟩ ⟨v0, ht258⟩
      have h258 : St 153 (fun _ => False) W a258 w258 _ _ := ⟨hf258, hs.sh.call0 hs258⟩
      clear hf258 hs258
      have hm258 : FrI 153 S [(1, .pointer (some ⟨b3, 0, none⟩)), (2, .pointer (some ⟨b4, 0, none⟩)), (3, .pointer (some ⟨b11, 0, none⟩)), (4, .int .i64 ((t : Nat) : Int)), (5, (nth code.l t).v), (6, v47), (12, vo), (13, .int .i64 ((i5 : Nat) : Int)), (127, .int .i64 ((i5 : Nat) : Int)), (128, (nth code.l t).v), (129, .int .i64 ((((nth code.l t).l).length : Nat) : Int)), (130, .bool (decide (i5 < ((nth code.l t).l).length)))] [(0, 133, (nth code.l t).v), (1, 134, .int .i64 ((i5 : Nat) : Int)), (2, 135, .pointer (some (padr ((nth code.l t).v) 4 i5 0))), (3, 136, .agg #[.int .i64 ((nth ((nth code.l t).l) i5).op), .int .i64 ((nth ((nth code.l t).l) i5).a), .int .i64 ((nth ((nth code.l t).l) i5).b), .int .i64 ((nth ((nth code.l t).l) i5).c)]), (4, 137, v47), (5, 138, .int .i64 ((i5 : Nat) : Int)), (6, 139, .pointer (some (padr v47 1 i5 0))), (7, 140, (nth M3 i5).v), (8, 141, .agg #[.int .i64 ((copyIns (rowF ((nth M3 i5).l)) (nth ((nth code.l t).l) i5)).op), .int .i64 ((copyIns (rowF ((nth M3 i5).l)) (nth ((nth code.l t).l) i5)).a), .int .i64 ((copyIns (rowF ((nth M3 i5).l)) (nth ((nth code.l t).l) i5)).b), .int .i64 ((copyIns (rowF ((nth M3 i5).l)) (nth ((nth code.l t).l) i5)).c)]), (9, 14, .pointer (some ⟨b7009, 0, none⟩))] a := hfr.more (by
       intro k j d v hk hS
       rcases k with _ | _ | _ | _ | _ | _ | _ | _ | _ | _ | k
       ·obtain ⟨rfl, rfl, rfl⟩ : _ = j ∧ _ = d ∧ _ = v := by simpa using hk
        exact hfr.at_ 0 _ _ _ rfl hS
       ·obtain ⟨rfl, rfl, rfl⟩ : _ = j ∧ _ = d ∧ _ = v := by simpa using hk
        exact hfr.at_ 1 _ _ _ rfl hS
       ·obtain ⟨rfl, rfl, rfl⟩ : _ = j ∧ _ = d ∧ _ = v := by simpa using hk
        exact hfr.at_ 2 _ _ _ rfl hS
       ·obtain ⟨rfl, rfl, rfl⟩ : _ = j ∧ _ = d ∧ _ = v := by simpa using hk
        exact hfr.at_ 3 _ _ _ rfl hS
       ·obtain ⟨rfl, rfl, rfl⟩ : _ = j ∧ _ = d ∧ _ = v := by simpa using hk
        exact hfr.at_ 4 _ _ _ rfl hS
       ·obtain ⟨rfl, rfl, rfl⟩ : _ = j ∧ _ = d ∧ _ = v := by simpa using hk
        exact hfr.at_ 5 _ _ _ rfl hS
       ·obtain ⟨rfl, rfl, rfl⟩ : _ = j ∧ _ = d ∧ _ = v := by simpa using hk
        exact hfr.at_ 6 _ _ _ rfl hS
       ·obtain ⟨rfl, rfl, rfl⟩ : _ = j ∧ _ = d ∧ _ = v := by simpa using hk
        exact hfr.at_ 7 _ _ _ rfl hS
       ·obtain ⟨rfl, rfl, rfl⟩ : _ = j ∧ _ = d ∧ _ = v := by simpa using hk
        exact no_way hS hSi
       ·obtain ⟨rfl, rfl, rfl⟩ : _ = j ∧ _ = d ∧ _ = v := by simpa using hk
        exact hfr.at_ 8 _ _ _ rfl hS
       · simp at hk)
      exact Or.inr (Or.inr (Or.inr (Or.inl (⟨upd_self _ _, un rfl hw9, un rfl hw10, b7009, hm258.step ht258 h258.fr.defers (h258.fr.at_ 141 _ rfl) 8 rfl rfl rfl rfl, (h258.sh.sel (L' := [.blk b7009 73 [.int .i64 0, .int .i64 0, .int .i64 0, .int .i64 0], .big (matX (.own 3) 24 v47 M3), .own 3 (⟨v17, words.l⟩ : Ls Int), .blk b11 28 [vq, v17, .int .i64 locks, .int .i64 regs], .blk b4 28 [(.slice none 0 0), (.slice none 0 0), .int .i64 0, .int .i64 0], .blk b3 28 [code.v, words.v, .int .i64 locks, .int .i64 regs], .at_ code, .at_ words, .deep 64 (⟨vq, qs⟩ : Ls (Ls Ins)), .own 73 (⟨vo, ol⟩ : Ls Ins)]) [0, 1, 2, 3, 4, 5, 6, 7, 8, 9] (by decide) ⟨rfl, rfl, rfl, rfl, rfl, rfl, rfl, rfl, rfl, rfl, trivial⟩)⟩))))
     ·
      exact no_way hw8 hSi
     ·
      exact no_way hw8 hSi
    ·
     obtain rfl : _ = o := Option.some.inj ho
     rcases hI with ⟨hw8, hw9, hw10, hfr, hsh⟩ | ⟨hw8, hw9, hw10, hfr, hsh⟩ | ⟨hw8, hw9, hw10, b7009, hfr, hsh⟩ | ⟨hw8, hw9, hw10, b7009, hfr, hsh⟩ | ⟨hw8, hw9, hw10, b7009, hfr, hsh⟩
     ·
      have hs := St.mk hfr.fr0 hsh
      refine step_ex (x_alloc hs ti_73 rfl rfl rfl) (wanted_none rfl _) ?_
      rintro a259 w259 ⟨b259, h259⟩ ⟨v0, ht259⟩
      have hm259 : FrI 153 S [(1, .pointer (some ⟨b3, 0, none⟩)), (2, .pointer (some ⟨b4, 0, none⟩)), (3, .pointer (some ⟨b11, 0, none⟩)), (4, .int .i64 ((t : Nat) : Int)), (5, (nth code.l t).v), (6, v47), (12, vo), (13, .int .i64 ((i5 : Nat) : Int)), (127, .int .i64 ((i5 : Nat) : Int)), (128, (nth code.l t).v), (129, .int .i64 ((((nth code.l t).l).length : Nat) : Int)), (130, .bool (decide (i5 < ((nth code.l t).l).length)))] [(0, 133, (nth code.l t).v), (1, 134, .int .i64 ((i5 : Nat) : Int)), (2, 135, .pointer (some (padr ((nth code.l t).v) 4 i5 0))), (3, 136, .agg #[.int .i64 ((nth ((nth code.l t).l) i5).op), .int .i64 ((nth ((nth code.l t).l) i5).a), .int .i64 ((nth ((nth code.l t).l) i5).b), .int .i64 ((nth ((nth code.l t).l) i5).c)]), (4, 137, v47), (5, 138, .int .i64 ((i5 : Nat) : Int)), (6, 139, .pointer (some (padr v47 1 i5 0))), (7, 140, (nth M3 i5).v), (9, 14, .pointer (some ⟨b259, 0, none⟩))] a := hfr.more (by
       intro k j d v hk hS
       rcases k with _ | _ | _ | _ | _ | _ | _ | _ | _ | k
       ·obtain ⟨rfl, rfl, rfl⟩ : _ = j ∧ _ = d ∧ _ = v := by simpa using hk
        exact hfr.at_ 0 _ _ _ rfl hS
       ·obtain ⟨rfl, rfl, rfl⟩ : _ = j ∧ _ = d ∧ _ = v := by simpa using hk
        exact hfr.at_ 1 _ _ _ rfl hS
       ·obtain ⟨rfl, rfl, rfl⟩ : _ = j ∧ _ = d ∧ _ = v := by simpa using hk
        exact hfr.at_ 2 _ _ _ rfl hS
       ·obtain ⟨rfl, rfl, rfl⟩ : _ = j ∧ _ = d ∧ _ = v := by simpa using hk
        exact hfr.at_ 3 _ _ _ rfl hS
       ·obtain ⟨rfl, rfl, rfl⟩ : _ = j ∧ _ = d ∧ _ = v := by simpa using hk
        exact hfr.at_ 4 _ _ _ rfl hS
       ·obtain ⟨rfl, rfl, rfl⟩ : _ = j ∧ _ = d ∧ _ = v := by simpa using hk
        exact hfr.at_ 5 _ _ _ rfl hS
       ·obtain ⟨rfl, rfl, rfl⟩ : _ = j ∧ _ = d ∧ _ = v := by simpa using hk
        exact hfr.at_ 6 _ _ _ rfl hS
       ·obtain ⟨rfl, rfl, rfl⟩ : _ = j ∧ _ = d ∧ _ = v := by simpa using hk
        exact hfr.at_ 7 _ _ _ rfl hS
       ·obtain ⟨rfl, rfl, rfl⟩ : _ = j ∧ _ = d ∧ _ = v := by simpa using hk
        exact no_way hS hSi
       · simp at hk)
      exact Or.inr (Or.inr (Or.inl (⟨un rfl hw8, upd_self _ _, un rfl hw10, b259, hm259.step ht259 h259.fr.defers (h259.fr.at_ 14 _ rfl) 8 rfl rfl rfl rfl, (h259.sh.sel (L' := [.blk b259 73 [.int .i64 0, .int .i64 0, .int .i64 0, .int .i64 0], .big (matX (.own 3) 24 v47 M3), .own 3 (⟨v17, words.l⟩ : Ls Int), .blk b11 28 [vq, v17, .int .i64 locks, .int .i64 regs], .blk b4 28 [(.slice none 0 0), (.slice none 0 0), .int .i64 0, .int .i64 0], .blk b3 28 [code.v, words.v, .int .i64 locks, .int .i64 regs], .at_ code, .at_ words, .deep 64 (⟨vq, qs⟩ : Ls (Ls Ins)), .own 73 (⟨vo, ol⟩ : Ls Ins)]) [0, 1, 2, 3, 4, 5, 6, 7, 8, 9] (by decide) ⟨rfl, rfl, rfl, rfl, rfl, rfl, rfl, rfl, rfl, rfl, trivial⟩)⟩)))
     ·
      have hs := St.mk hfr.fr0 hsh
      refine step_ex (x_alloc hs ti_73 rfl rfl rfl) (wanted_none rfl _) ?_
      rintro a260 w260 ⟨b260, h260⟩ ⟨v0, ht260⟩
      have hm260 : FrI 153 S [(1, .pointer (some ⟨b3, 0, none⟩)), (2, .pointer (some ⟨b4, 0, none⟩)), (3, .pointer (some ⟨b11, 0, none⟩)), (4, .int .i64 ((t : Nat) : Int)), (5, (nth code.l t).v), (6, v47), (12, vo), (13, .int .i64 ((i5 : Nat) : Int)), (127, .int .i64 ((i5 : Nat) : Int)), (128, (nth code.l t).v), (129, .int .i64 ((((nth code.l t).l).length : Nat) : Int)), (130, .bool (decide (i5 < ((nth code.l t).l).length)))] [(0, 133, (nth code.l t).v), (1, 134, .int .i64 ((i5 : Nat) : Int)), (2, 135, .pointer (some (padr ((nth code.l t).v) 4 i5 0))), (3, 136, .agg #[.int .i64 ((nth ((nth code.l t).l) i5).op), .int .i64 ((nth ((nth code.l t).l) i5).a), .int .i64 ((nth ((nth code.l t).l) i5).b), .int .i64 ((nth ((nth code.l t).l) i5).c)]), (4, 137, v47), (5, 138, .int .i64 ((i5 : Nat) : Int)), (6, 139, .pointer (some (padr v47 1 i5 0))), (7, 140, (nth M3 i5).v), (8, 141, .agg #[.int .i64 ((copyIns (rowF ((nth M3 i5).l)) (nth ((nth code.l t).l) i5)).op), .int .i64 ((copyIns (rowF ((nth M3 i5).l)) (nth ((nth code.l t).l) i5)).a), .int .i64 ((copyIns (rowF ((nth M3 i5).l)) (nth ((nth code.l t).l) i5)).b), .int .i64 ((copyIns (rowF ((nth M3 i5).l)) (nth ((nth code.l t).l) i5)).c)]), (9, 14, .pointer (some ⟨b260, 0, none⟩))] a := hfr.more (by
       intro k j d v hk hS
       rcases k with _ | _ | _ | _ | _ | _ | _ | _ | _ | _ | k
       ·obtain ⟨rfl, rfl, rfl⟩ : _ = j ∧ _ = d ∧ _ = v := by simpa using hk
        exact hfr.at_ 0 _ _ _ rfl hS
       ·obtain ⟨rfl, rfl, rfl⟩ : _ = j ∧ _ = d ∧ _ = v := by simpa using hk
        exact hfr.at_ 1 _ _ _ rfl hS
       ·obtain ⟨rfl, rfl, rfl⟩ : _ = j ∧ _ = d ∧ _ = v := by simpa using hk
        exact hfr.at_ 2 _ _ _ rfl hS
       ·obtain ⟨rfl, rfl, rfl⟩ : _ = j ∧ _ = d ∧ _ = v := by simpa using hk
        exact hfr.at_ 3 _ _ _ rfl hS
       ·obtain ⟨rfl, rfl, rfl⟩ : _ = j ∧ _ = d ∧ _ = v := by simpa using hk
        exact hfr.at_ 4 _ _ _ rfl hS
       ·obtain ⟨rfl, rfl, rfl⟩ : _ = j ∧ _ = d ∧ _ = v := by simpa using hk
        exact hfr.at_ 5 _ _ _ rfl hS
       ·obtain ⟨rfl, rfl, rfl⟩ : _ = j ∧ _ = d ∧ _ = v := by simpa using hk
        exact hfr.at_ 6 _ _ _ rfl hS
       ·obtain ⟨rfl, rfl, rfl⟩ : _ = j ∧ _ = d ∧ _ = v := by simpa using hk
        exact hfr.at_ 7 _ _ _ rfl hS
       ·obtain ⟨rfl, rfl, rfl⟩ : _ = j ∧ _ = d ∧ _ = v := by simpa using hk
        exact hfr.at_ 8 _ _ _ rfl hS
       ·obtain ⟨rfl, rfl, rfl⟩ : _ = j ∧ _ = d ∧ _ = v := by simpa using hk
        exact no_way hS hSi
       · simp at hk)
      exact Or.inr (Or.inr (Or.inr (Or.inl (⟨un rfl hw8, upd_self _ _, un rfl hw10, b260, hm260.step ht260 h260.fr.defers (h260.fr.at_ 14 _ rfl) 9 rfl rfl rfl rfl, (h260.sh.sel (L' := [.blk b260 73 [.int .i64 0, .int .i64 0, .int .i64 0, .int .i64 0], .big (matX (.own 3) 24 v47 M3), .own 3 (⟨v17, words.l⟩ : Ls Int), .blk b11 28 [vq, v17, .int .i64 locks, .int .i64 regs], .blk b4 28 [(.slice none 0 0), (.slice none 0 0), .int .i64 0, .int .i64 0], .blk b3 28 [code.v, words.v, .int .i64 locks, .int .i64 regs], .at_ code, .at_ words, .deep 64 (⟨vq, qs⟩ : Ls (Ls Ins)), .own 73 (⟨vo, ol⟩ : Ls Ins)]) [0, 1, 2, 3, 4, 5, 6, 7, 8, 9] (by decide) ⟨rfl, rfl, rfl, rfl, rfl, rfl, rfl, rfl, rfl, rfl, trivial⟩)⟩))))
     ·
      exact no_way hw9 hSi
     ·
      exact no_way hw9 hSi
     ·
      exact no_way hw9 hSi
    ·
     obtain rfl : _ = o := Option.some.inj ho
     have hd9 : S 9 = true := depAt hdep 0 rfl rfl
     have hd8 : S 8 = true := depAt hdep 1 rfl rfl
     rcases hI with ⟨hw8, hw9, hw10, hfr, hsh⟩ | ⟨hw8, hw9, hw10, hfr, hsh⟩ | ⟨hw8, hw9, hw10, b7009, hfr, hsh⟩ | ⟨hw8, hw9, hw10, b7009, hfr, hsh⟩ | ⟨hw8, hw9, hw10, b7009, hfr, hsh⟩
     ·
      exact no_way hd8 hw8
     ·
      exact no_way hd9 hw9
     ·
      exact no_way hd8 hw8
     ·
      have hs := St.mk (Fr.cons (Fr.cons hfr.fr0 (hfr.at_ 8 8 141 _ rfl hd8)) (hfr.at_ 9 9 14 _ rfl hd9)) hsh
      refine step_ex (x_stb (i := 0) (vs := [.int .i64 ((copyIns (rowF ((nth M3 i5).l)) (nth ((nth code.l t).l) i5)).op), .int .i64 ((copyIns (rowF ((nth M3 i5).l)) (nth ((nth code.l t).l) i5)).a), .int .i64 ((copyIns (rowF ((nth M3 i5).l)) (nth ((nth code.l t).l) i5)).b), .int .i64 ((copyIns (rowF ((nth M3 i5).l)) (nth ((nth code.l t).l) i5)).c)]) (cs' := [.int .i64 ((copyIns (rowF ((nth M3 i5).l)) (nth ((nth code.l t).l) i5)).op), .int .i64 ((copyIns (rowF ((nth M3 i5).l)) (nth ((nth code.l t).l) i5)).a), .int .i64 ((copyIns (rowF ((nth M3 i5).l)) (nth ((nth code.l t).l) i5)).b), .int .i64 ((copyIns (rowF ((nth M3 i5).l)) (nth ((nth code.l t).l) i5)).c)]) hs ti_73 rfl rfl rfl rfl rfl rfl rfl (allOne_cons rfl (allOne_cons rfl (allOne_cons rfl (allOne_cons rfl allOne_nil)))) (Nat.le_of_ble_eq_true rfl) rfl) (wanted_none rfl _) ?_
      rintro a261 w261 h261 ⟨v0, ht261⟩
      have hm261 : FrI 153 S [(1, .pointer (some ⟨b3, 0, none⟩)), (2, .pointer (some ⟨b4, 0, none⟩)), (3, .pointer (some ⟨b11, 0, none⟩)), (4, .int .i64 ((t : Nat) : Int)), (5, (nth code.l t).v), (6, v47), (12, vo), (13, .int .i64 ((i5 : Nat) : Int)), (127, .int .i64 ((i5 : Nat) : Int)), (128, (nth code.l t).v), (129, .int .i64 ((((nth code.l t).l).length : Nat) : Int)), (130, .bool (decide (i5 < ((nth code.l t).l).length)))] [(0, 133, (nth code.l t).v), (1, 134, .int .i64 ((i5 : Nat) : Int)), (2, 135, .pointer (some (padr ((nth code.l t).v) 4 i5 0))), (3, 136, .agg #[.int .i64 ((nth ((nth code.l t).l) i5).op), .int .i64 ((nth ((nth code.l t).l) i5).a), .int .i64 ((nth ((nth code.l t).l) i5).b), .int .i64 ((nth ((nth code.l t).l) i5).c)]), (4, 137, v47), (5, 138, .int .i64 ((i5 : Nat) : Int)), (6, 139, .pointer (some (padr v47 1 i5 0))), (7, 140, (nth M3 i5).v), (8, 141, .agg #[.int .i64 ((copyIns (rowF ((nth M3 i5).l)) (nth ((nth code.l t).l) i5)).op), .int .i64 ((copyIns (rowF ((nth M3 i5).l)) (nth ((nth code.l t).l) i5)).a), .int .i64 ((copyIns (rowF ((nth M3 i5).l)) (nth ((nth code.l t).l) i5)).b), .int .i64 ((copyIns (rowF ((nth M3 i5).l)) (nth ((nth code.l t).l) i5)).c)]), (9, 14, .pointer (some ⟨b7009, 0, none⟩))] a := hfr.more (by
       intro k j d v hk hS
       rcases k with _ | _ | _ | _ | _ | _ | _ | _ | _ | _ | k
       ·obtain ⟨rfl, rfl, rfl⟩ : _ = j ∧ _ = d ∧ _ = v := by simpa using hk
        exact hfr.at_ 0 _ _ _ rfl hS
       ·obtain ⟨rfl, rfl, rfl⟩ : _ = j ∧ _ = d ∧ _ = v := by simpa using hk
        exact hfr.at_ 1 _ _ _ rfl hS
       ·obtain ⟨rfl, rfl, rfl⟩ : _ = j ∧ _ = d ∧ _ = v := by simpa using hk
        exact hfr.at_ 2 _ _ _ rfl hS
       ·obtain ⟨rfl, rfl, rfl⟩ : _ = j ∧ _ = d ∧ _ = v := by simpa using hk
        exact hfr.at_ 3 _ _ _ rfl hS
       ·obtain ⟨rfl, rfl, rfl⟩ : _ = j ∧ _ = d ∧ _ = v := by simpa using hk
        exact hfr.at_ 4 _ _ _ rfl hS
       ·obtain ⟨rfl, rfl, rfl⟩ : _ = j ∧ _ = d ∧ _ = v := by simpa using hk
        exact hfr.at_ 5 _ _ _ rfl hS
       ·obtain ⟨rfl, rfl, rfl⟩ : _ = j ∧ _ = d ∧ _ = v := by simpa using hk
        exact hfr.at_ 6 _ _ _ rfl hS
       ·obtain ⟨rfl, rfl, rfl⟩ : _ = j ∧ _ = d ∧ _ = v := by simpa using hk
        exact hfr.at_ 7 _ _ _ rfl hS
       ·obtain ⟨rfl, rfl, rfl⟩ : _ = j ∧ _ = d ∧ _ = v := by simpa using hk
        exact hfr.at_ 8 _ _ _ rfl hS
       ·obtain ⟨rfl, rfl, rfl⟩ : _ = j ∧ _ = d ∧ _ = v := by simpa using hk
        exact hfr.at_ 9 _ _ _ rfl hS
       · simp at hk)
      exact Or.inr (Or.inr (Or.inr (Or.inr (⟨un rfl hw8, un rfl hw9, upd_self _ _, b7009, hm261.none ht261 h261.fr.defers rfl, (h261.sh.sel (L' := [.blk b7009 73 [.int .i64 ((copyIns (rowF ((nth M3 i5).l)) (nth ((nth code.l t).l) i5)).op), .int .i64 ((copyIns (rowF ((nth M3 i5).l)) (nth ((nth code.l t).l) i5)).a), .int .i64 ((copyIns (rowF ((nth M3 i5).l)) (nth ((nth code.l t).l) i5)).b), .int .i64 ((copyIns (rowF ((nth M3 i5).l)) (nth ((nth code.l t).l) i5)).c)], .big (matX (.own 3) 24 v47 M3), .own 3 (⟨v17, words.l⟩ : Ls Int), .blk b11 28 [vq, v17, .int .i64 locks, .int .i64 regs], .blk b4 28 [(.slice none 0 0), (.slice none 0 0), .int .i64 0, .int .i64 0], .blk b3 28 [code.v, words.v, .int .i64 locks, .int .i64 regs], .at_ code, .at_ words, .deep 64 (⟨vq, qs⟩ : Ls (Ls Ins)), .own 73 (⟨vo, ol⟩ : Ls Ins)]) [0, 1, 2, 3, 4, 5, 6, 7, 8, 9] (by decide) ⟨rfl, rfl, rfl, rfl, rfl, rfl, rfl, rfl, rfl, rfl, trivial⟩)⟩))))
     ·
      exact no_way hw10 hSi
    · simp at ho
   intro S hall a w hI
   clear h239
   rcases hI with ⟨hw8, hw9, hw10, hfr, hsh⟩ | ⟨hw8, hw9, hw10, hfr, hsh⟩ | ⟨hw8, hw9, hw10, b7009, hfr, hsh⟩ | ⟨hw8, hw9, hw10, b7009, hfr, hsh⟩ | ⟨hw8, hw9, hw10, b7009, hfr, hsh⟩
   · exact no_way (hall 8 (by decide)) hw8
   · exact no_way (hall 9 (by decide)) hw9
   · exact no_way (hall 8 (by decide)) hw8
   · exact no_way (hall 10 (by decide)) hw10
   have h262 : St 153 (fun _ => False) W a w _ [.blk b7009 73 [.int .i64 ((copyIns (rowF ((nth M3 i5).l)) (nth ((nth code.l t).l) i5)).op), .int .i64 ((copyIns (rowF ((nth M3 i5).l)) (nth ((nth code.l t).l) i5)).a), .int .i64 ((copyIns (rowF ((nth M3 i5).l)) (nth ((nth code.l t).l) i5)).b), .int .i64 ((copyIns (rowF ((nth M3 i5).l)) (nth ((nth code.l t).l) i5)).c)], .big (matX (.own 3) 24 v47 M3), .own 3 (⟨v17, words.l⟩ : Ls Int), .blk b11 28 [vq, v17, .int .i64 locks, .int .i64 regs], .blk b4 28 [(.slice none 0 0), (.slice none 0 0), .int .i64 0, .int .i64 0], .blk b3 28 [code.v, words.v, .int .i64 locks, .int .i64 regs], .at_ code, .at_ words, .deep 64 (⟨vq, qs⟩ : Ls (Ls Ins)), .own 73 (⟨vo, ol⟩ : Ls Ins)] := ⟨(Fr.cons hfr.fr0 (hfr.at_ 9 9 14 _ rfl (hall 9 (by decide)))), hsh⟩
   clear hall hfr hsh hw8 hw9 hw10
   refine hK238 _ _ ?_
   refine wp_region_lit ?_
   refine wms 1 h262 rfl fun a263 h263 => ?_; clear h262
   refine wv h263 (r_ldbw (i := 0) (vs := [.int .i64 ((copyIns (rowF ((nth M3 i5).l)) (nth ((nth code.l t).l) i5)).op), .int .i64 ((copyIns (rowF ((nth M3 i5).l)) (nth ((nth code.l t).l) i5)).a), .int .i64 ((copyIns (rowF ((nth M3 i5).l)) (nth ((nth code.l t).l) i5)).b), .int .i64 ((copyIns (rowF ((nth M3 i5).l)) (nth ((nth code.l t).l) i5)).c)]) ti_73 rfl rfl rfl rfl rfl) rfl rfl fun a264 h264 => ?_; clear h263
   refine wl_ex (x_lit (n := 1) (cs := [.int .i64 ((copyIns (rowF ((nth M3 i5).l)) (nth ((nth code.l t).l) i5)).op), .int .i64 ((copyIns (rowF ((nth M3 i5).l)) (nth ((nth code.l t).l) i5)).a), .int .i64 ((copyIns (rowF ((nth M3 i5).l)) (nth ((nth code.l t).l) i5)).b), .int .i64 ((copyIns (rowF ((nth M3 i5).l)) (nth ((nth code.l t).l) i5)).c)]) ([(copyIns (rowF ((nth M3 i5).l)) (nth ((nth code.l t).l) i5))] : List Ins) h264 sl_64 ti_73 rfl rfl rfl (by decide) rfl (by kernel_rfl) rfl (fun q hq w h => Flat.inner _ _) (fun q hq b hb => (Flat.on _ _ hb).elim) rfl rfl) (wanted_none rfl _) ?_
   rintro a265 w265 ⟨v265, h265⟩; clear h264
   refine wl_ex (x_app (r := 10) (rm := 0) (s := (⟨vo, ol⟩ : Ls Ins)) (m := (⟨v265, [(copyIns (rowF ((nth M3 i5).l)) (nth ((nth code.l t).l) i5))]⟩ : Ls Ins)) h265 sl_64 ti_73 rfl rfl rfl rfl rfl rfl rfl (fun w h => (h.own 0 rfl)) (fun b hb => own_on (h265.sh.ok _ (List.mem_of_getElem? (i := 0) rfl)) hb) (fun q hq b hb => ⟨q, hq, hb⟩) rfl rfl rfl inferInstance (show (ol.length + ([(copyIns (rowF ((nth M3 i5).l)) (nth ((nth code.l t).l) i5))]).length) * 32 ≤ 140737488355328 ∧ ol.length + ([(copyIns (rowF ((nth M3 i5).l)) (nth ((nth code.l t).l) i5))]).length ≤ 140737488355328 from (by first | omega | (simp only [lens9]; omega))) rfl rfl) (wanted_none rfl _) ?_
   rintro a266 w266 ⟨v266, h266⟩; clear h265
   refine wms 1 h266 rfl fun a267 h267 => ?_; clear h266
   refine wpList_nil (hK237 _ _ ?_)
   refine wp_region_lit ?_
   refine wms 1 h267 rfl fun a268 h268 => ?_; clear h267
   refine wv h268 (r_addN (p := i5) (q := 1) rfl rfl rfl (show i5 + 1 < 9223372036854775808 from (by omega))) rfl rfl fun a269 h269 => ?_; clear h268
   refine wms 1 h269 rfl fun a270 h270 => ?_; clear h269
   refine wpList_nil ?_
   refine x_again ⟨_, ?_, i5 + 1, ol ++ ([(copyIns (rowF ((nth M3 i5).l)) (nth ((nth code.l t).l) i5))]), v266, ?_, ?_, ?_, h270.nrm ⟨rfl, rfl, rfl, rfl, rfl, rfl, rfl, rfl, trivial⟩ [2, 3, 4, 5, 6, 7, 8, 9, 10] (by decide) ⟨rfl, rfl, rfl, rfl, rfl, rfl, rfl, rfl, rfl, trivial⟩, rfl⟩
   · rw [hm229]; first | omega | (simp only [lens9]; omega)
   · omega
   · rw [hol, List.range_succ, List.map_append, copy_row hok htl (by omega) hR5]; rfl
   · simp [holl]
  have hp236 : ¬ (i5 < ((nth code.l t).l).length) := of_decide_eq_false hb236
  refine wp_exit ?_
  refine hK226 _ _ ?_
  have hq1 : ol = copyL (nth code.l t).l := by rw [hol, show i5 = (nth code.l t).l.length by omega]; rfl
  refine wp_region_lit ?_
  refine wv h235 (r_fieldB (r := 0) fl_28_0 rfl rfl rfl) rfl rfl fun a271 h271 => ?_; clear h235
  refine wv h271 (r_ldb (i := 2) ti_26 rfl rfl rfl rfl) rfl rfl fun a272 h272 => ?_; clear h271
  refine wms 1 h272 rfl fun a273 h273 => ?_; clear h272
  have h274 := h273.sel (L' := [.own 73 (⟨vo, ol⟩ : Ls Ins), .big (matX (.own 3) 24 v47 M3), .own 3 (⟨v17, words.l⟩ : Ls Int), .blk b11 28 [vq, v17, .int .i64 locks, .int .i64 regs], .blk b4 28 [(.slice none 0 0), (.slice none 0 0), .int .i64 0, .int .i64 0], .blk b3 28 [code.v, words.v, .int .i64 locks, .int .i64 regs], .at_ code, .at_ words, .deep 64 (⟨vq, qs⟩ : Ls (Ls Ins))]) [8, 0, 1, 2, 3, 4, 5, 6, 7] (by decide) ⟨rfl, rfl, rfl, rfl, rfl, rfl, rfl, rfl, rfl, trivial⟩
  refine wl_ex (x_litD (E := 0) (x := (⟨vo, ol⟩ : Ls Ins)) h274 sl_26 ti_64 rfl rfl rfl ((h274.sh.own 0 rfl)) (fun b hb => (own_on (h274.sh.ok _ (List.mem_of_getElem? (i := 0) rfl)) hb).elim (fun h => h) (fun h => Flat.noRd h)) (fun b hb => Flat.noRd hb) rfl rfl) (wanted_none rfl _) ?_
  rintro a275 w275 ⟨v275, h275⟩; clear h274
  have h276 := h275.sel (L' := [.deep 64 (⟨vq, qs⟩ : Ls (Ls Ins)), .deep 64 (⟨v275, [(⟨vo, ol⟩ : Ls Ins)]⟩ : Ls (Ls Ins)), .big (matX (.own 3) 24 v47 M3), .own 3 (⟨v17, words.l⟩ : Ls Int), .blk b11 28 [vq, v17, .int .i64 locks, .int .i64 regs], .blk b4 28 [(.slice none 0 0), (.slice none 0 0), .int .i64 0, .int .i64 0], .blk b3 28 [code.v, words.v, .int .i64 locks, .int .i64 regs], .at_ code, .at_ words]) [8, 0, 1, 2, 3, 4, 5, 6, 7] (by decide) ⟨rfl, rfl, rfl, rfl, rfl, rfl, rfl, rfl, rfl, trivial⟩
  refine wl_ex (x_appD (s := (⟨vq, qs⟩ : Ls (Ls Ins))) (m := (⟨v275, [(⟨vo, ol⟩ : Ls Ins)]⟩ : Ls (Ls Ins))) h276 sl_26 ti_64 rfl rfl rfl rfl rfl rfl rfl inferInstance (show (qs.length + ([(⟨vo, ol⟩ : Ls Ins)]).length) * 24 ≤ 140737488355328 ∧ qs.length + ([(⟨vo, ol⟩ : Ls Ins)]).length ≤ 140737488355328 from (by first | omega | (simp only [lens9]; omega))) rfl rfl) (wanted_none rfl _) ?_
  rintro a277 w277 ⟨v277, h277⟩; clear h276
  refine wv h277 (r_fieldB (r := 0) fl_28_0 rfl rfl rfl) rfl rfl fun a278 h278 => ?_; clear h277
  refine wl_ex (x_stb (i := 3) (vs := [v277]) (cs' := [v277, v17, .int .i64 locks, .int .i64 regs]) h278 ti_26 rfl rfl rfl rfl rfl (cells_oneL ((h278.sh.deep 0 rfl)).one) rfl (allOne_cons ((h278.sh.deep 0 rfl)).one allOne_nil) (Nat.le_of_ble_eq_true rfl) rfl) (wanted_none rfl _) ?_
  rintro a279 w279 h279
  clear h278
  refine wpList_nil (hK34 _ _ ?_)
  refine wp_region_lit ?_
  refine wms 1 h279 rfl fun a280 h280 => ?_; clear h279
  refine wv h280 (r_addN (p := t) (q := 1) rfl rfl rfl (show t + 1 < 9223372036854775808 from (by omega))) rfl rfl fun a281 h281 => ?_; clear h280
  refine wms 1 h281 rfl fun a282 h282 => ?_; clear h281
  refine wpList_nil ?_
  refine x_again ⟨_, ?_, t + 1, qs ++ ([(⟨vo, ol⟩ : Ls Ins)]), v277, ?_, ?_, ?_, h282.nrm ⟨rfl, rfl, rfl, rfl, trivial⟩ [2, 3, 4, 5, 6, 7, 0] (by decide) ⟨rfl, rfl, rfl, rfl, rfl, rfl, rfl, trivial⟩, rfl⟩
  · rw [hm23]; first | omega | (simp only [lens9]; omega)
  · omega
  · rw [List.map_append, hqs, take_succ_nth _ _ (by omega)]; simp [hq1]
  · simp [hql]
 have hp33 : ¬ (t < code.l.length) := of_decide_eq_false hb33
 refine wp_exit ?_
 refine hK20 _ _ ?_
 refine wp_seq_k fun K283 hK283 => wp_region_lit ?_
 refine wv h32 (r_ldbw (i := 1) (vs := [vq, v17, .int .i64 locks, .int .i64 regs]) ti_28 rfl rfl rfl rfl rfl) rfl rfl fun a284 h284 => ?_; clear h32
 refine wl_ex (x_stb (i := 2) (vs := [vq, v17, .int .i64 locks, .int .i64 regs]) (cs' := [vq, v17, .int .i64 locks, .int .i64 regs]) h284 ti_28 rfl rfl rfl rfl rfl rfl rfl (allOne_cons ((h284.sh.deep 6 rfl)).one (allOne_cons ((h284.sh.own 0 rfl)).one (allOne_cons rfl (allOne_cons rfl allOne_nil)))) (Nat.le_of_ble_eq_true rfl) rfl) (wanted_none rfl _) ?_
 rintro a285 w285 h285
 clear h284
 refine wpList_nil (hK283 _ _ ?_)
 refine wp_ret ?_
 try simp only [Exit.then, Exit.inBlock]
 refine x_ret1c (fn := Try.f46) (t := 2) (i := 2) ti_28 rfl h285 rfl rfl rfl ?_
 refine ⟨⟨vq, qs⟩, ⟨v17, words.l⟩, rfl, ?_, rfl, (h285.sh.sel (L' := [.deep 64 (⟨vq, qs⟩ : Ls (Ls Ins)), .own 3 (⟨v17, words.l⟩ : Ls Int)]) [6, 0] (by decide) ⟨rfl, rfl, trivial⟩)⟩
 show qs.map (·.l) = _; rw [hqs, List.take_of_length_le (by omega)]

end Go.Proofs.Ytanhbpofhebbaaa
