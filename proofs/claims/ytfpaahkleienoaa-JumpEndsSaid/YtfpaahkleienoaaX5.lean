/-
  Contracts of functions of this program and of the references, each walked once.
-/
import Derived.Test.YtfpaahkleienoaaX4
namespace Go.Proofs.Ytfpaahkleienoaa
open Go.RowKit
set_option linter.unusedSimpArgs false
set_option linter.unusedVariables false


def Asn.tt : Asn := ⟨fun _ => False, fun _ => False, fun _ => True, fun _ _ _ _ => trivial, fun _ _ _ h => by rcases h with h | h <;> exact h.elim⟩
theorem eq_toL (code ou : List Ins) (hl : ou.length = code.length) (h : ∀ j, j < code.length → nth ou j = straightIns code (nth code j)) : ou = toL code := by
  apply ext_nth
  · simpa [toL] using hl
  · intro i hi
    rw [h i (by omega)]
    exact (nth_map' _ _ _ (by omega)).symm

set_option maxRecDepth 100000 in
set_option maxHeartbeats 8000000 in
theorem jStraight_c (code : Ls (Ls Ins)) (words : Ls Int) (locks regs : Int) (W : World) (hcode : code.At W) (hwords : words.At W) (hok : OkPg (pgOf code words locks regs)) :
    Rets Try.prog 15 [.agg #[code.v, words.v, .int .i64 locks, .int .i64 regs]] W (fun v w' => ∃ (c : Ls (Ls Ins)) (u : Ls Int), v = .tuple #[.agg #[c.v, u.v, .int .i64 locks, .int .i64 regs], .agg #[.int .i64 0, .int .i64 0, .int .i64 0]] ∧ c.l.map (·.l) = (code.l.map (·.l)).map straightL ∧ u.l = words.l ∧ Sh0 W w' [.deep 33 c, .own 3 u]) := by
 have hz := checkG_ok hok
 obtain ⟨hl1, hl2, hl3, hl4', hl5, hl6, hl7⟩ := ok_len hok
 refine x_enter (N := 73) Try.func15 rfl Try.ntmps15 (Nat.le_of_ble_eq_true rfl) fun a1 hf1 => ?_
 have h1 : St 73 (fun _ => False) W a1 W [(0, .agg #[code.v, words.v, .int .i64 locks, .int .i64 regs])] [.at_ code, .at_ words] := ⟨hf1.sub ⟨rfl, trivial⟩, Sh0.ext2 hcode hwords⟩
 clear hf1
 refine wp_seq_k fun K2 hK2 => wp_region_lit ?_
 refine wl_ex (x_box (cs := [code.v, words.v, .int .i64 locks, .int .i64 regs]) h1 rfl rfl rfl rfl rfl) (wanted_none rfl _) ?_
 rintro a3 w3 ⟨b3, h3⟩; clear h1
 refine wl_ex (x_alloc h3 ti_25 rfl rfl rfl) (wanted_none rfl _) ?_
 rintro a4 w4 ⟨b4, h4⟩; clear h3
 refine wl_ex (x_alloc h4 ti_28 rfl rfl rfl) (wanted_none rfl _) ?_
 rintro a5 w5 ⟨b5, h5⟩; clear h4
 refine wpList_nil (hK2 _ _ ?_)
 refine wp_seq_k fun K6 hK6 => ?_
 refine wp_seq_k fun K7 hK7 => wp_region_lit ?_
 refine wv h5 (r_ldbw (i := 2) (vs := [code.v, words.v, .int .i64 locks, .int .i64 regs]) ti_25 rfl rfl rfl rfl rfl) rfl rfl fun a8 h8 => ?_; clear h5
 refine wl_ex (x_call h8 bd_46 rfl rfl rfl rfl rfl (asmCheck_c (code := code) (words := words) (locks := locks) (regs := regs) (h8.sh.at 3 rfl) (h8.sh.at 4 rfl))) (wanted_none rfl _) ?_
 rintro a9 w9 ⟨_, ⟨rfl, hs9⟩, hf9⟩
 have h9 : St 73 (fun _ => False) W a9 w9 _ _ := ⟨hf9, h8.sh.call0 hs9⟩
 clear hf9 hs9
 clear h8
 refine wl_ex (x_alloc h9 ti_28 rfl rfl rfl) (wanted_none rfl _) ?_
 rintro a10 w10 ⟨b10, h10⟩; clear h9
 refine wl_ex (x_stb (i := 0) (vs := [.int .i64 ((checkG (pgOf code words locks regs)).code), .int .i64 ((checkG (pgOf code words locks regs)).thread), .int .i64 ((checkG (pgOf code words locks regs)).at_)]) (cs' := [.int .i64 ((checkG (pgOf code words locks regs)).code), .int .i64 ((checkG (pgOf code words locks regs)).thread), .int .i64 ((checkG (pgOf code words locks regs)).at_)]) h10 ti_28 rfl rfl rfl rfl rfl rfl rfl (allOne_cons rfl (allOne_cons rfl (allOne_cons rfl allOne_nil))) (Nat.le_of_ble_eq_true rfl) rfl) (wanted_none rfl _) ?_
 rintro a11 w11 h11
 clear h10
 refine wpList_nil (hK7 _ _ ?_)
 refine wp_seq_k fun K12 hK12 => wp_region_lit ?_
 refine wv h11 (r_fieldB (r := 0) fl_28_0 rfl rfl rfl) rfl rfl fun a13 h13 => ?_; clear h11
 refine wv h13 (r_ldb (i := 0) ti_26 rfl rfl rfl rfl) rfl rfl fun a14 h14 => ?_; clear h13
 refine wv h14 (r_neqI (p := (checkG (pgOf code words locks regs)).code) (q := 0) rfl rfl rfl) rfl rfl fun a15 h15 => ?_; clear h14
 refine wpList_nil (hK12 _ _ ?_)
 refine x_condF h15 rfl (by rw [hz]; rfl) ?_
 refine wp_skip ?_
 refine hK6 _ _ ?_
 refine wp_seq_k fun K16 hK16 => wp_region_lit ?_
 refine wv h15 (r_ldbw (i := 3) (vs := [code.v, words.v, .int .i64 locks, .int .i64 regs]) ti_25 rfl rfl rfl rfl rfl) rfl rfl fun a17 h17 => ?_; clear h15
 refine wl_ex (x_alloc h17 ti_25 rfl rfl rfl) (wanted_none rfl _) ?_
 rintro a18 w18 ⟨b18, h18⟩; clear h17
 refine wl_ex (x_stb (i := 0) (vs := [code.v, words.v, .int .i64 locks, .int .i64 regs]) (cs' := [code.v, words.v, .int .i64 locks, .int .i64 regs]) h18 ti_25 rfl rfl rfl rfl rfl rfl rfl (allOne_cons ((h18.sh.at 5 rfl)).one (allOne_cons ((h18.sh.at 6 rfl)).one (allOne_cons rfl (allOne_cons rfl allOne_nil)))) (Nat.le_of_ble_eq_true rfl) rfl) (wanted_none rfl _) ?_
 rintro a19 w19 h19
 clear h18
 refine wpList_nil (hK16 _ _ ?_)
 refine wp_seq_k fun K20 hK20 => wp_region_lit ?_
 refine wv h19 (r_fieldB (r := 1) fl_25_1 rfl rfl rfl) rfl rfl fun a21 h21 => ?_; clear h19
 refine wv h21 (r_ldb (i := 4) ti_23 rfl rfl rfl rfl) rfl rfl fun a22 h22 => ?_; clear h21
 refine wl_ex (x_call h22 bd_47 rfl rfl rfl rfl rfl (cloneI_c words _ (h22.sh.at 6 rfl) (by first | omega | (simp only [lens9]; omega)))) (wanted_none rfl _) ?_
 rintro a23 w23 ⟨_, ⟨s23, rfl, hs23⟩, hf23⟩
 have h23 := (⟨hf23, h22.sh.call hs23 (by intro A hA b hb; first | (simp at hA; done) | (simp at hA; subst hA; first | exact Flat.noRd hb | exact (hb : False).elim) | (simp at hA; rcases hA with rfl | rfl <;> first | exact Flat.noRd hb | exact (hb : False).elim))⟩ : St 73 (fun _ => False) W a23 w23 _ _)
 clear hf23 hs23
 clear h22
 refine wv h23 (r_fieldB (r := 0) fl_25_0 rfl rfl rfl) rfl rfl fun a24 h24 => ?_; clear h23
 refine wl_ex (x_stb (i := 1) (vs := [(.slice none 0 0)]) (cs' := [(.slice none 0 0), words.v, .int .i64 locks, .int .i64 regs]) h24 ti_22 rfl rfl rfl rfl rfl rfl rfl (allOne_cons rfl allOne_nil) (Nat.le_of_ble_eq_true rfl) rfl) (wanted_none rfl _) ?_
 rintro a25 w25 h25
 clear h24
 refine wv h25 (r_fieldB (r := 1) fl_25_1 rfl rfl rfl) rfl rfl fun a26 h26 => ?_; clear h25
 refine wl_ex (x_stb (i := 1) (vs := [s23.v]) (cs' := [(.slice none 0 0), s23.v, .int .i64 locks, .int .i64 regs]) h26 ti_23 rfl rfl rfl rfl rfl (cells_oneL ((h26.sh.own 0 rfl)).one) rfl (allOne_cons ((h26.sh.own 0 rfl)).one allOne_nil) (Nat.le_of_ble_eq_true rfl) rfl) (wanted_none rfl _) ?_
 rintro a27 w27 h27
 clear h26
 refine wpList_nil (hK20 _ _ ?_)
 refine wp_seq_k fun K28 hK28 => ?_
 refine wp_seq_k fun K29 hK29 => wp_region_lit ?_
 refine wv h27 (r_fieldB (r := 0) fl_25_0 rfl rfl rfl) rfl rfl fun a30 h30 => ?_; clear h27
 refine wv h30 (r_ldb (i := 5) ti_22 rfl rfl rfl rfl) rfl rfl fun a31 h31 => ?_; clear h30
 have hl32 : code.l.length ≤ 140737488355328 := (h31.sh.at 6 rfl).len
 refine wv h31 (r_len (s := code) (n := code.l.length) sl_22 rfl rfl (fun w h => (h.at 6 rfl)) rfl) rfl rfl fun a33 h33 => ?_; clear h31
 refine wms 1 h33 rfl fun a34 h34 => ?_; clear h33
 refine wpList_nil (hK29 _ _ ?_)
 refine wp_block ?_
 have h36 := h34.nilDeep (α := Ls Ins) 33
 clear h34
 refine x_loop (fun m a w => ∃ (t : Nat) (qs : List (Ls Ins)) (vq : Value), (t ≤ code.l.length) ∧ (qs.map (·.l) = ((code.l.take t).map (·.l)).map straightL) ∧ (qs.length = t) ∧ St 73 (fun _ => False) W a w [(2, .pointer (some ⟨b4, 0, none⟩)), (3, .pointer (some ⟨b5, 0, none⟩)), (5, .pointer (some ⟨b18, 0, none⟩)), (25, code.v), (26, .int .i64 ((code.l.length : Nat) : Int)), (27, .int .i64 ((t : Nat) : Int))] [.own 3 (⟨s23.v, words.l⟩ : Ls Int), .blk b18 25 [vq, s23.v, .int .i64 locks, .int .i64 regs], .blk b10 28 [.int .i64 ((checkG (pgOf code words locks regs)).code), .int .i64 ((checkG (pgOf code words locks regs)).thread), .int .i64 ((checkG (pgOf code words locks regs)).at_)], .blk b5 28 [.int .i64 0, .int .i64 0, .int .i64 0], .blk b4 25 [(.slice none 0 0), (.slice none 0 0), .int .i64 0, .int .i64 0], .blk b3 25 [code.v, words.v, .int .i64 locks, .int .i64 regs], .at_ code, .at_ words, .deep 33 (⟨vq, qs⟩ : Ls (Ls Ins))] ∧ m = code.l.length - t) ⟨_, 0, [], (.slice none 0 0), (by omega), (rfl), (rfl), h36.nrm ⟨rfl, rfl, rfl, rfl, rfl, rfl, trivial⟩ [1, 2, 3, 4, 5, 6, 7, 8, 0] (by decide) ⟨rfl, rfl, rfl, rfl, rfl, rfl, rfl, rfl, rfl, trivial⟩, rfl⟩ ?_
 clear h36
 rintro m35 a35 w35 ⟨t, qs, vq, ht, hqs, hql, h35, hm35⟩
 refine wp_seq_k fun K37 hK37 => wp_region_lit ?_
 refine wv h35 (r_lssN (p := t) (q := code.l.length) rfl rfl rfl) rfl rfl fun a38 h38 => ?_; clear h35
 refine wpList_nil (hK37 _ _ ?_)
 refine wp_seq_k fun K39 hK39 => ?_
 refine x_cond h38 rfl (fun hb40 => ?_) (fun hb40 => ?_)
 ·
  have hp40 : t < code.l.length := of_decide_eq_true hb40
  refine wp_skip ?_
  refine hK39 _ _ ?_
  refine wp_seq_k fun K41 hK41 => ?_
  refine wp_block ?_
  refine wp_seq_k fun K42 hK42 => wp_region_lit ?_
  refine wv h38 (r_ixN (s := code) (q := t) sl_22 ti_33 rfl rfl rfl (fun w h => (h.at 6 rfl)) (show t < code.l.length from (by omega))) rfl rfl fun a43 h43 => ?_; clear h38
  refine wv h43 (r_lde (s := code) (i := t) (v := (nth code.l t).v) ti_33 rfl rfl rfl (fun w h => (h.at 6 rfl)) (show t < code.l.length from (by omega)) (Nat.le_of_ble_eq_true rfl) rfl) rfl rfl fun a44 h44 => ?_; clear h43
  refine wms 1 h44 rfl fun a45 h45 => ?_; clear h44
  refine wpList_nil (hK42 _ _ ?_)
  obtain ⟨hl4, hjt⟩ := ok_thread hok t (by omega)
  refine wp_seq_k fun K46 hK46 => wp_region_lit ?_
  refine wms 1 h45 rfl fun a47 h47 => ?_; clear h45
  refine wl_ex (x_call h47 bd_48 rfl rfl rfl rfl rfl (cloneP_c (nth code.l t) _ ((h47.sh.at 6 rfl).nth t (show t < code.l.length from (by omega))) (by first | omega | (simp only [lens9]; omega)))) (wanted_none rfl _) ?_
  rintro a48 w48 ⟨_, ⟨s48, rfl, hs48⟩, hf48⟩
  have h48 := (⟨hf48, h47.sh.call hs48 (by intro A hA b hb; first | (simp at hA; done) | (simp at hA; subst hA; first | exact Flat.noRd hb | exact (hb : False).elim) | (simp at hA; rcases hA with rfl | rfl <;> first | exact Flat.noRd hb | exact (hb : False).elim))⟩ : St 73 (fun _ => False) W a48 w48 _ _)
  clear hf48 hs48
  clear h47
  refine wms 1 h48 rfl fun a49 h49 => ?_; clear h48
  refine wpList_nil (hK46 _ _ ?_)
  refine wp_seq_k fun K50 hK50 => ?_
  refine wp_seq_k fun K51 hK51 => wp_region_lit ?_
  refine wms 1 h49 rfl fun a52 h52 => ?_; clear h49
  have hl53 : ((nth code.l t).l).length ≤ 140737488355328 := ((h52.sh.at 7 rfl).nth t (show t < code.l.length from (by omega))).len
  refine wv h52 (r_len (s := nth code.l t) (n := ((nth code.l t).l).length) sl_33 rfl rfl (fun w h => ((h.at 7 rfl).nth t (show t < code.l.length from (by omega)))) rfl) rfl rfl fun a54 h54 => ?_; clear h52
  refine wms 1 h54 rfl fun a55 h55 => ?_; clear h54
  refine wpList_nil (hK51 _ _ ?_)
  refine wp_block ?_
  refine x_loop (fun m a w => ∃ (i : Nat) (ou : List Ins), (i ≤ (nth code.l t).l.length) ∧ (ou.length = (nth code.l t).l.length) ∧ (∀ j, j < i → nth ou j = straightIns (nth code.l t).l (nth (nth code.l t).l j)) ∧ (∀ j, i ≤ j → nth ou j = nth (nth code.l t).l j) ∧ St 73 (fun _ => False) W a w [(2, .pointer (some ⟨b4, 0, none⟩)), (3, .pointer (some ⟨b5, 0, none⟩)), (5, .pointer (some ⟨b18, 0, none⟩)), (7, (nth code.l t).v), (8, s48.v), (25, code.v), (26, .int .i64 ((code.l.length : Nat) : Int)), (27, .int .i64 ((t : Nat) : Int)), (33, (nth code.l t).v), (34, .int .i64 ((((nth code.l t).l).length : Nat) : Int)), (35, .int .i64 ((i : Nat) : Int))] [.own 32 (⟨s48.v, ou⟩ : Ls Ins), .own 3 (⟨s23.v, words.l⟩ : Ls Int), .blk b18 25 [vq, s23.v, .int .i64 locks, .int .i64 regs], .blk b10 28 [.int .i64 ((checkG (pgOf code words locks regs)).code), .int .i64 ((checkG (pgOf code words locks regs)).thread), .int .i64 ((checkG (pgOf code words locks regs)).at_)], .blk b5 28 [.int .i64 0, .int .i64 0, .int .i64 0], .blk b4 25 [(.slice none 0 0), (.slice none 0 0), .int .i64 0, .int .i64 0], .blk b3 25 [code.v, words.v, .int .i64 locks, .int .i64 regs], .at_ code, .at_ words, .deep 33 (⟨vq, qs⟩ : Ls (Ls Ins))] ∧ m = (nth code.l t).l.length - i) ⟨_, 0, (nth code.l t).l, (by omega), (rfl), (fun j hj => absurd hj (by omega)), (fun j hj => rfl), h55.nrm ⟨rfl, rfl, rfl, rfl, rfl, rfl, rfl, rfl, rfl, rfl, rfl, trivial⟩ [0, 1, 2, 3, 4, 5, 6, 7, 8, 9] (by decide) ⟨rfl, rfl, rfl, rfl, rfl, rfl, rfl, rfl, rfl, rfl, trivial⟩, rfl⟩ ?_
  clear h55
  rintro m56 a56 w56 ⟨i, ou, hi, hol, hdone, hrest, h56, hm56⟩
  refine wp_seq_k fun K57 hK57 => wp_region_lit ?_
  refine wv h56 (r_lssN (p := i) (q := ((nth code.l t).l).length) rfl rfl rfl) rfl rfl fun a58 h58 => ?_; clear h56
  refine wpList_nil (hK57 _ _ ?_)
  refine wp_seq_k fun K59 hK59 => ?_
  refine x_cond h58 rfl (fun hb60 => ?_) (fun hb60 => ?_)
  ·
   have hp60 : i < ((nth code.l t).l).length := of_decide_eq_true hb60
   refine wp_skip ?_
   refine hK59 _ _ ?_
   refine wp_seq_k fun K61 hK61 => ?_
   refine wp_block ?_
   refine wp_seq_k fun K62 hK62 => wp_region_lit ?_
   refine wms 1 h58 rfl fun a63 h63 => ?_; clear h58
   refine wv h63 (r_ixN (s := nth code.l t) (q := i) sl_33 ti_32 rfl rfl rfl (fun w h => ((h.at 7 rfl).nth t (show t < code.l.length from (by omega)))) (show i < ((nth code.l t).l).length from (by omega))) rfl rfl fun a64 h64 => ?_; clear h63
   refine wv h64 (r_ldew (s := nth code.l t) (i := i) (vs := [.int .i64 ((nth ((nth code.l t).l) i).op), .int .i64 ((nth ((nth code.l t).l) i).a), .int .i64 ((nth ((nth code.l t).l) i).b), .int .i64 ((nth ((nth code.l t).l) i).c)]) ti_32 rfl rfl rfl (fun w h => ((h.at 7 rfl).nth t (show t < code.l.length from (by omega)))) (show i < ((nth code.l t).l).length from (by omega)) (Nat.le_of_ble_eq_true rfl) rfl) rfl rfl fun a65 h65 => ?_; clear h64
   refine wl_ex (x_alloc h65 ti_32 rfl rfl rfl) (wanted_none rfl _) ?_
   rintro a66 w66 ⟨b66, h66⟩; clear h65
   refine wms 1 h66 rfl fun a67 h67 => ?_; clear h66
   refine wl_ex (x_stb (i := 0) (vs := [.int .i64 ((nth ((nth code.l t).l) i).op), .int .i64 ((nth ((nth code.l t).l) i).a), .int .i64 ((nth ((nth code.l t).l) i).b), .int .i64 ((nth ((nth code.l t).l) i).c)]) (cs' := [.int .i64 ((nth ((nth code.l t).l) i).op), .int .i64 ((nth ((nth code.l t).l) i).a), .int .i64 ((nth ((nth code.l t).l) i).b), .int .i64 ((nth ((nth code.l t).l) i).c)]) h67 ti_32 rfl rfl rfl rfl rfl rfl rfl (allOne_cons rfl (allOne_cons rfl (allOne_cons rfl (allOne_cons rfl allOne_nil)))) (Nat.le_of_ble_eq_true rfl) rfl) (wanted_none rfl _) ?_
   rintro a68 w68 h68
   clear h67
   refine wpList_nil (hK62 _ _ ?_)
   refine wp_seq_k fun K69 hK69 => wp_region_lit ?_
   refine wv h68 (r_fieldB (r := 0) fl_32_0 rfl rfl rfl) rfl rfl fun a70 h70 => ?_; clear h68
   refine wv h70 (r_ldb (i := 0) ti_3 rfl rfl rfl rfl) rfl rfl fun a71 h71 => ?_; clear h70
   refine wpList_nil (hK69 _ _ ?_)
   refine wp_block ?_
   refine wp_seq_k fun K72 hK72 => wp_region_lit ?_
   refine wv h71 (r_eqlI (p := (nth ((nth code.l t).l) i).op) (q := 14) rfl rfl rfl) rfl rfl fun a73 h73 => ?_; clear h71
   refine wms 1 h73 rfl fun a74 h74 => ?_; clear h73
   refine wpList_nil (hK72 _ _ ?_)
   refine x_cond h74 rfl (fun hb75 => ?_) (fun hb75 => ?_)
   ·
    have hp75 : (nth ((nth code.l t).l) i).op = 14 := of_decide_eq_true hb75
    refine wp_region_lit ?_
    refine wms 3 h74 rfl fun a76 h76 => ?_; clear h74
    refine wv h76 (r_fieldB (r := 1) fl_32_1 rfl rfl rfl) rfl rfl fun a77 h77 => ?_; clear h76
    refine wv h77 (r_ldb (i := 0) ti_3 rfl rfl rfl rfl) rfl rfl fun a78 h78 => ?_; clear h77
    refine wl_ex (x_call h78 bd_49 rfl rfl rfl rfl rfl (jend_cI (nth code.l t) ((nth ((nth code.l t).l) i).a)  _ ((h78.sh.at 8 rfl).nth t (show t < code.l.length from (by omega))) hjt  (show 0 ≤ (nth ((nth code.l t).l) i).a ∧ (nth ((nth code.l t).l) i).a ≤ ((nth code.l t).l).length from (by have := (hjt i (by omega)).1 (by omega); omega)))) (wanted_none rfl _) ?_
    rintro a79 w79 ⟨_, ⟨rfl, hs79⟩, hf79⟩
    have h79 : St 73 (fun _ => False) W a79 w79 _ _ := ⟨hf79, h78.sh.call0 hs79⟩
    clear hf79 hs79
    clear h78
    have hl80 : ou.length ≤ 140737488355328 := (h79.sh.own 1 rfl).len
    refine wv h79 (r_ixN (s := (⟨s48.v, ou⟩ : Ls Ins)) (q := i) sl_33 ti_32 rfl rfl rfl (fun w h => (h.own 1 rfl)) (show i < ou.length from (by omega))) rfl rfl fun a81 h81 => ?_; clear h79
    refine wv h81 (r_fieldE (r := 1) fl_32_1 rfl rfl rfl) rfl rfl fun a82 h82 => ?_; clear h81
    refine wl_ex (x_ste (s := (⟨s48.v, ou⟩ : Ls Ins)) (r := 1) (i := i) (j := 1) (x' := ({ nth ou i with a := ((endF ((nth code.l t).l) ((nth code.l t).l).length (((nth ((nth code.l t).l) i).a).toNat) : Nat) : Int) } : Ins)) h82 ti_3 rfl rfl rfl rfl rfl (show i < ou.length from (by omega)) (Nat.le_of_ble_eq_true rfl) rfl rfl rfl (by intro q hq; rcases q with _ | _ | _ | _ | q <;> first | rfl | omega) (fun w h => Flat.inner _ _) (fun b hb => (Flat.on _ _ hb).elim)) (wanted_none rfl _) ?_
    rintro a83 w83 h83
    clear h82
    refine wpList_nil (hK61 _ _ ?_)
    refine wp_region_lit ?_
    refine wv h83 (r_addN (p := i) (q := 1) rfl rfl rfl (show i + 1 < 9223372036854775808 from (by omega))) rfl rfl fun a84 h84 => ?_; clear h83
    refine wms 1 h84 rfl fun a85 h85 => ?_; clear h84
    refine wpList_nil ?_
    refine x_again ⟨_, ?_, i + 1, ou.set i ({ nth ou i with a := ((endF ((nth code.l t).l) ((nth code.l t).l).length (((nth ((nth code.l t).l) i).a).toNat) : Nat) : Int) }), ?_, ?_, ?_, ?_, h85.nrm ⟨rfl, rfl, rfl, rfl, rfl, rfl, rfl, rfl, rfl, rfl, rfl, trivial⟩ [1, 2, 3, 4, 5, 6, 7, 8, 9, 10] (by decide) ⟨rfl, rfl, rfl, rfl, rfl, rfl, rfl, rfl, rfl, rfl, trivial⟩, rfl⟩
    · rw [hm56]; first | omega | (simp only [lens9]; omega)
    · omega
    · first | simpa using hol | exact hol
    · intro j hj; rcases Nat.lt_or_ge j i with h | h; (first | (rw [nth_set, if_neg (by omega)]; exact hdone j h) | exact hdone j h); obtain rfl : j = i := (by omega); have hr := hrest j (by omega); (try rw [nth_set, if_pos ⟨rfl, by omega⟩]); rw [hr]; unfold straightIns; (repeat' split) <;> first | (exfalso; omega) | rfl
    · intro j hj; first | (rw [nth_set, if_neg (by omega)]; exact hrest j (by omega)) | exact hrest j (by omega)
   have hp75 : ¬ ((nth ((nth code.l t).l) i).op = 14) := of_decide_eq_false hb75
   refine wp_seq_k fun K86 hK86 => wp_region_lit ?_
   refine wv h74 (r_eqlI (p := (nth ((nth code.l t).l) i).op) (q := 15) rfl rfl rfl) rfl rfl fun a87 h87 => ?_; clear h74
   refine wms 1 h87 rfl fun a88 h88 => ?_; clear h87
   refine wpList_nil (hK86 _ _ ?_)
   refine x_cond h88 rfl (fun hb89 => ?_) (fun hb89 => ?_)
   ·
    have hp89 : (nth ((nth code.l t).l) i).op = 15 := of_decide_eq_true hb89
    refine wp_region_lit ?_
    refine wms 3 h88 rfl fun a90 h90 => ?_; clear h88
    refine wv h90 (r_fieldB (r := 2) fl_32_2 rfl rfl rfl) rfl rfl fun a91 h91 => ?_; clear h90
    refine wv h91 (r_ldb (i := 0) ti_3 rfl rfl rfl rfl) rfl rfl fun a92 h92 => ?_; clear h91
    refine wl_ex (x_call h92 bd_49 rfl rfl rfl rfl rfl (jend_cI (nth code.l t) ((nth ((nth code.l t).l) i).b)  _ ((h92.sh.at 8 rfl).nth t (show t < code.l.length from (by omega))) hjt  (show 0 ≤ (nth ((nth code.l t).l) i).b ∧ (nth ((nth code.l t).l) i).b ≤ ((nth code.l t).l).length from (by have := (hjt i (by omega)).2 (by omega); omega)))) (wanted_none rfl _) ?_
    rintro a93 w93 ⟨_, ⟨rfl, hs93⟩, hf93⟩
    have h93 : St 73 (fun _ => False) W a93 w93 _ _ := ⟨hf93, h92.sh.call0 hs93⟩
    clear hf93 hs93
    clear h92
    have hl94 : ou.length ≤ 140737488355328 := (h93.sh.own 1 rfl).len
    refine wv h93 (r_ixN (s := (⟨s48.v, ou⟩ : Ls Ins)) (q := i) sl_33 ti_32 rfl rfl rfl (fun w h => (h.own 1 rfl)) (show i < ou.length from (by omega))) rfl rfl fun a95 h95 => ?_; clear h93
    refine wv h95 (r_fieldE (r := 2) fl_32_2 rfl rfl rfl) rfl rfl fun a96 h96 => ?_; clear h95
    refine wl_ex (x_ste (s := (⟨s48.v, ou⟩ : Ls Ins)) (r := 1) (i := i) (j := 2) (x' := ({ nth ou i with b := ((endF ((nth code.l t).l) ((nth code.l t).l).length (((nth ((nth code.l t).l) i).b).toNat) : Nat) : Int) } : Ins)) h96 ti_3 rfl rfl rfl rfl rfl (show i < ou.length from (by omega)) (Nat.le_of_ble_eq_true rfl) rfl rfl rfl (by intro q hq; rcases q with _ | _ | _ | _ | q <;> first | rfl | omega) (fun w h => Flat.inner _ _) (fun b hb => (Flat.on _ _ hb).elim)) (wanted_none rfl _) ?_
    rintro a97 w97 h97
    clear h96
    refine wpList_nil (hK61 _ _ ?_)
    refine wp_region_lit ?_
    refine wv h97 (r_addN (p := i) (q := 1) rfl rfl rfl (show i + 1 < 9223372036854775808 from (by omega))) rfl rfl fun a98 h98 => ?_; clear h97
    refine wms 1 h98 rfl fun a99 h99 => ?_; clear h98
    refine wpList_nil ?_
    refine x_again ⟨_, ?_, i + 1, ou.set i ({ nth ou i with b := ((endF ((nth code.l t).l) ((nth code.l t).l).length (((nth ((nth code.l t).l) i).b).toNat) : Nat) : Int) }), ?_, ?_, ?_, ?_, h99.nrm ⟨rfl, rfl, rfl, rfl, rfl, rfl, rfl, rfl, rfl, rfl, rfl, trivial⟩ [1, 2, 3, 4, 5, 6, 7, 8, 9, 10] (by decide) ⟨rfl, rfl, rfl, rfl, rfl, rfl, rfl, rfl, rfl, rfl, trivial⟩, rfl⟩
    · rw [hm56]; first | omega | (simp only [lens9]; omega)
    · omega
    · first | simpa using hol | exact hol
    · intro j hj; rcases Nat.lt_or_ge j i with h | h; (first | (rw [nth_set, if_neg (by omega)]; exact hdone j h) | exact hdone j h); obtain rfl : j = i := (by omega); have hr := hrest j (by omega); (try rw [nth_set, if_pos ⟨rfl, by omega⟩]); rw [hr]; unfold straightIns; (repeat' split) <;> first | (exfalso; omega) | rfl
    · intro j hj; first | (rw [nth_set, if_neg (by omega)]; exact hrest j (by omega)) | exact hrest j (by omega)
   have hp89 : ¬ ((nth ((nth code.l t).l) i).op = 15) := of_decide_eq_false hb89
   refine wp_skip ?_
   refine hK61 _ _ ?_
   refine wp_region_lit ?_
   refine wv h88 (r_addN (p := i) (q := 1) rfl rfl rfl (show i + 1 < 9223372036854775808 from (by omega))) rfl rfl fun a100 h100 => ?_; clear h88
   refine wms 1 h100 rfl fun a101 h101 => ?_; clear h100
   refine wpList_nil ?_
   refine x_again ⟨_, ?_, i + 1, ou, ?_, ?_, ?_, ?_, h101.nrm ⟨rfl, rfl, rfl, rfl, rfl, rfl, rfl, rfl, rfl, rfl, rfl, trivial⟩ [1, 2, 3, 4, 5, 6, 7, 8, 9, 10] (by decide) ⟨rfl, rfl, rfl, rfl, rfl, rfl, rfl, rfl, rfl, rfl, trivial⟩, rfl⟩
   · rw [hm56]; first | omega | (simp only [lens9]; omega)
   · omega
   · first | simpa using hol | exact hol
   · intro j hj; rcases Nat.lt_or_ge j i with h | h; (first | (rw [nth_set, if_neg (by omega)]; exact hdone j h) | exact hdone j h); obtain rfl : j = i := (by omega); have hr := hrest j (by omega); (try rw [nth_set, if_pos ⟨rfl, by omega⟩]); rw [hr]; unfold straightIns; (repeat' split) <;> first | (exfalso; omega) | rfl
   · intro j hj; first | (rw [nth_set, if_neg (by omega)]; exact hrest j (by omega)) | exact hrest j (by omega)
  have hp60 : ¬ (i < ((nth code.l t).l).length) := of_decide_eq_false hb60
  refine wp_exit ?_
  refine hK50 _ _ ?_
  have hto : ou = toL (nth code.l t).l := eq_toL _ _ hol (fun j hj => hdone j (by omega))
  have h102 : St 73 (fun _ => False) W a58 w56 [(2, .pointer (some ⟨b4, 0, none⟩)), (3, .pointer (some ⟨b5, 0, none⟩)), (5, .pointer (some ⟨b18, 0, none⟩)), (7, (nth code.l t).v), (8, s48.v), (25, code.v), (26, .int .i64 ((code.l.length : Nat) : Int)), (27, .int .i64 ((t : Nat) : Int)), (33, (nth code.l t).v), (34, .int .i64 ((((nth code.l t).l).length : Nat) : Int)), (35, .int .i64 ((i : Nat) : Int)), (36, .bool (decide (i < ((nth code.l t).l).length)))] [.own 32 (⟨s48.v, ou⟩ : Ls Ins), .own 3 (⟨s23.v, words.l⟩ : Ls Int), .blk b18 25 [vq, s23.v, .int .i64 locks, .int .i64 regs], .blk b10 28 [.int .i64 ((checkG (pgOf code words locks regs)).code), .int .i64 ((checkG (pgOf code words locks regs)).thread), .int .i64 ((checkG (pgOf code words locks regs)).at_)], .blk b5 28 [.int .i64 0, .int .i64 0, .int .i64 0], .blk b4 25 [(.slice none 0 0), (.slice none 0 0), .int .i64 0, .int .i64 0], .blk b3 25 [code.v, words.v, .int .i64 locks, .int .i64 regs], .at_ code, .at_ words, .deep 33 (⟨vq, qs⟩ : Ls (Ls Ins))] := h58.nrm ⟨rfl, rfl, rfl, rfl, rfl, rfl, rfl, rfl, rfl, rfl, rfl, rfl, trivial⟩ [0, 1, 2, 3, 4, 5, 6, 7, 8, 9] (by decide) ⟨rfl, rfl, rfl, rfl, rfl, rfl, rfl, rfl, rfl, rfl, trivial⟩
  clear h58
  refine x_any (fun S a w => (S 3 = false ∧ S 4 = false ∧ S 5 = false ∧ S 7 = false ∧ FrI 73 S [(2, .pointer (some ⟨b4, 0, none⟩)), (3, .pointer (some ⟨b5, 0, none⟩)), (5, .pointer (some ⟨b18, 0, none⟩)), (7, (nth code.l t).v), (8, s48.v), (25, code.v), (26, .int .i64 ((code.l.length : Nat) : Int)), (27, .int .i64 ((t : Nat) : Int)), (33, (nth code.l t).v), (34, .int .i64 ((((nth code.l t).l).length : Nat) : Int)), (35, .int .i64 ((i : Nat) : Int)), (36, .bool (decide (i < ((nth code.l t).l).length)))] [(0, 63, .pointer (some ⟨b18, 0, none⟩)), (1, 64, vq), (2, 65, s48.v)] a ∧ Sh (fun _ => False) W w [.own 32 (⟨s48.v, ou⟩ : Ls Ins), .own 3 (⟨s23.v, words.l⟩ : Ls Int), .blk b18 25 [vq, s23.v, .int .i64 locks, .int .i64 regs], .blk b10 28 [.int .i64 ((checkG (pgOf code words locks regs)).code), .int .i64 ((checkG (pgOf code words locks regs)).thread), .int .i64 ((checkG (pgOf code words locks regs)).at_)], .blk b5 28 [.int .i64 0, .int .i64 0, .int .i64 0], .blk b4 25 [(.slice none 0 0), (.slice none 0 0), .int .i64 0, .int .i64 0], .blk b3 25 [code.v, words.v, .int .i64 locks, .int .i64 regs], .at_ code, .at_ words, .deep 33 (⟨vq, qs⟩ : Ls (Ls Ins))]) ∨ (S 3 = true ∧ S 4 = false ∧ S 5 = false ∧ S 7 = false ∧ ∃ (s7003 : Ls Ins), (s7003.l = movedL becS ou) ∧ FrI 73 S [(2, .pointer (some ⟨b4, 0, none⟩)), (3, .pointer (some ⟨b5, 0, none⟩)), (5, .pointer (some ⟨b18, 0, none⟩)), (7, (nth code.l t).v), (8, s48.v), (25, code.v), (26, .int .i64 ((code.l.length : Nat) : Int)), (27, .int .i64 ((t : Nat) : Int)), (33, (nth code.l t).v), (34, .int .i64 ((((nth code.l t).l).length : Nat) : Int)), (35, .int .i64 ((i : Nat) : Int)), (36, .bool (decide (i < ((nth code.l t).l).length)))] [(0, 63, .pointer (some ⟨b18, 0, none⟩)), (1, 64, vq), (2, 65, s48.v), (3, 66, s7003.v)] a ∧ Sh (fun _ => False) W w [.own 32 s7003, .own 32 (⟨s48.v, ou⟩ : Ls Ins), .own 3 (⟨s23.v, words.l⟩ : Ls Int), .blk b18 25 [vq, s23.v, .int .i64 locks, .int .i64 regs], .blk b10 28 [.int .i64 ((checkG (pgOf code words locks regs)).code), .int .i64 ((checkG (pgOf code words locks regs)).thread), .int .i64 ((checkG (pgOf code words locks regs)).at_)], .blk b5 28 [.int .i64 0, .int .i64 0, .int .i64 0], .blk b4 25 [(.slice none 0 0), (.slice none 0 0), .int .i64 0, .int .i64 0], .blk b3 25 [code.v, words.v, .int .i64 locks, .int .i64 regs], .at_ code, .at_ words, .deep 33 (⟨vq, qs⟩ : Ls (Ls Ins))]) ∨ (S 3 = true ∧ S 4 = true ∧ S 5 = false ∧ S 7 = false ∧ ∃ (s7003 : Ls Ins) (v7004 : Value), (s7003.l = movedL becS ou) ∧ FrI 73 S [(2, .pointer (some ⟨b4, 0, none⟩)), (3, .pointer (some ⟨b5, 0, none⟩)), (5, .pointer (some ⟨b18, 0, none⟩)), (7, (nth code.l t).v), (8, s48.v), (25, code.v), (26, .int .i64 ((code.l.length : Nat) : Int)), (27, .int .i64 ((t : Nat) : Int)), (33, (nth code.l t).v), (34, .int .i64 ((((nth code.l t).l).length : Nat) : Int)), (35, .int .i64 ((i : Nat) : Int)), (36, .bool (decide (i < ((nth code.l t).l).length)))] [(0, 63, .pointer (some ⟨b18, 0, none⟩)), (1, 64, vq), (2, 65, s48.v), (3, 66, s7003.v), (4, 67, v7004)] a ∧ Sh (fun _ => False) W w [.deep 33 (⟨v7004, [s7003]⟩ : Ls (Ls Ins)), .own 32 (⟨s48.v, ou⟩ : Ls Ins), .own 3 (⟨s23.v, words.l⟩ : Ls Int), .blk b18 25 [vq, s23.v, .int .i64 locks, .int .i64 regs], .blk b10 28 [.int .i64 ((checkG (pgOf code words locks regs)).code), .int .i64 ((checkG (pgOf code words locks regs)).thread), .int .i64 ((checkG (pgOf code words locks regs)).at_)], .blk b5 28 [.int .i64 0, .int .i64 0, .int .i64 0], .blk b4 25 [(.slice none 0 0), (.slice none 0 0), .int .i64 0, .int .i64 0], .blk b3 25 [code.v, words.v, .int .i64 locks, .int .i64 regs], .at_ code, .at_ words, .deep 33 (⟨vq, qs⟩ : Ls (Ls Ins))]) ∨ (S 3 = true ∧ S 4 = true ∧ S 5 = true ∧ S 7 = false ∧ ∃ (s7003 : Ls Ins) (v7004 : Value) (v7005 : Value), (s7003.l = movedL becS ou) ∧ FrI 73 S [(2, .pointer (some ⟨b4, 0, none⟩)), (3, .pointer (some ⟨b5, 0, none⟩)), (5, .pointer (some ⟨b18, 0, none⟩)), (7, (nth code.l t).v), (8, s48.v), (25, code.v), (26, .int .i64 ((code.l.length : Nat) : Int)), (27, .int .i64 ((t : Nat) : Int)), (33, (nth code.l t).v), (34, .int .i64 ((((nth code.l t).l).length : Nat) : Int)), (35, .int .i64 ((i : Nat) : Int)), (36, .bool (decide (i < ((nth code.l t).l).length)))] [(0, 63, .pointer (some ⟨b18, 0, none⟩)), (1, 64, vq), (2, 65, s48.v), (3, 66, s7003.v), (4, 67, v7004), (5, 68, v7005), (6, 69, .pointer (some ⟨b18, 0, none⟩))] a ∧ Sh (fun _ => False) W w [.deep 33 (⟨v7005, qs ++ ([s7003])⟩ : Ls (Ls Ins)), .own 32 (⟨s48.v, ou⟩ : Ls Ins), .own 3 (⟨s23.v, words.l⟩ : Ls Int), .blk b18 25 [vq, s23.v, .int .i64 locks, .int .i64 regs], .blk b10 28 [.int .i64 ((checkG (pgOf code words locks regs)).code), .int .i64 ((checkG (pgOf code words locks regs)).thread), .int .i64 ((checkG (pgOf code words locks regs)).at_)], .blk b5 28 [.int .i64 0, .int .i64 0, .int .i64 0], .blk b4 25 [(.slice none 0 0), (.slice none 0 0), .int .i64 0, .int .i64 0], .blk b3 25 [code.v, words.v, .int .i64 locks, .int .i64 regs], .at_ code, .at_ words]) ∨ (S 3 = true ∧ S 4 = true ∧ S 5 = true ∧ S 7 = true ∧ ∃ (s7003 : Ls Ins) (v7004 : Value) (v7005 : Value), (s7003.l = movedL becS ou) ∧ FrI 73 S [(2, .pointer (some ⟨b4, 0, none⟩)), (3, .pointer (some ⟨b5, 0, none⟩)), (5, .pointer (some ⟨b18, 0, none⟩)), (7, (nth code.l t).v), (8, s48.v), (25, code.v), (26, .int .i64 ((code.l.length : Nat) : Int)), (27, .int .i64 ((t : Nat) : Int)), (33, (nth code.l t).v), (34, .int .i64 ((((nth code.l t).l).length : Nat) : Int)), (35, .int .i64 ((i : Nat) : Int)), (36, .bool (decide (i < ((nth code.l t).l).length)))] [(0, 63, .pointer (some ⟨b18, 0, none⟩)), (1, 64, vq), (2, 65, s48.v), (3, 66, s7003.v), (4, 67, v7004), (5, 68, v7005), (6, 69, .pointer (some ⟨b18, 0, none⟩))] a ∧ Sh (fun _ => False) W w [.deep 33 (⟨v7005, qs ++ ([s7003])⟩ : Ls (Ls Ins)), .own 32 (⟨s48.v, ou⟩ : Ls Ins), .own 3 (⟨s23.v, words.l⟩ : Ls Int), .blk b18 25 [v7005, s23.v, .int .i64 locks, .int .i64 regs], .blk b10 28 [.int .i64 ((checkG (pgOf code words locks regs)).code), .int .i64 ((checkG (pgOf code words locks regs)).thread), .int .i64 ((checkG (pgOf code words locks regs)).at_)], .blk b5 28 [.int .i64 0, .int .i64 0, .int .i64 0], .blk b4 25 [(.slice none 0 0), (.slice none 0 0), .int .i64 0, .int .i64 0], .blk b3 25 [code.v, words.v, .int .i64 locks, .int .i64 regs], .at_ code, .at_ words])) (by kernel_rfl) (by kernel_rfl) (Or.inl (⟨rfl, rfl, rfl, rfl, FrI.start h102.fr, h102.sh.drew⟩)) ?_ ?_
  ·intro S i o ho hSi hcl hdep a w hI
   clear h102
   rcases i with _ | _ | _ | _ | _ | _ | _ | _ | i
   ·
    obtain rfl : _ = o := Option.some.inj ho
    rcases hI with ⟨hw3, hw4, hw5, hw7, hfr, hsh⟩ | ⟨hw3, hw4, hw5, hw7, s7003, hl7003, hfr, hsh⟩ | ⟨hw3, hw4, hw5, hw7, s7003, v7004, hl7003, hfr, hsh⟩ | ⟨hw3, hw4, hw5, hw7, s7003, v7004, v7005, hl7003, hfr, hsh⟩ | ⟨hw3, hw4, hw5, hw7, s7003, v7004, v7005, hl7003, hfr, hsh⟩
    ·
     exact sq hfr hfr.fr0 hsh (r_fieldB (r := 0) fl_25_0 rfl rfl rfl) 0 rfl rfl rfl rfl rfl rfl fun a hg => Or.inl (⟨un rfl hw3, un rfl hw4, un rfl hw5, un rfl hw7, hg, hsh⟩)
    ·
     exact sq hfr hfr.fr0 hsh (r_fieldB (r := 0) fl_25_0 rfl rfl rfl) 0 rfl rfl rfl rfl rfl rfl fun a hg => Or.inr (Or.inl (⟨un rfl hw3, un rfl hw4, un rfl hw5, un rfl hw7, s7003, hl7003, hg, hsh⟩))
    ·
     exact sq hfr hfr.fr0 hsh (r_fieldB (r := 0) fl_25_0 rfl rfl rfl) 0 rfl rfl rfl rfl rfl rfl fun a hg => Or.inr (Or.inr (Or.inl (⟨un rfl hw3, un rfl hw4, un rfl hw5, un rfl hw7, s7003, v7004, hl7003, hg, hsh⟩)))
    ·
     exact no_way (cA hcl 5 0 rfl hw5) hSi
    ·
     exact no_way (cA hcl 5 0 rfl hw5) hSi
   ·
    obtain rfl : _ = o := Option.some.inj ho
    have hd0 : S 0 = true := depAt hdep 0 rfl rfl
    rcases hI with ⟨hw3, hw4, hw5, hw7, hfr, hsh⟩ | ⟨hw3, hw4, hw5, hw7, s7003, hl7003, hfr, hsh⟩ | ⟨hw3, hw4, hw5, hw7, s7003, v7004, hl7003, hfr, hsh⟩ | ⟨hw3, hw4, hw5, hw7, s7003, v7004, v7005, hl7003, hfr, hsh⟩ | ⟨hw3, hw4, hw5, hw7, s7003, v7004, v7005, hl7003, hfr, hsh⟩
    ·
     exact sq hfr (Fr.cons hfr.fr0 (hfr.at_ 0 0 63 _ rfl hd0)) hsh (r_ldb (i := 2) ti_22 rfl rfl rfl rfl) 1 rfl rfl rfl rfl rfl rfl fun a hg => Or.inl (⟨un rfl hw3, un rfl hw4, un rfl hw5, un rfl hw7, hg, hsh⟩)
    ·
     exact sq hfr (Fr.cons hfr.fr0 (hfr.at_ 0 0 63 _ rfl hd0)) hsh (r_ldb (i := 3) ti_22 rfl rfl rfl rfl) 1 rfl rfl rfl rfl rfl rfl fun a hg => Or.inr (Or.inl (⟨un rfl hw3, un rfl hw4, un rfl hw5, un rfl hw7, s7003, hl7003, hg, hsh⟩))
    ·
     exact sq hfr (Fr.cons hfr.fr0 (hfr.at_ 0 0 63 _ rfl hd0)) hsh (r_ldb (i := 3) ti_22 rfl rfl rfl rfl) 1 rfl rfl rfl rfl rfl rfl fun a hg => Or.inr (Or.inr (Or.inl (⟨un rfl hw3, un rfl hw4, un rfl hw5, un rfl hw7, s7003, v7004, hl7003, hg, hsh⟩)))
    ·
     exact no_way (cA hcl 5 1 rfl hw5) hSi
    ·
     exact no_way (cA hcl 5 1 rfl hw5) hSi
   ·
    obtain rfl : _ = o := Option.some.inj ho
    rcases hI with ⟨hw3, hw4, hw5, hw7, hfr, hsh⟩ | ⟨hw3, hw4, hw5, hw7, s7003, hl7003, hfr, hsh⟩ | ⟨hw3, hw4, hw5, hw7, s7003, v7004, hl7003, hfr, hsh⟩ | ⟨hw3, hw4, hw5, hw7, s7003, v7004, v7005, hl7003, hfr, hsh⟩ | ⟨hw3, hw4, hw5, hw7, s7003, v7004, v7005, hl7003, hfr, hsh⟩
    ·
     exact sq hfr hfr.fr0 hsh (r_move rfl rfl) 2 rfl rfl rfl rfl rfl rfl fun a hg => Or.inl (⟨un rfl hw3, un rfl hw4, un rfl hw5, un rfl hw7, hg, hsh⟩)
    ·
     exact no_way (cA hcl 3 2 rfl hw3) hSi
    ·
     exact no_way (cA hcl 3 2 rfl hw3) hSi
    ·
     exact no_way (cA hcl 3 2 rfl hw3) hSi
    ·
     exact no_way (cA hcl 3 2 rfl hw3) hSi
   ·
    obtain rfl : _ = o := Option.some.inj ho
    have hd2 : S 2 = true := depAt hdep 0 rfl rfl
    rcases hI with ⟨hw3, hw4, hw5, hw7, hfr, hsh⟩ | ⟨hw3, hw4, hw5, hw7, s7003, hl7003, hfr, hsh⟩ | ⟨hw3, hw4, hw5, hw7, s7003, v7004, hl7003, hfr, hsh⟩ | ⟨hw3, hw4, hw5, hw7, s7003, v7004, v7005, hl7003, hfr, hsh⟩ | ⟨hw3, hw4, hw5, hw7, s7003, v7004, v7005, hl7003, hfr, hsh⟩
    ·
     have hs := St.mk (Fr.cons hfr.fr0 (hfr.at_ 2 2 65 _ rfl hd2)) hsh
     refine step_ex (x_call hs bd_50 rfl rfl rfl rfl rfl (moved_c (⟨s48.v, ou⟩ : Ls Ins) 51 [] [] becS Asn.tt _ (hs.sh.own 0 rfl) (show ou.length ≤ 5000 from (by omega)) bd_51 (fun _ h => h) trivial (fun w i _ (hi : i < ou.length) => straight1_c i _ w (by omega)) (show ∀ i, i < ou.length → (becS i (nth ou i)).length ≤ 8 from fun i hi => by have := becS_len i (nth ou i); omega) (by rw [hto]; exact becS_ok _ (toL_ok _ hjt)))) (wanted_none rfl _) ?_
     rintro a113 w113 ⟨_, ⟨s113, rfl, hl113, hs113⟩, hf113⟩ ⟨v0, ht113⟩
     have h113 := (⟨hf113, hs.sh.call hs113 (by intro A hA b hb; first | (simp at hA; done) | (simp at hA; subst hA; first | exact Flat.noRd hb | exact (hb : False).elim) | (simp at hA; rcases hA with rfl | rfl <;> first | exact Flat.noRd hb | exact (hb : False).elim))⟩ : St 73 (fun _ => False) W a113 w113 _ _)
     clear hf113 hs113
     have hm113 : FrI 73 S [(2, .pointer (some ⟨b4, 0, none⟩)), (3, .pointer (some ⟨b5, 0, none⟩)), (5, .pointer (some ⟨b18, 0, none⟩)), (7, (nth code.l t).v), (8, s48.v), (25, code.v), (26, .int .i64 ((code.l.length : Nat) : Int)), (27, .int .i64 ((t : Nat) : Int)), (33, (nth code.l t).v), (34, .int .i64 ((((nth code.l t).l).length : Nat) : Int)), (35, .int .i64 ((i : Nat) : Int)), (36, .bool (decide (i < ((nth code.l t).l).length)))] [(0, 63, .pointer (some ⟨b18, 0, none⟩)), (1, 64, vq), (2, 65, s48.v), (3, 66, s113.v)] a := hfr.more (by
      intro k j d v hk hS
      rcases k with _ | _ | _ | _ | k
      ·obtain ⟨rfl, rfl, rfl⟩ : _ = j ∧ _ = d ∧ _ = v := by simpa using hk
       exact hfr.at_ 0 _ _ _ rfl hS
      ·obtain ⟨rfl, rfl, rfl⟩ : _ = j ∧ _ = d ∧ _ = v := by simpa using hk
       exact hfr.at_ 1 _ _ _ rfl hS
      ·obtain ⟨rfl, rfl, rfl⟩ : _ = j ∧ _ = d ∧ _ = v := by simpa using hk
       exact hfr.at_ 2 _ _ _ rfl hS
      ·obtain ⟨rfl, rfl, rfl⟩ : _ = j ∧ _ = d ∧ _ = v := by simpa using hk
       exact no_way hS hSi
      · simp at hk)
     exact Or.inr (Or.inl (⟨upd_self _ _, un rfl hw4, un rfl hw5, un rfl hw7, s113, hl113, hm113.step ht113 h113.fr.defers (h113.fr.at_ 66 _ rfl) 3 rfl rfl rfl rfl, (h113.sh.sel (L' := [.own 32 s113, .own 32 (⟨s48.v, ou⟩ : Ls Ins), .own 3 (⟨s23.v, words.l⟩ : Ls Int), .blk b18 25 [vq, s23.v, .int .i64 locks, .int .i64 regs], .blk b10 28 [.int .i64 ((checkG (pgOf code words locks regs)).code), .int .i64 ((checkG (pgOf code words locks regs)).thread), .int .i64 ((checkG (pgOf code words locks regs)).at_)], .blk b5 28 [.int .i64 0, .int .i64 0, .int .i64 0], .blk b4 25 [(.slice none 0 0), (.slice none 0 0), .int .i64 0, .int .i64 0], .blk b3 25 [code.v, words.v, .int .i64 locks, .int .i64 regs], .at_ code, .at_ words, .deep 33 (⟨vq, qs⟩ : Ls (Ls Ins))]) [0, 1, 2, 3, 4, 5, 6, 7, 8, 9, 10] (by decide) ⟨rfl, rfl, rfl, rfl, rfl, rfl, rfl, rfl, rfl, rfl, rfl, trivial⟩)⟩))
    ·
     exact no_way hw3 hSi
    ·
     exact no_way hw3 hSi
    ·
     exact no_way hw3 hSi
    ·
     exact no_way hw3 hSi
   ·
    obtain rfl : _ = o := Option.some.inj ho
    have hd3 : S 3 = true := depAt hdep 0 rfl rfl
    rcases hI with ⟨hw3, hw4, hw5, hw7, hfr, hsh⟩ | ⟨hw3, hw4, hw5, hw7, s7003, hl7003, hfr, hsh⟩ | ⟨hw3, hw4, hw5, hw7, s7003, v7004, hl7003, hfr, hsh⟩ | ⟨hw3, hw4, hw5, hw7, s7003, v7004, v7005, hl7003, hfr, hsh⟩ | ⟨hw3, hw4, hw5, hw7, s7003, v7004, v7005, hl7003, hfr, hsh⟩
    ·
     exact no_way hd3 hw3
    ·
     have hs := St.mk (Fr.cons hfr.fr0 (hfr.at_ 3 3 66 _ rfl hd3)) hsh
     refine step_ex (x_litD (E := 0) (x := s7003) hs sl_22 ti_33 rfl rfl rfl ((hs.sh.own 0 rfl)) (fun b hb => (own_on (hs.sh.ok _ (List.mem_of_getElem? (i := 0) rfl)) hb).elim (fun h => h) (fun h => Flat.noRd h)) (fun b hb => Flat.noRd hb) rfl rfl) (wanted_none rfl _) ?_
     rintro a114 w114 ⟨v114, h114⟩ ⟨v0, ht114⟩
     have hm114 : FrI 73 S [(2, .pointer (some ⟨b4, 0, none⟩)), (3, .pointer (some ⟨b5, 0, none⟩)), (5, .pointer (some ⟨b18, 0, none⟩)), (7, (nth code.l t).v), (8, s48.v), (25, code.v), (26, .int .i64 ((code.l.length : Nat) : Int)), (27, .int .i64 ((t : Nat) : Int)), (33, (nth code.l t).v), (34, .int .i64 ((((nth code.l t).l).length : Nat) : Int)), (35, .int .i64 ((i : Nat) : Int)), (36, .bool (decide (i < ((nth code.l t).l).length)))] [(0, 63, .pointer (some ⟨b18, 0, none⟩)), (1, 64, vq), (2, 65, s48.v), (3, 66, s7003.v), (4, 67, v114)] a := hfr.more (by
      intro k j d v hk hS
      rcases k with _ | _ | _ | _ | _ | k
      ·obtain ⟨rfl, rfl, rfl⟩ : _ = j ∧ _ = d ∧ _ = v := by simpa using hk
       exact hfr.at_ 0 _ _ _ rfl hS
      ·obtain ⟨rfl, rfl, rfl⟩ : _ = j ∧ _ = d ∧ _ = v := by simpa using hk
       exact hfr.at_ 1 _ _ _ rfl hS
      ·obtain ⟨rfl, rfl, rfl⟩ : _ = j ∧ _ = d ∧ _ = v := by simpa using hk
       exact hfr.at_ 2 _ _ _ rfl hS
      ·obtain ⟨rfl, rfl, rfl⟩ : _ = j ∧ _ = d ∧ _ = v := by simpa using hk
       exact hfr.at_ 3 _ _ _ rfl hS
      ·obtain ⟨rfl, rfl, rfl⟩ : _ = j ∧ _ = d ∧ _ = v := by simpa using hk
       exact no_way hS hSi
      · simp at hk)
     exact Or.inr (Or.inr (Or.inl (⟨un rfl hw3, upd_self _ _, un rfl hw5, un rfl hw7, s7003, v114, hl7003, hm114.step ht114 h114.fr.defers (h114.fr.at_ 67 _ rfl) 4 rfl rfl rfl rfl, (h114.sh.sel (L' := [.deep 33 (⟨v114, [s7003]⟩ : Ls (Ls Ins)), .own 32 (⟨s48.v, ou⟩ : Ls Ins), .own 3 (⟨s23.v, words.l⟩ : Ls Int), .blk b18 25 [vq, s23.v, .int .i64 locks, .int .i64 regs], .blk b10 28 [.int .i64 ((checkG (pgOf code words locks regs)).code), .int .i64 ((checkG (pgOf code words locks regs)).thread), .int .i64 ((checkG (pgOf code words locks regs)).at_)], .blk b5 28 [.int .i64 0, .int .i64 0, .int .i64 0], .blk b4 25 [(.slice none 0 0), (.slice none 0 0), .int .i64 0, .int .i64 0], .blk b3 25 [code.v, words.v, .int .i64 locks, .int .i64 regs], .at_ code, .at_ words, .deep 33 (⟨vq, qs⟩ : Ls (Ls Ins))]) [0, 1, 2, 3, 4, 5, 6, 7, 8, 9, 10] (by decide) ⟨rfl, rfl, rfl, rfl, rfl, rfl, rfl, rfl, rfl, rfl, rfl, trivial⟩)⟩)))
    ·
     exact no_way hw4 hSi
    ·
     exact no_way hw4 hSi
    ·
     exact no_way hw4 hSi
   ·
    obtain rfl : _ = o := Option.some.inj ho
    have hd1 : S 1 = true := depAt hdep 0 rfl rfl
    have hd4 : S 4 = true := depAt hdep 1 rfl rfl
    have hd3 : S 3 = true := depAt hdep 2 rfl rfl
    rcases hI with ⟨hw3, hw4, hw5, hw7, hfr, hsh⟩ | ⟨hw3, hw4, hw5, hw7, s7003, hl7003, hfr, hsh⟩ | ⟨hw3, hw4, hw5, hw7, s7003, v7004, hl7003, hfr, hsh⟩ | ⟨hw3, hw4, hw5, hw7, s7003, v7004, v7005, hl7003, hfr, hsh⟩ | ⟨hw3, hw4, hw5, hw7, s7003, v7004, v7005, hl7003, hfr, hsh⟩
    ·
     exact no_way hd3 hw3
    ·
     exact no_way hd4 hw4
    ·
     have hs := St.mk (Fr.cons (Fr.cons hfr.fr0 (hfr.at_ 1 1 64 _ rfl hd1)) (hfr.at_ 4 4 67 _ rfl hd4)) hsh
     have h115 := hs.sel (L' := [.deep 33 (⟨vq, qs⟩ : Ls (Ls Ins)), .deep 33 (⟨v7004, [s7003]⟩ : Ls (Ls Ins)), .own 32 (⟨s48.v, ou⟩ : Ls Ins), .own 3 (⟨s23.v, words.l⟩ : Ls Int), .blk b18 25 [vq, s23.v, .int .i64 locks, .int .i64 regs], .blk b10 28 [.int .i64 ((checkG (pgOf code words locks regs)).code), .int .i64 ((checkG (pgOf code words locks regs)).thread), .int .i64 ((checkG (pgOf code words locks regs)).at_)], .blk b5 28 [.int .i64 0, .int .i64 0, .int .i64 0], .blk b4 25 [(.slice none 0 0), (.slice none 0 0), .int .i64 0, .int .i64 0], .blk b3 25 [code.v, words.v, .int .i64 locks, .int .i64 regs], .at_ code, .at_ words]) [10, 0, 1, 2, 3, 4, 5, 6, 7, 8, 9] (by decide) ⟨rfl, rfl, rfl, rfl, rfl, rfl, rfl, rfl, rfl, rfl, rfl, trivial⟩
     refine step_ex (x_appD (s := (⟨vq, qs⟩ : Ls (Ls Ins))) (m := (⟨v7004, [s7003]⟩ : Ls (Ls Ins))) h115 sl_22 ti_33 rfl rfl rfl rfl rfl rfl rfl inferInstance (show (qs.length + ([s7003]).length) * 24 ≤ 140737488355328 ∧ qs.length + ([s7003]).length ≤ 140737488355328 from (by first | omega | (simp only [lens9]; omega))) rfl rfl) (wanted_none rfl _) ?_
     rintro a116 w116 ⟨v116, h116⟩ ⟨v0, ht116⟩
     have hm116 : FrI 73 S [(2, .pointer (some ⟨b4, 0, none⟩)), (3, .pointer (some ⟨b5, 0, none⟩)), (5, .pointer (some ⟨b18, 0, none⟩)), (7, (nth code.l t).v), (8, s48.v), (25, code.v), (26, .int .i64 ((code.l.length : Nat) : Int)), (27, .int .i64 ((t : Nat) : Int)), (33, (nth code.l t).v), (34, .int .i64 ((((nth code.l t).l).length : Nat) : Int)), (35, .int .i64 ((i : Nat) : Int)), (36, .bool (decide (i < ((nth code.l t).l).length)))] [(0, 63, .pointer (some ⟨b18, 0, none⟩)), (1, 64, vq), (2, 65, s48.v), (3, 66, s7003.v), (4, 67, v7004), (5, 68, v116), (6, 69, .pointer (some ⟨b18, 0, none⟩))] a := hfr.more (by
      intro k j d v hk hS
      rcases k with _ | _ | _ | _ | _ | _ | _ | k
      ·obtain ⟨rfl, rfl, rfl⟩ : _ = j ∧ _ = d ∧ _ = v := by simpa using hk
       exact hfr.at_ 0 _ _ _ rfl hS
      ·obtain ⟨rfl, rfl, rfl⟩ : _ = j ∧ _ = d ∧ _ = v := by simpa using hk
       exact hfr.at_ 1 _ _ _ rfl hS
      ·obtain ⟨rfl, rfl, rfl⟩ : _ = j ∧ _ = d ∧ _ = v := by simpa using hk
       exact hfr.at_ 2 _ _ _ rfl hS
      ·obtain ⟨rfl, rfl, rfl⟩ : _ = j ∧ _ = d ∧ _ = v := by simpa using hk
       exact hfr.at_ 3 _ _ _ rfl hS
      ·obtain ⟨rfl, rfl, rfl⟩ : _ = j ∧ _ = d ∧ _ = v := by simpa using hk
       exact hfr.at_ 4 _ _ _ rfl hS
      ·obtain ⟨rfl, rfl, rfl⟩ : _ = j ∧ _ = d ∧ _ = v := by simpa using hk
       exact no_way hS hSi
      ·obtain ⟨rfl, rfl, rfl⟩ : _ = j ∧ _ = d ∧ _ = v := by simpa using hk
       exact no_way (cA hcl 6 5 rfl hS) hSi
      · simp at hk)
     exact Or.inr (Or.inr (Or.inr (Or.inl (⟨un rfl hw3, un rfl hw4, upd_self _ _, un rfl hw7, s7003, v7004, v116, hl7003, hm116.step ht116 h116.fr.defers (h116.fr.at_ 68 _ rfl) 5 rfl rfl rfl rfl, (h116.sh.sel (L' := [.deep 33 (⟨v116, qs ++ ([s7003])⟩ : Ls (Ls Ins)), .own 32 (⟨s48.v, ou⟩ : Ls Ins), .own 3 (⟨s23.v, words.l⟩ : Ls Int), .blk b18 25 [vq, s23.v, .int .i64 locks, .int .i64 regs], .blk b10 28 [.int .i64 ((checkG (pgOf code words locks regs)).code), .int .i64 ((checkG (pgOf code words locks regs)).thread), .int .i64 ((checkG (pgOf code words locks regs)).at_)], .blk b5 28 [.int .i64 0, .int .i64 0, .int .i64 0], .blk b4 25 [(.slice none 0 0), (.slice none 0 0), .int .i64 0, .int .i64 0], .blk b3 25 [code.v, words.v, .int .i64 locks, .int .i64 regs], .at_ code, .at_ words]) [0, 1, 2, 3, 4, 5, 6, 7, 8, 9] (by decide) ⟨rfl, rfl, rfl, rfl, rfl, rfl, rfl, rfl, rfl, rfl, trivial⟩)⟩))))
    ·
     exact no_way hw5 hSi
    ·
     exact no_way hw5 hSi
   ·
    obtain rfl : _ = o := Option.some.inj ho
    have hd3 : S 3 = true := depAt hdep 3 rfl rfl
    have hd4 : S 4 = true := depAt hdep 4 rfl rfl
    have hd5 : S 5 = true := depAt hdep 5 rfl rfl
    rcases hI with ⟨hw3, hw4, hw5, hw7, hfr, hsh⟩ | ⟨hw3, hw4, hw5, hw7, s7003, hl7003, hfr, hsh⟩ | ⟨hw3, hw4, hw5, hw7, s7003, v7004, hl7003, hfr, hsh⟩ | ⟨hw3, hw4, hw5, hw7, s7003, v7004, v7005, hl7003, hfr, hsh⟩ | ⟨hw3, hw4, hw5, hw7, s7003, v7004, v7005, hl7003, hfr, hsh⟩
    ·
     exact no_way hd3 hw3
    ·
     exact no_way hd4 hw4
    ·
     exact no_way hd5 hw5
    ·
     exact sq hfr hfr.fr0 hsh (r_fieldB (r := 0) fl_25_0 rfl rfl rfl) 6 rfl rfl rfl rfl rfl rfl fun a hg => Or.inr (Or.inr (Or.inr (Or.inl (⟨un rfl hw3, un rfl hw4, un rfl hw5, un rfl hw7, s7003, v7004, v7005, hl7003, hg, hsh⟩))))
    ·
     exact no_way (cA hcl 7 6 rfl hw7) hSi
   ·
    obtain rfl : _ = o := Option.some.inj ho
    have hd6 : S 6 = true := depAt hdep 0 rfl rfl
    have hd5 : S 5 = true := depAt hdep 1 rfl rfl
    have hd3 : S 3 = true := depAt hdep 6 rfl rfl
    have hd4 : S 4 = true := depAt hdep 7 rfl rfl
    rcases hI with ⟨hw3, hw4, hw5, hw7, hfr, hsh⟩ | ⟨hw3, hw4, hw5, hw7, s7003, hl7003, hfr, hsh⟩ | ⟨hw3, hw4, hw5, hw7, s7003, v7004, hl7003, hfr, hsh⟩ | ⟨hw3, hw4, hw5, hw7, s7003, v7004, v7005, hl7003, hfr, hsh⟩ | ⟨hw3, hw4, hw5, hw7, s7003, v7004, v7005, hl7003, hfr, hsh⟩
    ·
     exact no_way hd3 hw3
    ·
     exact no_way hd4 hw4
    ·
     exact no_way hd5 hw5
    ·
     have hs := St.mk (Fr.cons (Fr.cons hfr.fr0 (hfr.at_ 5 5 68 _ rfl hd5)) (hfr.at_ 6 6 69 _ rfl hd6)) hsh
     refine step_ex (x_stb (i := 3) (vs := [v7005]) (cs' := [v7005, s23.v, .int .i64 locks, .int .i64 regs]) hs ti_22 rfl rfl rfl rfl rfl (cells_oneL ((hs.sh.deep 0 rfl)).one) rfl (allOne_cons ((hs.sh.deep 0 rfl)).one allOne_nil) (Nat.le_of_ble_eq_true rfl) rfl) (wanted_none rfl _) ?_
     rintro a118 w118 h118 ⟨v0, ht118⟩
     have hm118 : FrI 73 S [(2, .pointer (some ⟨b4, 0, none⟩)), (3, .pointer (some ⟨b5, 0, none⟩)), (5, .pointer (some ⟨b18, 0, none⟩)), (7, (nth code.l t).v), (8, s48.v), (25, code.v), (26, .int .i64 ((code.l.length : Nat) : Int)), (27, .int .i64 ((t : Nat) : Int)), (33, (nth code.l t).v), (34, .int .i64 ((((nth code.l t).l).length : Nat) : Int)), (35, .int .i64 ((i : Nat) : Int)), (36, .bool (decide (i < ((nth code.l t).l).length)))] [(0, 63, .pointer (some ⟨b18, 0, none⟩)), (1, 64, vq), (2, 65, s48.v), (3, 66, s7003.v), (4, 67, v7004), (5, 68, v7005), (6, 69, .pointer (some ⟨b18, 0, none⟩))] a := hfr.more (by
      intro k j d v hk hS
      rcases k with _ | _ | _ | _ | _ | _ | _ | k
      ·obtain ⟨rfl, rfl, rfl⟩ : _ = j ∧ _ = d ∧ _ = v := by simpa using hk
       exact hfr.at_ 0 _ _ _ rfl hS
      ·obtain ⟨rfl, rfl, rfl⟩ : _ = j ∧ _ = d ∧ _ = v := by simpa using hk
       exact hfr.at_ 1 _ _ _ rfl hS
      ·obtain ⟨rfl, rfl, rfl⟩ : _ = j ∧ _ = d ∧ _ = v := by simpa using hk
       exact hfr.at_ 2 _ _ _ rfl hS
      ·obtain ⟨rfl, rfl, rfl⟩ : _ = j ∧ _ = d ∧ _ = v := by simpa using hk
       exact hfr.at_ 3 _ _ _ rfl hS
      ·obtain ⟨rfl, rfl, rfl⟩ : _ = j ∧ _ = d ∧ _ = v := by simpa using hk
       exact hfr.at_ 4 _ _ _ rfl hS
      ·obtain ⟨rfl, rfl, rfl⟩ : _ = j ∧ _ = d ∧ _ = v := by simpa using hk
       exact hfr.at_ 5 _ _ _ rfl hS
      ·obtain ⟨rfl, rfl, rfl⟩ : _ = j ∧ _ = d ∧ _ = v := by simpa using hk
       exact hfr.at_ 6 _ _ _ rfl hS
      · simp at hk)
     exact Or.inr (Or.inr (Or.inr (Or.inr (⟨un rfl hw3, un rfl hw4, un rfl hw5, upd_self _ _, s7003, v7004, v7005, hl7003, hm118.none ht118 h118.fr.defers rfl, (h118.sh.sel (L' := [.deep 33 (⟨v7005, qs ++ ([s7003])⟩ : Ls (Ls Ins)), .own 32 (⟨s48.v, ou⟩ : Ls Ins), .own 3 (⟨s23.v, words.l⟩ : Ls Int), .blk b18 25 [v7005, s23.v, .int .i64 locks, .int .i64 regs], .blk b10 28 [.int .i64 ((checkG (pgOf code words locks regs)).code), .int .i64 ((checkG (pgOf code words locks regs)).thread), .int .i64 ((checkG (pgOf code words locks regs)).at_)], .blk b5 28 [.int .i64 0, .int .i64 0, .int .i64 0], .blk b4 25 [(.slice none 0 0), (.slice none 0 0), .int .i64 0, .int .i64 0], .blk b3 25 [code.v, words.v, .int .i64 locks, .int .i64 regs], .at_ code, .at_ words]) [0, 1, 2, 3, 4, 5, 6, 7, 8, 9] (by decide) ⟨rfl, rfl, rfl, rfl, rfl, rfl, rfl, rfl, rfl, rfl, trivial⟩)⟩))))
    ·
     exact no_way hw7 hSi
   · simp at ho
  intro S hall a w hI
  clear h102
  rcases hI with ⟨hw3, hw4, hw5, hw7, hfr, hsh⟩ | ⟨hw3, hw4, hw5, hw7, s7003, hl7003, hfr, hsh⟩ | ⟨hw3, hw4, hw5, hw7, s7003, v7004, hl7003, hfr, hsh⟩ | ⟨hw3, hw4, hw5, hw7, s7003, v7004, v7005, hl7003, hfr, hsh⟩ | ⟨hw3, hw4, hw5, hw7, s7003, v7004, v7005, hl7003, hfr, hsh⟩
  · exact no_way (hall 3 (by decide)) hw3
  · exact no_way (hall 4 (by decide)) hw4
  · exact no_way (hall 5 (by decide)) hw5
  · exact no_way (hall 7 (by decide)) hw7
  have h119 : St 73 (fun _ => False) W a w _ [.deep 33 (⟨v7005, qs ++ ([s7003])⟩ : Ls (Ls Ins)), .own 32 (⟨s48.v, ou⟩ : Ls Ins), .own 3 (⟨s23.v, words.l⟩ : Ls Int), .blk b18 25 [v7005, s23.v, .int .i64 locks, .int .i64 regs], .blk b10 28 [.int .i64 ((checkG (pgOf code words locks regs)).code), .int .i64 ((checkG (pgOf code words locks regs)).thread), .int .i64 ((checkG (pgOf code words locks regs)).at_)], .blk b5 28 [.int .i64 0, .int .i64 0, .int .i64 0], .blk b4 25 [(.slice none 0 0), (.slice none 0 0), .int .i64 0, .int .i64 0], .blk b3 25 [code.v, words.v, .int .i64 locks, .int .i64 regs], .at_ code, .at_ words] := ⟨hfr.fr0, hsh⟩
  clear hall hfr hsh hw3 hw4 hw5 hw7
  refine hK41 _ _ ?_
  refine wp_region_lit ?_
  refine wv h119 (r_addN (p := t) (q := 1) rfl rfl rfl (show t + 1 < 9223372036854775808 from (by omega))) rfl rfl fun a120 h120 => ?_; clear h119
  refine wms 1 h120 rfl fun a121 h121 => ?_; clear h120
  refine wpList_nil ?_
  refine x_again ⟨_, ?_, t + 1, qs ++ ([s7003]), v7005, ?_, ?_, ?_, h121.nrm ⟨rfl, rfl, rfl, rfl, rfl, rfl, trivial⟩ [2, 3, 4, 5, 6, 7, 8, 9, 0] (by decide) ⟨rfl, rfl, rfl, rfl, rfl, rfl, rfl, rfl, rfl, trivial⟩, rfl⟩
  · rw [hm35]; first | omega | (simp only [lens9]; omega)
  · omega
  · rw [List.map_append, hqs, take_succ_nth _ _ (by omega)]; simp only [List.map_append, List.map_cons, List.map_nil]; congr 2; rw [straightL, ← hto]; assumption
  · simp [hql]
 have hp40 : ¬ (t < code.l.length) := of_decide_eq_false hb40
 refine wp_exit ?_
 refine hK28 _ _ ?_
 refine wp_seq_k fun K122 hK122 => wp_region_lit ?_
 refine wv h38 (r_ldbw (i := 1) (vs := [vq, s23.v, .int .i64 locks, .int .i64 regs]) ti_25 rfl rfl rfl rfl rfl) rfl rfl fun a123 h123 => ?_; clear h38
 refine wv h123 (r_build (cs := [.int .i64 0, .int .i64 0, .int .i64 0]) rfl rfl (by kernel_rfl)) rfl rfl fun a124 h124 => ?_; clear h123
 refine wl_ex (x_stb (i := 4) (vs := [vq, s23.v, .int .i64 locks, .int .i64 regs]) (cs' := [vq, s23.v, .int .i64 locks, .int .i64 regs]) h124 ti_25 rfl rfl rfl rfl rfl rfl rfl (allOne_cons ((h124.sh.deep 8 rfl)).one (allOne_cons ((h124.sh.own 0 rfl)).one (allOne_cons rfl (allOne_cons rfl allOne_nil)))) (Nat.le_of_ble_eq_true rfl) rfl) (wanted_none rfl _) ?_
 rintro a125 w125 h125
 clear h124
 refine wl_ex (x_stb (i := 3) (vs := [.int .i64 0, .int .i64 0, .int .i64 0]) (cs' := [.int .i64 0, .int .i64 0, .int .i64 0]) h125 ti_28 rfl rfl rfl rfl rfl rfl rfl (allOne_cons rfl (allOne_cons rfl (allOne_cons rfl allOne_nil))) (Nat.le_of_ble_eq_true rfl) rfl) (wanted_none rfl _) ?_
 rintro a126 w126 h126
 clear h125
 refine wpList_nil (hK122 _ _ ?_)
 refine wp_ret ?_
 try simp only [Exit.then, Exit.inBlock]
 refine x_ret2c (fn := Try.f15) (t := 2) (t2 := 3) (i := 4) (i2 := 3) ti_25 ti_28 rfl h126 rfl rfl rfl rfl rfl rfl ?_
 refine ⟨⟨vq, qs⟩, ⟨s23.v, words.l⟩, rfl, ?_, rfl, (h126.sh.sel (L' := [.deep 33 (⟨vq, qs⟩ : Ls (Ls Ins)), .own 3 (⟨s23.v, words.l⟩ : Ls Int)]) [8, 0] (by decide) ⟨rfl, rfl, trivial⟩)⟩
 show qs.map (·.l) = _; rw [hqs, List.take_of_length_le (by omega)]

set_option maxRecDepth 100000 in
set_option maxHeartbeats 2000000 in
theorem jStraight_cB (code : Ls (Ls Ins)) (words : Ls Int) (locks regs : Int) (W : World) (hcode : code.At W) (hwords : words.At W) (hz : (checkG (pgOf code words locks regs)).code ≠ 0) :
    Rets Try.prog 15 [.agg #[code.v, words.v, .int .i64 locks, .int .i64 regs]] W (fun v w' => v = .tuple #[.agg #[.slice none 0 0, .slice none 0 0, .int .i64 0, .int .i64 0], (checkG (pgOf code words locks regs)).val] ∧ Sh0 W w' []) := by
 refine x_enter (N := 73) Try.func15 rfl Try.ntmps15 (Nat.le_of_ble_eq_true rfl) fun a1 hf1 => ?_
 have h1 : St 73 (fun _ => False) W a1 W [(0, .agg #[code.v, words.v, .int .i64 locks, .int .i64 regs])] [.at_ code, .at_ words] := ⟨hf1.sub ⟨rfl, trivial⟩, Sh0.ext2 hcode hwords⟩
 clear hf1
 refine wp_seq_k fun K2 hK2 => wp_region_lit ?_
 refine wl_ex (x_box (cs := [code.v, words.v, .int .i64 locks, .int .i64 regs]) h1 rfl rfl rfl rfl rfl) (wanted_none rfl _) ?_
 rintro a3 w3 ⟨b3, h3⟩; clear h1
 refine wl_ex (x_alloc h3 ti_25 rfl rfl rfl) (wanted_none rfl _) ?_
 rintro a4 w4 ⟨b4, h4⟩; clear h3
 refine wl_ex (x_alloc h4 ti_28 rfl rfl rfl) (wanted_none rfl _) ?_
 rintro a5 w5 ⟨b5, h5⟩; clear h4
 refine wpList_nil (hK2 _ _ ?_)
 refine wp_seq_k fun K6 hK6 => ?_
 refine wp_seq_k fun K7 hK7 => wp_region_lit ?_
 refine wv h5 (r_ldbw (i := 2) (vs := [code.v, words.v, .int .i64 locks, .int .i64 regs]) ti_25 rfl rfl rfl rfl rfl) rfl rfl fun a8 h8 => ?_; clear h5
 refine wl_ex (x_call h8 bd_46 rfl rfl rfl rfl rfl (asmCheck_c (code := code) (words := words) (locks := locks) (regs := regs) (h8.sh.at 3 rfl) (h8.sh.at 4 rfl))) (wanted_none rfl _) ?_
 rintro a9 w9 ⟨_, ⟨rfl, hs9⟩, hf9⟩
 have h9 : St 73 (fun _ => False) W a9 w9 _ _ := ⟨hf9, h8.sh.call0 hs9⟩
 clear hf9 hs9
 clear h8
 refine wl_ex (x_alloc h9 ti_28 rfl rfl rfl) (wanted_none rfl _) ?_
 rintro a10 w10 ⟨b10, h10⟩; clear h9
 refine wl_ex (x_stb (i := 0) (vs := [.int .i64 ((checkG (pgOf code words locks regs)).code), .int .i64 ((checkG (pgOf code words locks regs)).thread), .int .i64 ((checkG (pgOf code words locks regs)).at_)]) (cs' := [.int .i64 ((checkG (pgOf code words locks regs)).code), .int .i64 ((checkG (pgOf code words locks regs)).thread), .int .i64 ((checkG (pgOf code words locks regs)).at_)]) h10 ti_28 rfl rfl rfl rfl rfl rfl rfl (allOne_cons rfl (allOne_cons rfl (allOne_cons rfl allOne_nil))) (Nat.le_of_ble_eq_true rfl) rfl) (wanted_none rfl _) ?_
 rintro a11 w11 h11
 clear h10
 refine wpList_nil (hK7 _ _ ?_)
 refine wp_seq_k fun K12 hK12 => wp_region_lit ?_
 refine wv h11 (r_fieldB (r := 0) fl_28_0 rfl rfl rfl) rfl rfl fun a13 h13 => ?_; clear h11
 refine wv h13 (r_ldb (i := 0) ti_26 rfl rfl rfl rfl) rfl rfl fun a14 h14 => ?_; clear h13
 refine wv h14 (r_neqI (p := (checkG (pgOf code words locks regs)).code) (q := 0) rfl rfl rfl) rfl rfl fun a15 h15 => ?_; clear h14
 refine wpList_nil (hK12 _ _ ?_)
 refine x_condT h15 rfl (decide_eq_true hz) ?_
 refine wp_seq_k fun K16 hK16 => ?_
 have h17 : St 73 (fun _ => False) W a15 w11 [(0, .agg #[code.v, words.v, .int .i64 locks, .int .i64 regs]), (1, .pointer (some ⟨b3, 0, none⟩)), (2, .pointer (some ⟨b4, 0, none⟩)), (3, .pointer (some ⟨b5, 0, none⟩)), (4, .pointer (some ⟨b10, 0, none⟩)), (11, .agg #[code.v, words.v, .int .i64 locks, .int .i64 regs]), (12, .agg #[.int .i64 ((checkG (pgOf code words locks regs)).code), .int .i64 ((checkG (pgOf code words locks regs)).thread), .int .i64 ((checkG (pgOf code words locks regs)).at_)]), (13, .pointer (some ⟨b10, 0, none⟩)), (14, .int .i64 ((checkG (pgOf code words locks regs)).code)), (15, .bool (decide ((checkG (pgOf code words locks regs)).code ≠ 0)))] [.blk b10 28 [.int .i64 ((checkG (pgOf code words locks regs)).code), .int .i64 ((checkG (pgOf code words locks regs)).thread), .int .i64 ((checkG (pgOf code words locks regs)).at_)], .blk b5 28 [.int .i64 0, .int .i64 0, .int .i64 0], .blk b4 25 [(.slice none 0 0), (.slice none 0 0), .int .i64 0, .int .i64 0], .blk b3 25 [code.v, words.v, .int .i64 locks, .int .i64 regs], .at_ code, .at_ words] := h15.nrm ⟨rfl, rfl, rfl, rfl, rfl, rfl, rfl, rfl, rfl, rfl, trivial⟩ [0, 1, 2, 3, 4, 5] (by decide) ⟨rfl, rfl, rfl, rfl, rfl, rfl, trivial⟩
 clear h15
 refine x_any (fun S a w => (S 2 = false ∧ S 3 = false ∧ FrI 73 S [(0, .agg #[code.v, words.v, .int .i64 locks, .int .i64 regs]), (1, .pointer (some ⟨b3, 0, none⟩)), (2, .pointer (some ⟨b4, 0, none⟩)), (3, .pointer (some ⟨b5, 0, none⟩)), (4, .pointer (some ⟨b10, 0, none⟩)), (11, .agg #[code.v, words.v, .int .i64 locks, .int .i64 regs]), (12, .agg #[.int .i64 ((checkG (pgOf code words locks regs)).code), .int .i64 ((checkG (pgOf code words locks regs)).thread), .int .i64 ((checkG (pgOf code words locks regs)).at_)]), (13, .pointer (some ⟨b10, 0, none⟩)), (14, .int .i64 ((checkG (pgOf code words locks regs)).code)), (15, .bool (decide ((checkG (pgOf code words locks regs)).code ≠ 0)))] [(0, 16, .agg #[(.slice none 0 0), (.slice none 0 0), .int .i64 0, .int .i64 0]), (1, 17, .agg #[.int .i64 ((checkG (pgOf code words locks regs)).code), .int .i64 ((checkG (pgOf code words locks regs)).thread), .int .i64 ((checkG (pgOf code words locks regs)).at_)])] a ∧ Sh (fun _ => False) W w [.blk b10 28 [.int .i64 ((checkG (pgOf code words locks regs)).code), .int .i64 ((checkG (pgOf code words locks regs)).thread), .int .i64 ((checkG (pgOf code words locks regs)).at_)], .blk b5 28 [.int .i64 0, .int .i64 0, .int .i64 0], .blk b4 25 [(.slice none 0 0), (.slice none 0 0), .int .i64 0, .int .i64 0], .blk b3 25 [code.v, words.v, .int .i64 locks, .int .i64 regs], .at_ code, .at_ words]) ∨ (S 2 = true ∧ S 3 = false ∧ FrI 73 S [(0, .agg #[code.v, words.v, .int .i64 locks, .int .i64 regs]), (1, .pointer (some ⟨b3, 0, none⟩)), (2, .pointer (some ⟨b4, 0, none⟩)), (3, .pointer (some ⟨b5, 0, none⟩)), (4, .pointer (some ⟨b10, 0, none⟩)), (11, .agg #[code.v, words.v, .int .i64 locks, .int .i64 regs]), (12, .agg #[.int .i64 ((checkG (pgOf code words locks regs)).code), .int .i64 ((checkG (pgOf code words locks regs)).thread), .int .i64 ((checkG (pgOf code words locks regs)).at_)]), (13, .pointer (some ⟨b10, 0, none⟩)), (14, .int .i64 ((checkG (pgOf code words locks regs)).code)), (15, .bool (decide ((checkG (pgOf code words locks regs)).code ≠ 0)))] [(0, 16, .agg #[(.slice none 0 0), (.slice none 0 0), .int .i64 0, .int .i64 0]), (1, 17, .agg #[.int .i64 ((checkG (pgOf code words locks regs)).code), .int .i64 ((checkG (pgOf code words locks regs)).thread), .int .i64 ((checkG (pgOf code words locks regs)).at_)])] a ∧ Sh (fun _ => False) W w [.blk b10 28 [.int .i64 ((checkG (pgOf code words locks regs)).code), .int .i64 ((checkG (pgOf code words locks regs)).thread), .int .i64 ((checkG (pgOf code words locks regs)).at_)], .blk b5 28 [.int .i64 0, .int .i64 0, .int .i64 0], .blk b4 25 [(.slice none 0 0), (.slice none 0 0), .int .i64 0, .int .i64 0], .blk b3 25 [code.v, words.v, .int .i64 locks, .int .i64 regs], .at_ code, .at_ words]) ∨ (S 2 = true ∧ S 3 = true ∧ FrI 73 S [(0, .agg #[code.v, words.v, .int .i64 locks, .int .i64 regs]), (1, .pointer (some ⟨b3, 0, none⟩)), (2, .pointer (some ⟨b4, 0, none⟩)), (3, .pointer (some ⟨b5, 0, none⟩)), (4, .pointer (some ⟨b10, 0, none⟩)), (11, .agg #[code.v, words.v, .int .i64 locks, .int .i64 regs]), (12, .agg #[.int .i64 ((checkG (pgOf code words locks regs)).code), .int .i64 ((checkG (pgOf code words locks regs)).thread), .int .i64 ((checkG (pgOf code words locks regs)).at_)]), (13, .pointer (some ⟨b10, 0, none⟩)), (14, .int .i64 ((checkG (pgOf code words locks regs)).code)), (15, .bool (decide ((checkG (pgOf code words locks regs)).code ≠ 0)))] [(0, 16, .agg #[(.slice none 0 0), (.slice none 0 0), .int .i64 0, .int .i64 0]), (1, 17, .agg #[.int .i64 ((checkG (pgOf code words locks regs)).code), .int .i64 ((checkG (pgOf code words locks regs)).thread), .int .i64 ((checkG (pgOf code words locks regs)).at_)])] a ∧ Sh (fun _ => False) W w [.blk b10 28 [.int .i64 ((checkG (pgOf code words locks regs)).code), .int .i64 ((checkG (pgOf code words locks regs)).thread), .int .i64 ((checkG (pgOf code words locks regs)).at_)], .blk b5 28 [.int .i64 ((checkG (pgOf code words locks regs)).code), .int .i64 ((checkG (pgOf code words locks regs)).thread), .int .i64 ((checkG (pgOf code words locks regs)).at_)], .blk b4 25 [(.slice none 0 0), (.slice none 0 0), .int .i64 0, .int .i64 0], .blk b3 25 [code.v, words.v, .int .i64 locks, .int .i64 regs], .at_ code, .at_ words])) (by kernel_rfl) (by kernel_rfl) (Or.inl (⟨rfl, rfl, FrI.start h17.fr, h17.sh.drew⟩)) ?_ ?_
 ·intro S i o ho hSi hcl hdep a w hI
  clear h17
  rcases i with _ | _ | _ | _ | i
  ·
   obtain rfl : _ = o := Option.some.inj ho
   rcases hI with ⟨hw2, hw3, hfr, hsh⟩ | ⟨hw2, hw3, hfr, hsh⟩ | ⟨hw2, hw3, hfr, hsh⟩
   ·
    exact sq hfr hfr.fr0 hsh (r_build (cs := [(.slice none 0 0), (.slice none 0 0), .int .i64 0, .int .i64 0]) rfl rfl (by kernel_rfl)) 0 rfl rfl rfl rfl rfl rfl fun a hg => Or.inl (⟨un rfl hw2, un rfl hw3, hg, hsh⟩)
   ·
    exact no_way (cA hcl 2 0 rfl hw2) hSi
   ·
    exact no_way (cA hcl 2 0 rfl hw2) hSi
  ·
   obtain rfl : _ = o := Option.some.inj ho
   rcases hI with ⟨hw2, hw3, hfr, hsh⟩ | ⟨hw2, hw3, hfr, hsh⟩ | ⟨hw2, hw3, hfr, hsh⟩
   ·
    exact sq hfr hfr.fr0 hsh (r_ldbw (i := 0) (vs := [.int .i64 ((checkG (pgOf code words locks regs)).code), .int .i64 ((checkG (pgOf code words locks regs)).thread), .int .i64 ((checkG (pgOf code words locks regs)).at_)]) ti_28 rfl rfl rfl rfl rfl) 1 rfl rfl rfl rfl rfl rfl fun a hg => Or.inl (⟨un rfl hw2, un rfl hw3, hg, hsh⟩)
   ·
    exact sq hfr hfr.fr0 hsh (r_ldbw (i := 0) (vs := [.int .i64 ((checkG (pgOf code words locks regs)).code), .int .i64 ((checkG (pgOf code words locks regs)).thread), .int .i64 ((checkG (pgOf code words locks regs)).at_)]) ti_28 rfl rfl rfl rfl rfl) 1 rfl rfl rfl rfl rfl rfl fun a hg => Or.inr (Or.inl (⟨un rfl hw2, un rfl hw3, hg, hsh⟩))
   ·
    exact no_way (cA hcl 3 1 rfl hw3) hSi
  ·
   obtain rfl : _ = o := Option.some.inj ho
   have hd0 : S 0 = true := depAt hdep 0 rfl rfl
   rcases hI with ⟨hw2, hw3, hfr, hsh⟩ | ⟨hw2, hw3, hfr, hsh⟩ | ⟨hw2, hw3, hfr, hsh⟩
   ·
    have hs := St.mk (Fr.cons hfr.fr0 (hfr.at_ 0 0 16 _ rfl hd0)) hsh
    refine step_ex (x_stb (i := 2) (vs := [(.slice none 0 0), (.slice none 0 0), .int .i64 0, .int .i64 0]) (cs' := [(.slice none 0 0), (.slice none 0 0), .int .i64 0, .int .i64 0]) hs ti_25 rfl rfl rfl rfl rfl rfl rfl (allOne_cons rfl (allOne_cons rfl (allOne_cons rfl (allOne_cons rfl allOne_nil)))) (Nat.le_of_ble_eq_true rfl) rfl) (wanted_none rfl _) ?_
    rintro a22 w22 h22 ⟨v0, ht22⟩
    have hm22 : FrI 73 S [(0, .agg #[code.v, words.v, .int .i64 locks, .int .i64 regs]), (1, .pointer (some ⟨b3, 0, none⟩)), (2, .pointer (some ⟨b4, 0, none⟩)), (3, .pointer (some ⟨b5, 0, none⟩)), (4, .pointer (some ⟨b10, 0, none⟩)), (11, .agg #[code.v, words.v, .int .i64 locks, .int .i64 regs]), (12, .agg #[.int .i64 ((checkG (pgOf code words locks regs)).code), .int .i64 ((checkG (pgOf code words locks regs)).thread), .int .i64 ((checkG (pgOf code words locks regs)).at_)]), (13, .pointer (some ⟨b10, 0, none⟩)), (14, .int .i64 ((checkG (pgOf code words locks regs)).code)), (15, .bool (decide ((checkG (pgOf code words locks regs)).code ≠ 0)))] [(0, 16, .agg #[(.slice none 0 0), (.slice none 0 0), .int .i64 0, .int .i64 0]), (1, 17, .agg #[.int .i64 ((checkG (pgOf code words locks regs)).code), .int .i64 ((checkG (pgOf code words locks regs)).thread), .int .i64 ((checkG (pgOf code words locks regs)).at_)])] a := hfr.more (by
     intro k j d v hk hS
     rcases k with _ | _ | k
     ·obtain ⟨rfl, rfl, rfl⟩ : _ = j ∧ _ = d ∧ _ = v := by simpa using hk
      exact hfr.at_ 0 _ _ _ rfl hS
     ·obtain ⟨rfl, rfl, rfl⟩ : _ = j ∧ _ = d ∧ _ = v := by simpa using hk
      exact hfr.at_ 1 _ _ _ rfl hS
     · simp at hk)
    exact Or.inr (Or.inl (⟨upd_self _ _, un rfl hw3, hm22.none ht22 h22.fr.defers rfl, (h22.sh.sel (L' := [.blk b10 28 [.int .i64 ((checkG (pgOf code words locks regs)).code), .int .i64 ((checkG (pgOf code words locks regs)).thread), .int .i64 ((checkG (pgOf code words locks regs)).at_)], .blk b5 28 [.int .i64 0, .int .i64 0, .int .i64 0], .blk b4 25 [(.slice none 0 0), (.slice none 0 0), .int .i64 0, .int .i64 0], .blk b3 25 [code.v, words.v, .int .i64 locks, .int .i64 regs], .at_ code, .at_ words]) [0, 1, 2, 3, 4, 5] (by decide) ⟨rfl, rfl, rfl, rfl, rfl, rfl, trivial⟩)⟩))
   ·
    exact no_way hw2 hSi
   ·
    exact no_way hw2 hSi
  ·
   obtain rfl : _ = o := Option.some.inj ho
   have hd1 : S 1 = true := depAt hdep 0 rfl rfl
   have hd2 : S 2 = true := depAt hdep 1 rfl rfl
   rcases hI with ⟨hw2, hw3, hfr, hsh⟩ | ⟨hw2, hw3, hfr, hsh⟩ | ⟨hw2, hw3, hfr, hsh⟩
   ·
    exact no_way hd2 hw2
   ·
    have hs := St.mk (Fr.cons hfr.fr0 (hfr.at_ 1 1 17 _ rfl hd1)) hsh
    refine step_ex (x_stb (i := 1) (vs := [.int .i64 ((checkG (pgOf code words locks regs)).code), .int .i64 ((checkG (pgOf code words locks regs)).thread), .int .i64 ((checkG (pgOf code words locks regs)).at_)]) (cs' := [.int .i64 ((checkG (pgOf code words locks regs)).code), .int .i64 ((checkG (pgOf code words locks regs)).thread), .int .i64 ((checkG (pgOf code words locks regs)).at_)]) hs ti_28 rfl rfl rfl rfl rfl rfl rfl (allOne_cons rfl (allOne_cons rfl (allOne_cons rfl allOne_nil))) (Nat.le_of_ble_eq_true rfl) rfl) (wanted_none rfl _) ?_
    rintro a23 w23 h23 ⟨v0, ht23⟩
    have hm23 : FrI 73 S [(0, .agg #[code.v, words.v, .int .i64 locks, .int .i64 regs]), (1, .pointer (some ⟨b3, 0, none⟩)), (2, .pointer (some ⟨b4, 0, none⟩)), (3, .pointer (some ⟨b5, 0, none⟩)), (4, .pointer (some ⟨b10, 0, none⟩)), (11, .agg #[code.v, words.v, .int .i64 locks, .int .i64 regs]), (12, .agg #[.int .i64 ((checkG (pgOf code words locks regs)).code), .int .i64 ((checkG (pgOf code words locks regs)).thread), .int .i64 ((checkG (pgOf code words locks regs)).at_)]), (13, .pointer (some ⟨b10, 0, none⟩)), (14, .int .i64 ((checkG (pgOf code words locks regs)).code)), (15, .bool (decide ((checkG (pgOf code words locks regs)).code ≠ 0)))] [(0, 16, .agg #[(.slice none 0 0), (.slice none 0 0), .int .i64 0, .int .i64 0]), (1, 17, .agg #[.int .i64 ((checkG (pgOf code words locks regs)).code), .int .i64 ((checkG (pgOf code words locks regs)).thread), .int .i64 ((checkG (pgOf code words locks regs)).at_)])] a := hfr.more (by
     intro k j d v hk hS
     rcases k with _ | _ | k
     ·obtain ⟨rfl, rfl, rfl⟩ : _ = j ∧ _ = d ∧ _ = v := by simpa using hk
      exact hfr.at_ 0 _ _ _ rfl hS
     ·obtain ⟨rfl, rfl, rfl⟩ : _ = j ∧ _ = d ∧ _ = v := by simpa using hk
      exact hfr.at_ 1 _ _ _ rfl hS
     · simp at hk)
    exact Or.inr (Or.inr (⟨un rfl hw2, upd_self _ _, hm23.none ht23 h23.fr.defers rfl, (h23.sh.sel (L' := [.blk b10 28 [.int .i64 ((checkG (pgOf code words locks regs)).code), .int .i64 ((checkG (pgOf code words locks regs)).thread), .int .i64 ((checkG (pgOf code words locks regs)).at_)], .blk b5 28 [.int .i64 ((checkG (pgOf code words locks regs)).code), .int .i64 ((checkG (pgOf code words locks regs)).thread), .int .i64 ((checkG (pgOf code words locks regs)).at_)], .blk b4 25 [(.slice none 0 0), (.slice none 0 0), .int .i64 0, .int .i64 0], .blk b3 25 [code.v, words.v, .int .i64 locks, .int .i64 regs], .at_ code, .at_ words]) [0, 1, 2, 3, 4, 5] (by decide) ⟨rfl, rfl, rfl, rfl, rfl, rfl, trivial⟩)⟩))
   ·
    exact no_way hw3 hSi
  · simp at ho
 intro S hall a w hI
 clear h17
 rcases hI with ⟨hw2, hw3, hfr, hsh⟩ | ⟨hw2, hw3, hfr, hsh⟩ | ⟨hw2, hw3, hfr, hsh⟩
 · exact no_way (hall 2 (by decide)) hw2
 · exact no_way (hall 3 (by decide)) hw3
 have h24 : St 73 (fun _ => False) W a w _ [.blk b10 28 [.int .i64 ((checkG (pgOf code words locks regs)).code), .int .i64 ((checkG (pgOf code words locks regs)).thread), .int .i64 ((checkG (pgOf code words locks regs)).at_)], .blk b5 28 [.int .i64 ((checkG (pgOf code words locks regs)).code), .int .i64 ((checkG (pgOf code words locks regs)).thread), .int .i64 ((checkG (pgOf code words locks regs)).at_)], .blk b4 25 [(.slice none 0 0), (.slice none 0 0), .int .i64 0, .int .i64 0], .blk b3 25 [code.v, words.v, .int .i64 locks, .int .i64 regs], .at_ code, .at_ words] := ⟨hfr.fr0, hsh⟩
 clear hall hfr hsh hw2 hw3
 refine hK16 _ _ ?_
 refine wp_ret ?_
 try simp only [Exit.then, Exit.inBlock]
 refine x_ret2c (fn := Try.f15) (t := 2) (t2 := 3) (i := 2) (i2 := 1) ti_25 ti_28 rfl h24 rfl rfl rfl rfl rfl rfl ?_
 exact ⟨rfl, (h24.sh.sel [] (by decide) trivial)⟩

end Go.Proofs.Ytfpaahkleienoaa
