/-
  Contracts of functions of this program and of the references, each walked once.
-/
import Derived.Test.YtfpaahkleienoaaU3
import Derived.Test.YtfpaahkleienoaaX6
import Derived.Test.YtfpaahkleienoaaS18
namespace Go.Proofs.Ytfpaahkleienoaa
open Go.RowKit
set_option linter.unusedSimpArgs false
set_option linter.unusedVariables false


theorem mapsNoRd {E : TypeId} {v : Value} {M : List MP} {X : Prop} {b : Nat} (h : (Asn.big (mapsX E v M)).rd b) : X := by
  obtain ⟨A, hA, hb⟩ := h
  rcases List.mem_cons.1 hA with rfl | hA
  · exact Flat.noRd hb
  · obtain ⟨x, _, rfl⟩ := List.mem_map.1 hA
    exact hb.elim
theorem eq_copyL {code ou : List Ins} (hl : ou.length = code.length) (h : ∀ j, j < code.length → nth ou j = copyIns (sameF code j) (nth code j)) : ou = copyL code := by
  apply ext_nth
  · unfold copyL; simpa using hl
  · intro i hi
    rw [h i (by omega)]
    unfold copyL
    rw [nth_map' _ _ _ (by simp; omega)]
    have : nth (List.range code.length) i = i := by simp [nth, show i < code.length by omega]
    rw [this]

set_option maxRecDepth 100000 in
set_option maxHeartbeats 8000000 in
theorem copyMade_c (code : Ls (Ls Ins)) (words : Ls Int) (locks regs : Int) (W : World) (hcode : code.At W) (hwords : words.At W) (hok : OkPg (pgOf code words locks regs)) :
    Rets Try.prog 17 [.agg #[code.v, words.v, .int .i64 locks, .int .i64 regs]] W (fun v w' => ∃ (c : Ls (Ls Ins)) (u : Ls Int), v = .tuple #[.agg #[c.v, u.v, .int .i64 locks, .int .i64 regs], .agg #[.int .i64 0, .int .i64 0, .int .i64 0]] ∧ c.l.map (·.l) = (code.l.map (·.l)).map copyL ∧ u.l = words.l ∧ Sh0 W w' [.deep 33 c, .own 3 u]) := by
 have hz := checkG_ok hok
 obtain ⟨hl1, hl2, hl3, hl4', hl5, hl6, hl7⟩ := ok_len hok
 refine x_enter (N := 62) Try.func17 rfl Try.ntmps17 (Nat.le_of_ble_eq_true rfl) fun a1 hf1 => ?_
 have h1 : St 62 (fun _ => False) W a1 W [(0, .agg #[code.v, words.v, .int .i64 locks, .int .i64 regs])] [.at_ code, .at_ words] := ⟨hf1.sub ⟨rfl, trivial⟩, Sh0.ext2 hcode hwords⟩
 clear hf1
 refine wp_seq_k fun K2 hK2 => wp_region_lit ?_
 refine wl_ex (x_box (cs := [code.v, words.v, .int .i64 locks, .int .i64 regs]) h1 rfl rfl rfl rfl rfl) (wanted_none rfl _) ?_
 rintro a3 w3 ⟨b3, h3⟩; clear h1
 refine wl_ex (x_alloc h3 ti_25 rfl rfl rfl) (wanted_none rfl _) ?_
 rintro a4 w4 ⟨b4, h4⟩; clear h3
 refine wl_ex (x_alloc h4 ti_28 rfl rfl rfl) (wanted_none rfl _) ?_
 rintro a5 w5 ⟨b5, h5⟩; clear h4
 refine wpList_nil (hK2 _ _ ?_)
 refine wp_seq_k fun K6 hK6 => ?_
 refine wp_seq_k fun K7 hK7 => wp_region_lit ?_
 refine wv h5 (r_ldbw (i := 2) (vs := [code.v, words.v, .int .i64 locks, .int .i64 regs]) ti_25 rfl rfl rfl rfl rfl) rfl rfl fun a8 h8 => ?_; clear h5
 refine wl_ex (x_call h8 bd_46 rfl rfl rfl rfl rfl (asmCheck_c (code := code) (words := words) (locks := locks) (regs := regs) (h8.sh.at 3 rfl) (h8.sh.at 4 rfl))) (wanted_none rfl _) ?_
 rintro a9 w9 ⟨_, ⟨rfl, hs9⟩, hf9⟩
 have h9 : St 62 (fun _ => False) W a9 w9 _ _ := ⟨hf9, h8.sh.call0 hs9⟩
 clear hf9 hs9
 clear h8
 refine wl_ex (x_alloc h9 ti_28 rfl rfl rfl) (wanted_none rfl _) ?_
 rintro a10 w10 ⟨b10, h10⟩; clear h9
 refine wl_ex (x_stb (i := 0) (vs := [.int .i64 ((checkG (pgOf code words locks regs)).code), .int .i64 ((checkG (pgOf code words locks regs)).thread), .int .i64 ((checkG (pgOf code words locks regs)).at_)]) (cs' := [.int .i64 ((checkG (pgOf code words locks regs)).code), .int .i64 ((checkG (pgOf code words locks regs)).thread), .int .i64 ((checkG (pgOf code words locks regs)).at_)]) h10 ti_28 rfl rfl rfl rfl rfl rfl rfl (allOne_cons rfl (allOne_cons rfl (allOne_cons rfl allOne_nil))) (Nat.le_of_ble_eq_true rfl) rfl) (wanted_none rfl _) ?_
 rintro a11 w11 h11
 clear h10
 refine wpList_nil (hK7 _ _ ?_)
 refine wp_seq_k fun K12 hK12 => wp_region_lit ?_
 refine wv h11 (r_fieldB (r := 0) fl_28_0 rfl rfl rfl) rfl rfl fun a13 h13 => ?_; clear h11
 refine wv h13 (r_ldb (i := 0) ti_26 rfl rfl rfl rfl) rfl rfl fun a14 h14 => ?_; clear h13
 refine wv h14 (r_neqI (p := (checkG (pgOf code words locks regs)).code) (q := 0) rfl rfl rfl) rfl rfl fun a15 h15 => ?_; clear h14
 refine wpList_nil (hK12 _ _ ?_)
 refine x_condF h15 rfl (by rw [hz]; rfl) ?_
 refine wp_skip ?_
 refine hK6 _ _ ?_
 refine wp_seq_k fun K16 hK16 => wp_region_lit ?_
 refine wv h15 (r_ldbw (i := 3) (vs := [code.v, words.v, .int .i64 locks, .int .i64 regs]) ti_25 rfl rfl rfl rfl rfl) rfl rfl fun a17 h17 => ?_; clear h15
 refine wl_ex (x_alloc h17 ti_25 rfl rfl rfl) (wanted_none rfl _) ?_
 rintro a18 w18 ⟨b18, h18⟩; clear h17
 refine wl_ex (x_stb (i := 0) (vs := [code.v, words.v, .int .i64 locks, .int .i64 regs]) (cs' := [code.v, words.v, .int .i64 locks, .int .i64 regs]) h18 ti_25 rfl rfl rfl rfl rfl rfl rfl (allOne_cons ((h18.sh.at 5 rfl)).one (allOne_cons ((h18.sh.at 6 rfl)).one (allOne_cons rfl (allOne_cons rfl allOne_nil)))) (Nat.le_of_ble_eq_true rfl) rfl) (wanted_none rfl _) ?_
 rintro a19 w19 h19
 clear h18
 refine wpList_nil (hK16 _ _ ?_)
 refine wp_seq_k fun K20 hK20 => wp_region_lit ?_
 refine wv h19 (r_fieldB (r := 1) fl_25_1 rfl rfl rfl) rfl rfl fun a21 h21 => ?_; clear h19
 refine wv h21 (r_ldb (i := 4) ti_23 rfl rfl rfl rfl) rfl rfl fun a22 h22 => ?_; clear h21
 refine wl_ex (x_call h22 bd_47 rfl rfl rfl rfl rfl (cloneI_c words _ (h22.sh.at 6 rfl) (by first | omega | (simp only [lens9]; omega)))) (wanted_none rfl _) ?_
 rintro a23 w23 ⟨_, ⟨s23, rfl, hs23⟩, hf23⟩
 have h23 := (⟨hf23, h22.sh.call hs23 (by intro A hA b hb; simp only [List.mem_cons, List.not_mem_nil, or_false] at hA; subst hA; first | exact mapsNoRd hb | exact Flat.noRd hb | exact (hb : False).elim)⟩ : St 62 (fun _ => False) W a23 w23 _ _)
 clear hf23 hs23
 clear h22
 refine wv h23 (r_fieldB (r := 0) fl_25_0 rfl rfl rfl) rfl rfl fun a24 h24 => ?_; clear h23
 refine wl_ex (x_stb (i := 1) (vs := [(.slice none 0 0)]) (cs' := [(.slice none 0 0), words.v, .int .i64 locks, .int .i64 regs]) h24 ti_22 rfl rfl rfl rfl rfl rfl rfl (allOne_cons rfl allOne_nil) (Nat.le_of_ble_eq_true rfl) rfl) (wanted_none rfl _) ?_
 rintro a25 w25 h25
 clear h24
 refine wv h25 (r_fieldB (r := 1) fl_25_1 rfl rfl rfl) rfl rfl fun a26 h26 => ?_; clear h25
 refine wl_ex (x_stb (i := 1) (vs := [s23.v]) (cs' := [(.slice none 0 0), s23.v, .int .i64 locks, .int .i64 regs]) h26 ti_23 rfl rfl rfl rfl rfl (cells_oneL ((h26.sh.own 0 rfl)).one) rfl (allOne_cons ((h26.sh.own 0 rfl)).one allOne_nil) (Nat.le_of_ble_eq_true rfl) rfl) (wanted_none rfl _) ?_
 rintro a27 w27 h27
 clear h26
 refine wpList_nil (hK20 _ _ ?_)
 refine wp_seq_k fun K28 hK28 => ?_
 refine wp_seq_k fun K29 hK29 => wp_region_lit ?_
 refine wv h27 (r_fieldB (r := 0) fl_25_0 rfl rfl rfl) rfl rfl fun a30 h30 => ?_; clear h27
 refine wv h30 (r_ldb (i := 5) ti_22 rfl rfl rfl rfl) rfl rfl fun a31 h31 => ?_; clear h30
 have hl32 : code.l.length ≤ 140737488355328 := (h31.sh.at 6 rfl).len
 refine wv h31 (r_len (s := code) (n := code.l.length) sl_22 rfl rfl (fun w h => (h.at 6 rfl)) rfl) rfl rfl fun a33 h33 => ?_; clear h31
 refine wms 1 h33 rfl fun a34 h34 => ?_; clear h33
 refine wpList_nil (hK29 _ _ ?_)
 refine wp_block ?_
 have h36 := h34.nilDeep (α := Ls Ins) 33
 clear h34
 refine x_loop (fun m a w => ∃ (t : Nat) (qs : List (Ls Ins)) (vq : Value), (t ≤ code.l.length) ∧ (qs.map (·.l) = ((code.l.take t).map (·.l)).map copyL) ∧ (qs.length = t) ∧ St 62 (fun _ => False) W a w [(2, .pointer (some ⟨b4, 0, none⟩)), (3, .pointer (some ⟨b5, 0, none⟩)), (5, .pointer (some ⟨b18, 0, none⟩)), (26, code.v), (27, .int .i64 ((code.l.length : Nat) : Int)), (28, .int .i64 ((t : Nat) : Int))] [.own 3 (⟨s23.v, words.l⟩ : Ls Int), .blk b18 25 [vq, s23.v, .int .i64 locks, .int .i64 regs], .blk b10 28 [.int .i64 ((checkG (pgOf code words locks regs)).code), .int .i64 ((checkG (pgOf code words locks regs)).thread), .int .i64 ((checkG (pgOf code words locks regs)).at_)], .blk b5 28 [.int .i64 0, .int .i64 0, .int .i64 0], .blk b4 25 [(.slice none 0 0), (.slice none 0 0), .int .i64 0, .int .i64 0], .blk b3 25 [code.v, words.v, .int .i64 locks, .int .i64 regs], .at_ code, .at_ words, .deep 33 (⟨vq, qs⟩ : Ls (Ls Ins))] ∧ m = code.l.length - t) ⟨_, 0, [], (.slice none 0 0), (by omega), (rfl), (rfl), h36.nrm ⟨rfl, rfl, rfl, rfl, rfl, rfl, trivial⟩ [1, 2, 3, 4, 5, 6, 7, 8, 0] (by decide) ⟨rfl, rfl, rfl, rfl, rfl, rfl, rfl, rfl, rfl, trivial⟩, rfl⟩ ?_
 clear h36
 rintro m35 a35 w35 ⟨t, qs, vq, ht, hqs, hql, h35, hm35⟩
 refine wp_seq_k fun K37 hK37 => wp_region_lit ?_
 refine wv h35 (r_lssN (p := t) (q := code.l.length) rfl rfl rfl) rfl rfl fun a38 h38 => ?_; clear h35
 refine wpList_nil (hK37 _ _ ?_)
 refine wp_seq_k fun K39 hK39 => ?_
 refine x_cond h38 rfl (fun hb40 => ?_) (fun hb40 => ?_)
 ·
  have hp40 : t < code.l.length := of_decide_eq_true hb40
  refine wp_skip ?_
  refine hK39 _ _ ?_
  refine wp_seq_k fun K41 hK41 => ?_
  refine wp_block ?_
  refine wp_seq_k fun K42 hK42 => wp_region_lit ?_
  refine wv h38 (r_ixN (s := code) (q := t) sl_22 ti_33 rfl rfl rfl (fun w h => (h.at 6 rfl)) (show t < code.l.length from (by omega))) rfl rfl fun a43 h43 => ?_; clear h38
  refine wv h43 (r_lde (s := code) (i := t) (v := (nth code.l t).v) ti_33 rfl rfl rfl (fun w h => (h.at 6 rfl)) (show t < code.l.length from (by omega)) (Nat.le_of_ble_eq_true rfl) rfl) rfl rfl fun a44 h44 => ?_; clear h43
  refine wms 1 h44 rfl fun a45 h45 => ?_; clear h44
  refine wpList_nil (hK42 _ _ ?_)
  obtain ⟨hl4, hjt⟩ := ok_thread hok t (by omega)
  have htl : t < code.l.length := by omega
  have hct := codeC_of hok htl
  refine wp_seq_k fun K46 hK46 => wp_region_lit ?_
  refine wms 1 h45 rfl fun a47 h47 => ?_; clear h45
  refine wl_ex (x_call h47 bd_52 rfl rfl rfl rfl rfl (look_c (nth code.l t) _ ((h47.sh.at 6 rfl).nth t (show t < code.l.length from (by omega))) hct (by omega))) (wanted_none rfl _) ?_
  rintro a48 w48 ⟨_, ⟨u48, M48, rfl, hML48, hMv48, hs48⟩, hf48⟩
  have h48 := (⟨hf48, h47.sh.call hs48 (by intro A hA b hb; simp only [List.mem_cons, List.not_mem_nil, or_false] at hA; subst hA; first | exact mapsNoRd hb | exact Flat.noRd hb | exact (hb : False).elim)⟩ : St 62 (fun _ => False) W a48 w48 _ _)
  clear hf48 hs48
  clear h47
  refine wms 1 h48 rfl fun a49 h49 => ?_; clear h48
  refine wpList_nil (hK46 _ _ ?_)
  refine wp_seq_k fun K50 hK50 => wp_region_lit ?_
  refine wms 1 h49 rfl fun a51 h51 => ?_; clear h49
  refine wl_ex (x_call h51 bd_48 rfl rfl rfl rfl rfl (cloneP_c (nth code.l t) _ ((h51.sh.at 7 rfl).nth t (show t < code.l.length from (by omega))) (by first | omega | (simp only [lens9]; omega)))) (wanted_none rfl _) ?_
  rintro a52 w52 ⟨_, ⟨s52, rfl, hs52⟩, hf52⟩
  have h52 := (⟨hf52, h51.sh.call hs52 (by intro A hA b hb; simp only [List.mem_cons, List.not_mem_nil, or_false] at hA; subst hA; first | exact mapsNoRd hb | exact Flat.noRd hb | exact (hb : False).elim)⟩ : St 62 (fun _ => False) W a52 w52 _ _)
  clear hf52 hs52
  clear h51
  refine wms 1 h52 rfl fun a53 h53 => ?_; clear h52
  refine wpList_nil (hK50 _ _ ?_)
  refine wp_seq_k fun K54 hK54 => ?_
  refine wp_seq_k fun K55 hK55 => wp_region_lit ?_
  refine wms 1 h53 rfl fun a56 h56 => ?_; clear h53
  have hl57 : ((nth code.l t).l).length ≤ 140737488355328 := ((h56.sh.at 8 rfl).nth t (show t < code.l.length from (by omega))).len
  refine wv h56 (r_len (s := nth code.l t) (n := ((nth code.l t).l).length) sl_33 rfl rfl (fun w h => ((h.at 8 rfl).nth t (show t < code.l.length from (by omega)))) rfl) rfl rfl fun a58 h58 => ?_; clear h56
  refine wms 1 h58 rfl fun a59 h59 => ?_; clear h58
  refine wpList_nil (hK55 _ _ ?_)
  refine wp_block ?_
  refine x_loop (fun m a w => ∃ (i : Nat) (ou : List Ins), (i ≤ (nth code.l t).l.length) ∧ (ou.length = (nth code.l t).l.length) ∧ (∀ j, j < i → nth ou j = copyIns (sameF (nth code.l t).l j) (nth (nth code.l t).l j)) ∧ St 62 (fun _ => False) W a w [(2, .pointer (some ⟨b4, 0, none⟩)), (3, .pointer (some ⟨b5, 0, none⟩)), (5, .pointer (some ⟨b18, 0, none⟩)), (8, u48), (9, s52.v), (26, code.v), (27, .int .i64 ((code.l.length : Nat) : Int)), (28, .int .i64 ((t : Nat) : Int)), (36, (nth code.l t).v), (37, .int .i64 ((((nth code.l t).l).length : Nat) : Int)), (38, .int .i64 ((i : Nat) : Int))] [.own 32 (⟨s52.v, ou⟩ : Ls Ins), .big (mapsX 81 u48 M48), .own 3 (⟨s23.v, words.l⟩ : Ls Int), .blk b18 25 [vq, s23.v, .int .i64 locks, .int .i64 regs], .blk b10 28 [.int .i64 ((checkG (pgOf code words locks regs)).code), .int .i64 ((checkG (pgOf code words locks regs)).thread), .int .i64 ((checkG (pgOf code words locks regs)).at_)], .blk b5 28 [.int .i64 0, .int .i64 0, .int .i64 0], .blk b4 25 [(.slice none 0 0), (.slice none 0 0), .int .i64 0, .int .i64 0], .blk b3 25 [code.v, words.v, .int .i64 locks, .int .i64 regs], .at_ code, .at_ words, .deep 33 (⟨vq, qs⟩ : Ls (Ls Ins))] ∧ m = (nth code.l t).l.length - i) ⟨_, 0, (nth code.l t).l, (by omega), (rfl), (fun j hj => absurd hj (by omega)), h59.nrm ⟨rfl, rfl, rfl, rfl, rfl, rfl, rfl, rfl, rfl, rfl, rfl, trivial⟩ [0, 1, 2, 3, 4, 5, 6, 7, 8, 9, 10] (by decide) ⟨rfl, rfl, rfl, rfl, rfl, rfl, rfl, rfl, rfl, rfl, rfl, trivial⟩, rfl⟩ ?_
  clear h59
  rintro m60 a60 w60 ⟨i, ou, hi, hol, hdone, h60, hm60⟩
  refine wp_seq_k fun K61 hK61 => wp_region_lit ?_
  refine wv h60 (r_lssN (p := i) (q := ((nth code.l t).l).length) rfl rfl rfl) rfl rfl fun a62 h62 => ?_; clear h60
  refine wpList_nil (hK61 _ _ ?_)
  refine wp_seq_k fun K63 hK63 => ?_
  refine x_cond h62 rfl (fun hb64 => ?_) (fun hb64 => ?_)
  ·
   have hp64 : i < ((nth code.l t).l).length := of_decide_eq_true hb64
   refine wp_skip ?_
   refine hK63 _ _ ?_
   refine wp_seq_k fun K65 hK65 => ?_
   refine wp_block ?_
   refine wp_seq_k fun K66 hK66 => wp_region_lit ?_
   refine wms 1 h62 rfl fun a67 h67 => ?_; clear h62
   refine wv h67 (r_ixN (s := nth code.l t) (q := i) sl_33 ti_32 rfl rfl rfl (fun w h => ((h.at 8 rfl).nth t (show t < code.l.length from (by omega)))) (show i < ((nth code.l t).l).length from (by omega))) rfl rfl fun a68 h68 => ?_; clear h67
   refine wv h68 (r_ldew (s := nth code.l t) (i := i) (vs := [.int .i64 ((nth ((nth code.l t).l) i).op), .int .i64 ((nth ((nth code.l t).l) i).a), .int .i64 ((nth ((nth code.l t).l) i).b), .int .i64 ((nth ((nth code.l t).l) i).c)]) ti_32 rfl rfl rfl (fun w h => ((h.at 8 rfl).nth t (show t < code.l.length from (by omega)))) (show i < ((nth code.l t).l).length from (by omega)) (Nat.le_of_ble_eq_true rfl) rfl) rfl rfl fun a69 h69 => ?_; clear h68
   refine wl_ex (x_alloc h69 ti_32 rfl rfl rfl) (wanted_none rfl _) ?_
   rintro a70 w70 ⟨b70, h70⟩; clear h69
   refine wms 1 h70 rfl fun a71 h71 => ?_; clear h70
   refine wl_ex (x_stb (i := 0) (vs := [.int .i64 ((nth ((nth code.l t).l) i).op), .int .i64 ((nth ((nth code.l t).l) i).a), .int .i64 ((nth ((nth code.l t).l) i).b), .int .i64 ((nth ((nth code.l t).l) i).c)]) (cs' := [.int .i64 ((nth ((nth code.l t).l) i).op), .int .i64 ((nth ((nth code.l t).l) i).a), .int .i64 ((nth ((nth code.l t).l) i).b), .int .i64 ((nth ((nth code.l t).l) i).c)]) h71 ti_32 rfl rfl rfl rfl rfl rfl rfl (allOne_cons rfl (allOne_cons rfl (allOne_cons rfl (allOne_cons rfl allOne_nil)))) (Nat.le_of_ble_eq_true rfl) rfl) (wanted_none rfl _) ?_
   rintro a72 w72 h72
   clear h71
   refine wpList_nil (hK66 _ _ ?_)
   have h73 := h72.openM 2 i rfl (show i < M48.length from (by omega)) rfl
   clear h72
   refine x_tail 7 [0, 1] (by kernel_rfl) (by kernel_rfl) h73 fun Z74 hZ74 => ?_
   have hq74 := h73.fr
   refine wq_val hq74 (r_move rfl rfl) (wanted_none rfl _) rfl rfl fun a75 hq75 => ?_; clear hq74
   refine wq_val hq75 (r_move rfl rfl) (wanted_none rfl _) rfl rfl fun a76 hq76 => ?_; clear hq75
   refine wq_val hq76 (r_ldbw (i := 1) (vs := [.int .i64 ((nth ((nth code.l t).l) i).op), .int .i64 ((nth ((nth code.l t).l) i).a), .int .i64 ((nth ((nth code.l t).l) i).b), .int .i64 ((nth ((nth code.l t).l) i).c)]) ti_32 rfl rfl rfl rfl rfl) (wanted_none rfl _) rfl rfl fun a77 hq77 => ?_; clear hq76
   refine wq_val hq77 (r_move rfl rfl) (wanted_none rfl _) rfl rfl fun a78 hq78 => ?_; clear hq77
   refine wq_val hq78 (r_move rfl rfl) (wanted_none rfl _) rfl rfl fun a79 hq79 => ?_; clear hq78
   refine wq_val hq79 (r_ixN (s := (⟨u48, pvs M48⟩ : Ls RV)) (q := i) sl_77 ti_81 rfl rfl rfl (fun w h => (h.mapsHAt 3 rfl)) (by rw [pvs_len]; exact (show i < M48.length from (by omega)))) (wanted_none rfl _) rfl rfl fun a80 hq80 => ?_; clear hq79
   refine wq_val hq80 (Rn.same (r_lde (s := (⟨u48, pvs M48⟩ : Ls RV)) (i := i) (v := (nth (pvs M48) i).v) ti_81 rfl rfl rfl (fun w h => (h.mapsHAt 3 rfl)) (by rw [pvs_len]; exact (show i < M48.length from (by omega))) (Nat.le_of_ble_eq_true rfl) rfl) ((nth_pvs (show i < M48.length from (by omega))).trans (congrArg Value.map rfl))) (wanted_none rfl _) rfl rfl fun a81 hq81 => ?_; clear hq80
   refine wpQuiet_nil (hZ74 _ fun w82 hw82 => ?_)
   have h82 : St 62 (fun _ => False) W a81 w82 _ _ := ⟨hq81, hw82⟩
   clear hq81 hw82 h73
   have hp83 := h82.sh.passL (Lp := [.mapO ((nth M48 i).p) ((nth M48 i).l)])
   refine wl_ex (x_call h82 bd_53 rfl rfl rfl rfl rfl (become_c _ (nth ((nth code.l t).l) i) ((nth M48 i).p) ((nth M48 i).l) _ hp83 (hct.op _ (by omega)))) (wanted_none rfl _) ?_
   rintro a84 w84 ⟨_, ⟨rfl, hs84⟩, hf84⟩
   have h84 : St 62 (fun _ => False) W a84 w84 _ [.mapO ((nth M48 i).p) ((nth M48 i).l), .blk b70 32 [.int .i64 ((nth ((nth code.l t).l) i).op), .int .i64 ((nth ((nth code.l t).l) i).a), .int .i64 ((nth ((nth code.l t).l) i).b), .int .i64 ((nth ((nth code.l t).l) i).c)], .own 32 (⟨s52.v, ou⟩ : Ls Ins), .big (mapsH 81 u48 M48 i), .own 3 (⟨s23.v, words.l⟩ : Ls Int), .blk b18 25 [vq, s23.v, .int .i64 locks, .int .i64 regs], .blk b10 28 [.int .i64 ((checkG (pgOf code words locks regs)).code), .int .i64 ((checkG (pgOf code words locks regs)).thread), .int .i64 ((checkG (pgOf code words locks regs)).at_)], .blk b5 28 [.int .i64 0, .int .i64 0, .int .i64 0], .blk b4 25 [(.slice none 0 0), (.slice none 0 0), .int .i64 0, .int .i64 0], .blk b3 25 [code.v, words.v, .int .i64 locks, .int .i64 regs], .at_ code, .at_ words, .deep 33 (⟨vq, qs⟩ : Ls (Ls Ins))] := ⟨hf84, h82.sh.backL (Lp := [.mapO ((nth M48 i).p) ((nth M48 i).l)]) hs84 (by intro A hA b hb; simp only [List.mem_cons, List.not_mem_nil, or_false] at hA; rcases hA with rfl <;> first | exact (hb : False).elim | exact Flat.noRd hb | exact .inl ⟨_, List.mem_cons_self .., .inr hb⟩ | exact .inl ⟨_, by simp, .inr hb⟩)⟩
   clear hf84 hs84
   clear h82
   have hl85 : ou.length ≤ 140737488355328 := (h84.sh.own 2 rfl).len
   refine wv h84 (r_ixN (s := (⟨s52.v, ou⟩ : Ls Ins)) (q := i) sl_33 ti_32 rfl rfl rfl (fun w h => (h.own 2 rfl)) (show i < ou.length from (by omega))) rfl rfl fun a86 h86 => ?_; clear h84
   refine wl_ex (x_stewI (r := 2) (i := i) (s := (⟨s52.v, ou⟩ : Ls Ins)) (x' := (copyIns (fun r => getZ r ((nth M48 i).l)) (nth ((nth code.l t).l) i))) h86 ti_32 rfl rfl rfl rfl (show i < ou.length from (by omega)) rfl) (wanted_none rfl _) ?_
   rintro a87 w87 h87
   clear h86
   refine wpList_nil (hK65 _ _ ?_)
   refine wp_region_lit ?_
   refine wv h87 (r_addN (p := i) (q := 1) rfl rfl rfl (show i + 1 < 9223372036854775808 from (by omega))) rfl rfl fun a88 h88 => ?_; clear h87
   refine wms 1 h88 rfl fun a89 h89 => ?_; clear h88
   refine wpList_nil ?_
   have h90 := h89.closeM 2 i rfl (show i < M48.length from (by omega)) rfl
   clear h89
   rw [nth_set_p] at h90
   refine x_again ⟨_, ?_, i + 1, ou.set i (copyIns (fun r => getZ r ((nth M48 i).l)) (nth ((nth code.l t).l) i)), ?_, ?_, ?_, h90.nrm ⟨rfl, rfl, rfl, rfl, rfl, rfl, rfl, rfl, rfl, rfl, rfl, trivial⟩ [1, 2, 3, 4, 5, 6, 7, 8, 9, 10, 11] (by decide) ⟨rfl, rfl, rfl, rfl, rfl, rfl, rfl, rfl, rfl, rfl, rfl, trivial⟩, rfl⟩
   · rw [hm60]; first | omega | (simp only [lens9]; omega)
   · omega
   · first | simpa using hol | exact hol
   · intro j hj; rcases Nat.lt_or_ge j i with h9 | h9; (rw [nth_set, if_neg (by omega)]; exact hdone j h9); obtain rfl : i = j := (by omega); rw [nth_set, if_pos ⟨rfl, by omega⟩]; exact (copyIns_congr fun k _ _ => hMv48 i (by omega) _)
  have hp64 : ¬ (i < ((nth code.l t).l).length) := of_decide_eq_false hb64
  refine wp_exit ?_
  refine hK54 _ _ ?_
  have hq1 : ou = copyL (nth code.l t).l := eq_copyL hol (fun j hj => hdone j (by omega))
  refine wp_region_lit ?_
  refine wv h62 (r_fieldB (r := 0) fl_25_0 rfl rfl rfl) rfl rfl fun a91 h91 => ?_; clear h62
  refine wv h91 (r_ldb (i := 3) ti_22 rfl rfl rfl rfl) rfl rfl fun a92 h92 => ?_; clear h91
  refine wms 1 h92 rfl fun a93 h93 => ?_; clear h92
  refine wl_ex (x_litD (E := 0) (x := (⟨s52.v, ou⟩ : Ls Ins)) h93 sl_22 ti_33 rfl rfl rfl ((h93.sh.own 0 rfl)) (fun b hb => (own_on (h93.sh.ok _ (List.mem_of_getElem? (i := 0) rfl)) hb).elim (fun h => h) (fun h => Flat.noRd h)) (fun b hb => Flat.noRd hb) rfl rfl) (wanted_none rfl _) ?_
  rintro a94 w94 ⟨v94, h94⟩; clear h93
  have h95 := h94.sel (L' := [.deep 33 (⟨vq, qs⟩ : Ls (Ls Ins)), .deep 33 (⟨v94, [(⟨s52.v, ou⟩ : Ls Ins)]⟩ : Ls (Ls Ins)), .big (mapsX 81 u48 M48), .own 3 (⟨s23.v, words.l⟩ : Ls Int), .blk b18 25 [vq, s23.v, .int .i64 locks, .int .i64 regs], .blk b10 28 [.int .i64 ((checkG (pgOf code words locks regs)).code), .int .i64 ((checkG (pgOf code words locks regs)).thread), .int .i64 ((checkG (pgOf code words locks regs)).at_)], .blk b5 28 [.int .i64 0, .int .i64 0, .int .i64 0], .blk b4 25 [(.slice none 0 0), (.slice none 0 0), .int .i64 0, .int .i64 0], .blk b3 25 [code.v, words.v, .int .i64 locks, .int .i64 regs], .at_ code, .at_ words]) [10, 0, 1, 2, 3, 4, 5, 6, 7, 8, 9] (by decide) ⟨rfl, rfl, rfl, rfl, rfl, rfl, rfl, rfl, rfl, rfl, rfl, trivial⟩
  refine wl_ex (x_appD (s := (⟨vq, qs⟩ : Ls (Ls Ins))) (m := (⟨v94, [(⟨s52.v, ou⟩ : Ls Ins)]⟩ : Ls (Ls Ins))) h95 sl_22 ti_33 rfl rfl rfl rfl rfl rfl rfl inferInstance (show (qs.length + ([(⟨s52.v, ou⟩ : Ls Ins)]).length) * 24 ≤ 140737488355328 ∧ qs.length + ([(⟨s52.v, ou⟩ : Ls Ins)]).length ≤ 140737488355328 from (by first | omega | (simp only [lens9]; omega))) rfl rfl) (wanted_none rfl _) ?_
  rintro a96 w96 ⟨v96, h96⟩; clear h95
  refine wv h96 (r_fieldB (r := 0) fl_25_0 rfl rfl rfl) rfl rfl fun a97 h97 => ?_; clear h96
  refine wl_ex (x_stb (i := 3) (vs := [v96]) (cs' := [v96, s23.v, .int .i64 locks, .int .i64 regs]) h97 ti_22 rfl rfl rfl rfl rfl (cells_oneL ((h97.sh.deep 0 rfl)).one) rfl (allOne_cons ((h97.sh.deep 0 rfl)).one allOne_nil) (Nat.le_of_ble_eq_true rfl) rfl) (wanted_none rfl _) ?_
  rintro a98 w98 h98
  clear h97
  refine wpList_nil (hK41 _ _ ?_)
  refine wp_region_lit ?_
  refine wv h98 (r_addN (p := t) (q := 1) rfl rfl rfl (show t + 1 < 9223372036854775808 from (by omega))) rfl rfl fun a99 h99 => ?_; clear h98
  refine wms 1 h99 rfl fun a100 h100 => ?_; clear h99
  refine wpList_nil ?_
  refine x_again ⟨_, ?_, t + 1, qs ++ ([(⟨s52.v, ou⟩ : Ls Ins)]), v96, ?_, ?_, ?_, h100.nrm ⟨rfl, rfl, rfl, rfl, rfl, rfl, trivial⟩ [2, 3, 4, 5, 6, 7, 8, 9, 0] (by decide) ⟨rfl, rfl, rfl, rfl, rfl, rfl, rfl, rfl, rfl, trivial⟩, rfl⟩
  · rw [hm35]; first | omega | (simp only [lens9]; omega)
  · omega
  · rw [List.map_append, hqs, take_succ_nth _ _ (by omega)]; simp [hq1]
  · simp [hql]
 have hp40 : ¬ (t < code.l.length) := of_decide_eq_false hb40
 refine wp_exit ?_
 refine hK28 _ _ ?_
 refine wp_seq_k fun K101 hK101 => wp_region_lit ?_
 refine wv h38 (r_ldbw (i := 1) (vs := [vq, s23.v, .int .i64 locks, .int .i64 regs]) ti_25 rfl rfl rfl rfl rfl) rfl rfl fun a102 h102 => ?_; clear h38
 refine wv h102 (r_build (cs := [.int .i64 0, .int .i64 0, .int .i64 0]) rfl rfl (by kernel_rfl)) rfl rfl fun a103 h103 => ?_; clear h102
 refine wl_ex (x_stb (i := 4) (vs := [vq, s23.v, .int .i64 locks, .int .i64 regs]) (cs' := [vq, s23.v, .int .i64 locks, .int .i64 regs]) h103 ti_25 rfl rfl rfl rfl rfl rfl rfl (allOne_cons ((h103.sh.deep 8 rfl)).one (allOne_cons ((h103.sh.own 0 rfl)).one (allOne_cons rfl (allOne_cons rfl allOne_nil)))) (Nat.le_of_ble_eq_true rfl) rfl) (wanted_none rfl _) ?_
 rintro a104 w104 h104
 clear h103
 refine wl_ex (x_stb (i := 3) (vs := [.int .i64 0, .int .i64 0, .int .i64 0]) (cs' := [.int .i64 0, .int .i64 0, .int .i64 0]) h104 ti_28 rfl rfl rfl rfl rfl rfl rfl (allOne_cons rfl (allOne_cons rfl (allOne_cons rfl allOne_nil))) (Nat.le_of_ble_eq_true rfl) rfl) (wanted_none rfl _) ?_
 rintro a105 w105 h105
 clear h104
 refine wpList_nil (hK101 _ _ ?_)
 refine wp_ret ?_
 try simp only [Exit.then, Exit.inBlock]
 refine x_ret2c (fn := Try.f17) (t := 2) (t2 := 3) (i := 4) (i2 := 3) ti_25 ti_28 rfl h105 rfl rfl rfl rfl rfl rfl ?_
 refine ⟨⟨vq, qs⟩, ⟨s23.v, words.l⟩, rfl, ?_, rfl, (h105.sh.sel (L' := [.deep 33 (⟨vq, qs⟩ : Ls (Ls Ins)), .own 3 (⟨s23.v, words.l⟩ : Ls Int)]) [8, 0] (by decide) ⟨rfl, rfl, trivial⟩)⟩
 show qs.map (·.l) = _; rw [hqs, List.take_of_length_le (by omega)]

set_option maxRecDepth 100000 in
set_option maxHeartbeats 2000000 in
theorem copyMade_cB (code : Ls (Ls Ins)) (words : Ls Int) (locks regs : Int) (W : World) (hcode : code.At W) (hwords : words.At W) (hz : (checkG (pgOf code words locks regs)).code ≠ 0) :
    Rets Try.prog 17 [.agg #[code.v, words.v, .int .i64 locks, .int .i64 regs]] W (fun v w' => v = .tuple #[.agg #[.slice none 0 0, .slice none 0 0, .int .i64 0, .int .i64 0], (checkG (pgOf code words locks regs)).val] ∧ Sh0 W w' []) := by
 refine x_enter (N := 62) Try.func17 rfl Try.ntmps17 (Nat.le_of_ble_eq_true rfl) fun a1 hf1 => ?_
 have h1 : St 62 (fun _ => False) W a1 W [(0, .agg #[code.v, words.v, .int .i64 locks, .int .i64 regs])] [.at_ code, .at_ words] := ⟨hf1.sub ⟨rfl, trivial⟩, Sh0.ext2 hcode hwords⟩
 clear hf1
 refine wp_seq_k fun K2 hK2 => wp_region_lit ?_
 refine wl_ex (x_box (cs := [code.v, words.v, .int .i64 locks, .int .i64 regs]) h1 rfl rfl rfl rfl rfl) (wanted_none rfl _) ?_
 rintro a3 w3 ⟨b3, h3⟩; clear h1
 refine wl_ex (x_alloc h3 ti_25 rfl rfl rfl) (wanted_none rfl _) ?_
 rintro a4 w4 ⟨b4, h4⟩; clear h3
 refine wl_ex (x_alloc h4 ti_28 rfl rfl rfl) (wanted_none rfl _) ?_
 rintro a5 w5 ⟨b5, h5⟩; clear h4
 refine wpList_nil (hK2 _ _ ?_)
 refine wp_seq_k fun K6 hK6 => ?_
 refine wp_seq_k fun K7 hK7 => wp_region_lit ?_
 refine wv h5 (r_ldbw (i := 2) (vs := [code.v, words.v, .int .i64 locks, .int .i64 regs]) ti_25 rfl rfl rfl rfl rfl) rfl rfl fun a8 h8 => ?_; clear h5
 refine wl_ex (x_call h8 bd_46 rfl rfl rfl rfl rfl (asmCheck_c (code := code) (words := words) (locks := locks) (regs := regs) (h8.sh.at 3 rfl) (h8.sh.at 4 rfl))) (wanted_none rfl _) ?_
 rintro a9 w9 ⟨_, ⟨rfl, hs9⟩, hf9⟩
 have h9 : St 62 (fun _ => False) W a9 w9 _ _ := ⟨hf9, h8.sh.call0 hs9⟩
 clear hf9 hs9
 clear h8
 refine wl_ex (x_alloc h9 ti_28 rfl rfl rfl) (wanted_none rfl _) ?_
 rintro a10 w10 ⟨b10, h10⟩; clear h9
 refine wl_ex (x_stb (i := 0) (vs := [.int .i64 ((checkG (pgOf code words locks regs)).code), .int .i64 ((checkG (pgOf code words locks regs)).thread), .int .i64 ((checkG (pgOf code words locks regs)).at_)]) (cs' := [.int .i64 ((checkG (pgOf code words locks regs)).code), .int .i64 ((checkG (pgOf code words locks regs)).thread), .int .i64 ((checkG (pgOf code words locks regs)).at_)]) h10 ti_28 rfl rfl rfl rfl rfl rfl rfl (allOne_cons rfl (allOne_cons rfl (allOne_cons rfl allOne_nil))) (Nat.le_of_ble_eq_true rfl) rfl) (wanted_none rfl _) ?_
 rintro a11 w11 h11
 clear h10
 refine wpList_nil (hK7 _ _ ?_)
 refine wp_seq_k fun K12 hK12 => wp_region_lit ?_
 refine wv h11 (r_fieldB (r := 0) fl_28_0 rfl rfl rfl) rfl rfl fun a13 h13 => ?_; clear h11
 refine wv h13 (r_ldb (i := 0) ti_26 rfl rfl rfl rfl) rfl rfl fun a14 h14 => ?_; clear h13
 refine wv h14 (r_neqI (p := (checkG (pgOf code words locks regs)).code) (q := 0) rfl rfl rfl) rfl rfl fun a15 h15 => ?_; clear h14
 refine wpList_nil (hK12 _ _ ?_)
 refine x_condT h15 rfl (decide_eq_true hz) ?_
 refine wp_seq_k fun K16 hK16 => ?_
 have h17 : St 62 (fun _ => False) W a15 w11 [(0, .agg #[code.v, words.v, .int .i64 locks, .int .i64 regs]), (1, .pointer (some ⟨b3, 0, none⟩)), (2, .pointer (some ⟨b4, 0, none⟩)), (3, .pointer (some ⟨b5, 0, none⟩)), (4, .pointer (some ⟨b10, 0, none⟩)), (12, .agg #[code.v, words.v, .int .i64 locks, .int .i64 regs]), (13, .agg #[.int .i64 ((checkG (pgOf code words locks regs)).code), .int .i64 ((checkG (pgOf code words locks regs)).thread), .int .i64 ((checkG (pgOf code words locks regs)).at_)]), (14, .pointer (some ⟨b10, 0, none⟩)), (15, .int .i64 ((checkG (pgOf code words locks regs)).code)), (16, .bool (decide ((checkG (pgOf code words locks regs)).code ≠ 0)))] [.blk b10 28 [.int .i64 ((checkG (pgOf code words locks regs)).code), .int .i64 ((checkG (pgOf code words locks regs)).thread), .int .i64 ((checkG (pgOf code words locks regs)).at_)], .blk b5 28 [.int .i64 0, .int .i64 0, .int .i64 0], .blk b4 25 [(.slice none 0 0), (.slice none 0 0), .int .i64 0, .int .i64 0], .blk b3 25 [code.v, words.v, .int .i64 locks, .int .i64 regs], .at_ code, .at_ words] := h15.nrm ⟨rfl, rfl, rfl, rfl, rfl, rfl, rfl, rfl, rfl, rfl, trivial⟩ [0, 1, 2, 3, 4, 5] (by decide) ⟨rfl, rfl, rfl, rfl, rfl, rfl, trivial⟩
 clear h15
 refine x_any (fun S a w => (S 2 = false ∧ S 3 = false ∧ FrI 62 S [(0, .agg #[code.v, words.v, .int .i64 locks, .int .i64 regs]), (1, .pointer (some ⟨b3, 0, none⟩)), (2, .pointer (some ⟨b4, 0, none⟩)), (3, .pointer (some ⟨b5, 0, none⟩)), (4, .pointer (some ⟨b10, 0, none⟩)), (12, .agg #[code.v, words.v, .int .i64 locks, .int .i64 regs]), (13, .agg #[.int .i64 ((checkG (pgOf code words locks regs)).code), .int .i64 ((checkG (pgOf code words locks regs)).thread), .int .i64 ((checkG (pgOf code words locks regs)).at_)]), (14, .pointer (some ⟨b10, 0, none⟩)), (15, .int .i64 ((checkG (pgOf code words locks regs)).code)), (16, .bool (decide ((checkG (pgOf code words locks regs)).code ≠ 0)))] [(0, 17, .agg #[(.slice none 0 0), (.slice none 0 0), .int .i64 0, .int .i64 0]), (1, 18, .agg #[.int .i64 ((checkG (pgOf code words locks regs)).code), .int .i64 ((checkG (pgOf code words locks regs)).thread), .int .i64 ((checkG (pgOf code words locks regs)).at_)])] a ∧ Sh (fun _ => False) W w [.blk b10 28 [.int .i64 ((checkG (pgOf code words locks regs)).code), .int .i64 ((checkG (pgOf code words locks regs)).thread), .int .i64 ((checkG (pgOf code words locks regs)).at_)], .blk b5 28 [.int .i64 0, .int .i64 0, .int .i64 0], .blk b4 25 [(.slice none 0 0), (.slice none 0 0), .int .i64 0, .int .i64 0], .blk b3 25 [code.v, words.v, .int .i64 locks, .int .i64 regs], .at_ code, .at_ words]) ∨ (S 2 = true ∧ S 3 = false ∧ FrI 62 S [(0, .agg #[code.v, words.v, .int .i64 locks, .int .i64 regs]), (1, .pointer (some ⟨b3, 0, none⟩)), (2, .pointer (some ⟨b4, 0, none⟩)), (3, .pointer (some ⟨b5, 0, none⟩)), (4, .pointer (some ⟨b10, 0, none⟩)), (12, .agg #[code.v, words.v, .int .i64 locks, .int .i64 regs]), (13, .agg #[.int .i64 ((checkG (pgOf code words locks regs)).code), .int .i64 ((checkG (pgOf code words locks regs)).thread), .int .i64 ((checkG (pgOf code words locks regs)).at_)]), (14, .pointer (some ⟨b10, 0, none⟩)), (15, .int .i64 ((checkG (pgOf code words locks regs)).code)), (16, .bool (decide ((checkG (pgOf code words locks regs)).code ≠ 0)))] [(0, 17, .agg #[(.slice none 0 0), (.slice none 0 0), .int .i64 0, .int .i64 0]), (1, 18, .agg #[.int .i64 ((checkG (pgOf code words locks regs)).code), .int .i64 ((checkG (pgOf code words locks regs)).thread), .int .i64 ((checkG (pgOf code words locks regs)).at_)])] a ∧ Sh (fun _ => False) W w [.blk b10 28 [.int .i64 ((checkG (pgOf code words locks regs)).code), .int .i64 ((checkG (pgOf code words locks regs)).thread), .int .i64 ((checkG (pgOf code words locks regs)).at_)], .blk b5 28 [.int .i64 0, .int .i64 0, .int .i64 0], .blk b4 25 [(.slice none 0 0), (.slice none 0 0), .int .i64 0, .int .i64 0], .blk b3 25 [code.v, words.v, .int .i64 locks, .int .i64 regs], .at_ code, .at_ words]) ∨ (S 2 = true ∧ S 3 = true ∧ FrI 62 S [(0, .agg #[code.v, words.v, .int .i64 locks, .int .i64 regs]), (1, .pointer (some ⟨b3, 0, none⟩)), (2, .pointer (some ⟨b4, 0, none⟩)), (3, .pointer (some ⟨b5, 0, none⟩)), (4, .pointer (some ⟨b10, 0, none⟩)), (12, .agg #[code.v, words.v, .int .i64 locks, .int .i64 regs]), (13, .agg #[.int .i64 ((checkG (pgOf code words locks regs)).code), .int .i64 ((checkG (pgOf code words locks regs)).thread), .int .i64 ((checkG (pgOf code words locks regs)).at_)]), (14, .pointer (some ⟨b10, 0, none⟩)), (15, .int .i64 ((checkG (pgOf code words locks regs)).code)), (16, .bool (decide ((checkG (pgOf code words locks regs)).code ≠ 0)))] [(0, 17, .agg #[(.slice none 0 0), (.slice none 0 0), .int .i64 0, .int .i64 0]), (1, 18, .agg #[.int .i64 ((checkG (pgOf code words locks regs)).code), .int .i64 ((checkG (pgOf code words locks regs)).thread), .int .i64 ((checkG (pgOf code words locks regs)).at_)])] a ∧ Sh (fun _ => False) W w [.blk b10 28 [.int .i64 ((checkG (pgOf code words locks regs)).code), .int .i64 ((checkG (pgOf code words locks regs)).thread), .int .i64 ((checkG (pgOf code words locks regs)).at_)], .blk b5 28 [.int .i64 ((checkG (pgOf code words locks regs)).code), .int .i64 ((checkG (pgOf code words locks regs)).thread), .int .i64 ((checkG (pgOf code words locks regs)).at_)], .blk b4 25 [(.slice none 0 0), (.slice none 0 0), .int .i64 0, .int .i64 0], .blk b3 25 [code.v, words.v, .int .i64 locks, .int .i64 regs], .at_ code, .at_ words])) (by kernel_rfl) (by kernel_rfl) (Or.inl (⟨rfl, rfl, FrI.start h17.fr, h17.sh.drew⟩)) ?_ ?_
 ·intro S i o ho hSi hcl hdep a w hI
  clear h17
  rcases i with _ | _ | _ | _ | i
  ·
   obtain rfl : _ = o := Option.some.inj ho
   rcases hI with ⟨hw2, hw3, hfr, hsh⟩ | ⟨hw2, hw3, hfr, hsh⟩ | ⟨hw2, hw3, hfr, hsh⟩
   ·
    exact sq hfr hfr.fr0 hsh (r_build (cs := [(.slice none 0 0), (.slice none 0 0), .int .i64 0, .int .i64 0]) rfl rfl (by kernel_rfl)) 0 rfl rfl rfl rfl rfl rfl fun a hg => Or.inl (⟨un rfl hw2, un rfl hw3, hg, hsh⟩)
   ·
    exact no_way (cA hcl 2 0 rfl hw2) hSi
   ·
    exact no_way (cA hcl 2 0 rfl hw2) hSi
  ·
   obtain rfl : _ = o := Option.some.inj ho
   rcases hI with ⟨hw2, hw3, hfr, hsh⟩ | ⟨hw2, hw3, hfr, hsh⟩ | ⟨hw2, hw3, hfr, hsh⟩
   ·
    exact sq hfr hfr.fr0 hsh (r_ldbw (i := 0) (vs := [.int .i64 ((checkG (pgOf code words locks regs)).code), .int .i64 ((checkG (pgOf code words locks regs)).thread), .int .i64 ((checkG (pgOf code words locks regs)).at_)]) ti_28 rfl rfl rfl rfl rfl) 1 rfl rfl rfl rfl rfl rfl fun a hg => Or.inl (⟨un rfl hw2, un rfl hw3, hg, hsh⟩)
   ·
    exact sq hfr hfr.fr0 hsh (r_ldbw (i := 0) (vs := [.int .i64 ((checkG (pgOf code words locks regs)).code), .int .i64 ((checkG (pgOf code words locks regs)).thread), .int .i64 ((checkG (pgOf code words locks regs)).at_)]) ti_28 rfl rfl rfl rfl rfl) 1 rfl rfl rfl rfl rfl rfl fun a hg => Or.inr (Or.inl (⟨un rfl hw2, un rfl hw3, hg, hsh⟩))
   ·
    exact no_way (cA hcl 3 1 rfl hw3) hSi
  ·
   obtain rfl : _ = o := Option.some.inj ho
   have hd0 : S 0 = true := depAt hdep 0 rfl rfl
   rcases hI with ⟨hw2, hw3, hfr, hsh⟩ | ⟨hw2, hw3, hfr, hsh⟩ | ⟨hw2, hw3, hfr, hsh⟩
   ·
    have hs := St.mk (Fr.cons hfr.fr0 (hfr.at_ 0 0 17 _ rfl hd0)) hsh
    refine step_ex (x_stb (i := 2) (vs := [(.slice none 0 0), (.slice none 0 0), .int .i64 0, .int .i64 0]) (cs' := [(.slice none 0 0), (.slice none 0 0), .int .i64 0, .int .i64 0]) hs ti_25 rfl rfl rfl rfl rfl rfl rfl (allOne_cons rfl (allOne_cons rfl (allOne_cons rfl (allOne_cons rfl allOne_nil)))) (Nat.le_of_ble_eq_true rfl) rfl) (wanted_none rfl _) ?_
    rintro a22 w22 h22 ⟨v0, ht22⟩
    have hm22 : FrI 62 S [(0, .agg #[code.v, words.v, .int .i64 locks, .int .i64 regs]), (1, .pointer (some ⟨b3, 0, none⟩)), (2, .pointer (some ⟨b4, 0, none⟩)), (3, .pointer (some ⟨b5, 0, none⟩)), (4, .pointer (some ⟨b10, 0, none⟩)), (12, .agg #[code.v, words.v, .int .i64 locks, .int .i64 regs]), (13, .agg #[.int .i64 ((checkG (pgOf code words locks regs)).code), .int .i64 ((checkG (pgOf code words locks regs)).thread), .int .i64 ((checkG (pgOf code words locks regs)).at_)]), (14, .pointer (some ⟨b10, 0, none⟩)), (15, .int .i64 ((checkG (pgOf code words locks regs)).code)), (16, .bool (decide ((checkG (pgOf code words locks regs)).code ≠ 0)))] [(0, 17, .agg #[(.slice none 0 0), (.slice none 0 0), .int .i64 0, .int .i64 0]), (1, 18, .agg #[.int .i64 ((checkG (pgOf code words locks regs)).code), .int .i64 ((checkG (pgOf code words locks regs)).thread), .int .i64 ((checkG (pgOf code words locks regs)).at_)])] a := hfr.more (by
     intro k j d v hk hS
     rcases k with _ | _ | k
     ·obtain ⟨rfl, rfl, rfl⟩ : _ = j ∧ _ = d ∧ _ = v := by simpa using hk
      exact hfr.at_ 0 _ _ _ rfl hS
     ·obtain ⟨rfl, rfl, rfl⟩ : _ = j ∧ _ = d ∧ _ = v := by simpa using hk
      exact hfr.at_ 1 _ _ _ rfl hS
     · simp at hk)
    exact Or.inr (Or.inl (⟨upd_self _ _, un rfl hw3, hm22.none ht22 h22.fr.defers rfl, (h22.sh.sel (L' := [.blk b10 28 [.int .i64 ((checkG (pgOf code words locks regs)).code), .int .i64 ((checkG (pgOf code words locks regs)).thread), .int .i64 ((checkG (pgOf code words locks regs)).at_)], .blk b5 28 [.int .i64 0, .int .i64 0, .int .i64 0], .blk b4 25 [(.slice none 0 0), (.slice none 0 0), .int .i64 0, .int .i64 0], .blk b3 25 [code.v, words.v, .int .i64 locks, .int .i64 regs], .at_ code, .at_ words]) [0, 1, 2, 3, 4, 5] (by decide) ⟨rfl, rfl, rfl, rfl, rfl, rfl, trivial⟩)⟩))
   ·
    exact no_way hw2 hSi
   ·
    exact no_way hw2 hSi
  ·
   obtain rfl : _ = o := Option.some.inj ho
   have hd1 : S 1 = true := depAt hdep 0 rfl rfl
   have hd2 : S 2 = true := depAt hdep 1 rfl rfl
   rcases hI with ⟨hw2, hw3, hfr, hsh⟩ | ⟨hw2, hw3, hfr, hsh⟩ | ⟨hw2, hw3, hfr, hsh⟩
   ·
    exact no_way hd2 hw2
   ·
    have hs := St.mk (Fr.cons hfr.fr0 (hfr.at_ 1 1 18 _ rfl hd1)) hsh
    refine step_ex (x_stb (i := 1) (vs := [.int .i64 ((checkG (pgOf code words locks regs)).code), .int .i64 ((checkG (pgOf code words locks regs)).thread), .int .i64 ((checkG (pgOf code words locks regs)).at_)]) (cs' := [.int .i64 ((checkG (pgOf code words locks regs)).code), .int .i64 ((checkG (pgOf code words locks regs)).thread), .int .i64 ((checkG (pgOf code words locks regs)).at_)]) hs ti_28 rfl rfl rfl rfl rfl rfl rfl (allOne_cons rfl (allOne_cons rfl (allOne_cons rfl allOne_nil))) (Nat.le_of_ble_eq_true rfl) rfl) (wanted_none rfl _) ?_
    rintro a23 w23 h23 ⟨v0, ht23⟩
    have hm23 : FrI 62 S [(0, .agg #[code.v, words.v, .int .i64 locks, .int .i64 regs]), (1, .pointer (some ⟨b3, 0, none⟩)), (2, .pointer (some ⟨b4, 0, none⟩)), (3, .pointer (some ⟨b5, 0, none⟩)), (4, .pointer (some ⟨b10, 0, none⟩)), (12, .agg #[code.v, words.v, .int .i64 locks, .int .i64 regs]), (13, .agg #[.int .i64 ((checkG (pgOf code words locks regs)).code), .int .i64 ((checkG (pgOf code words locks regs)).thread), .int .i64 ((checkG (pgOf code words locks regs)).at_)]), (14, .pointer (some ⟨b10, 0, none⟩)), (15, .int .i64 ((checkG (pgOf code words locks regs)).code)), (16, .bool (decide ((checkG (pgOf code words locks regs)).code ≠ 0)))] [(0, 17, .agg #[(.slice none 0 0), (.slice none 0 0), .int .i64 0, .int .i64 0]), (1, 18, .agg #[.int .i64 ((checkG (pgOf code words locks regs)).code), .int .i64 ((checkG (pgOf code words locks regs)).thread), .int .i64 ((checkG (pgOf code words locks regs)).at_)])] a := hfr.more (by
     intro k j d v hk hS
     rcases k with _ | _ | k
     ·obtain ⟨rfl, rfl, rfl⟩ : _ = j ∧ _ = d ∧ _ = v := by simpa using hk
      exact hfr.at_ 0 _ _ _ rfl hS
     ·obtain ⟨rfl, rfl, rfl⟩ : _ = j ∧ _ = d ∧ _ = v := by simpa using hk
      exact hfr.at_ 1 _ _ _ rfl hS
     · simp at hk)
    exact Or.inr (Or.inr (⟨un rfl hw2, upd_self _ _, hm23.none ht23 h23.fr.defers rfl, (h23.sh.sel (L' := [.blk b10 28 [.int .i64 ((checkG (pgOf code words locks regs)).code), .int .i64 ((checkG (pgOf code words locks regs)).thread), .int .i64 ((checkG (pgOf code words locks regs)).at_)], .blk b5 28 [.int .i64 ((checkG (pgOf code words locks regs)).code), .int .i64 ((checkG (pgOf code words locks regs)).thread), .int .i64 ((checkG (pgOf code words locks regs)).at_)], .blk b4 25 [(.slice none 0 0), (.slice none 0 0), .int .i64 0, .int .i64 0], .blk b3 25 [code.v, words.v, .int .i64 locks, .int .i64 regs], .at_ code, .at_ words]) [0, 1, 2, 3, 4, 5] (by decide) ⟨rfl, rfl, rfl, rfl, rfl, rfl, trivial⟩)⟩))
   ·
    exact no_way hw3 hSi
  · simp at ho
 intro S hall a w hI
 clear h17
 rcases hI with ⟨hw2, hw3, hfr, hsh⟩ | ⟨hw2, hw3, hfr, hsh⟩ | ⟨hw2, hw3, hfr, hsh⟩
 · exact no_way (hall 2 (by decide)) hw2
 · exact no_way (hall 3 (by decide)) hw3
 have h24 : St 62 (fun _ => False) W a w _ [.blk b10 28 [.int .i64 ((checkG (pgOf code words locks regs)).code), .int .i64 ((checkG (pgOf code words locks regs)).thread), .int .i64 ((checkG (pgOf code words locks regs)).at_)], .blk b5 28 [.int .i64 ((checkG (pgOf code words locks regs)).code), .int .i64 ((checkG (pgOf code words locks regs)).thread), .int .i64 ((checkG (pgOf code words locks regs)).at_)], .blk b4 25 [(.slice none 0 0), (.slice none 0 0), .int .i64 0, .int .i64 0], .blk b3 25 [code.v, words.v, .int .i64 locks, .int .i64 regs], .at_ code, .at_ words] := ⟨hfr.fr0, hsh⟩
 clear hall hfr hsh hw2 hw3
 refine hK16 _ _ ?_
 refine wp_ret ?_
 try simp only [Exit.then, Exit.inBlock]
 refine x_ret2c (fn := Try.f17) (t := 2) (t2 := 3) (i := 2) (i2 := 1) ti_25 ti_28 rfl h24 rfl rfl rfl rfl rfl rfl ?_
 exact ⟨rfl, (h24.sh.sel [] (by decide) trivial)⟩

end Go.Proofs.Ytfpaahkleienoaa
