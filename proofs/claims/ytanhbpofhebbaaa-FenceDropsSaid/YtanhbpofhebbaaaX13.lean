/-
  Contracts of functions of this program and of the references, each walked once.
-/
import Derived.Test.YtanhbpofhebbaaaX12
namespace Go.Proofs.Ytanhbpofhebbaaa
open Go.RowKit
set_option linter.unusedSimpArgs false
set_option linter.unusedVariables false


def drpB (b : Bool) (x : Ins) : List Ins := if x.op = 12 ∧ b = false then [] else [x]
def drpW (w : Nat → Bool) (i : Nat) (x : Ins) : List Ins := drpB (w i) x
theorem drpB_len (b : Bool) (x : Ins) : (drpB b x).length ≤ 1 := by unfold drpB; split <;> simp
theorem drpB_mem {b : Bool} {x y : Ins} (h : y ∈ drpB b x) : y = x := by
  unfold drpB at h
  split at h
  · cases h
  · simpa using h
theorem drp_ok (w : Nat → Bool) (code : List Ins) (hj : JumpsOK code) : BecB (drpW w) code := by
  intro i hi k hk
  have e := drpB_mem (nth_mem _ _ hk)
  have := hj i hi
  have e' : drpW w i (nth code i) = drpB (w i) (nth code i) := rfl
  rw [e', e]
  refine ⟨?_, ?_⟩
  · by_cases h : (nth code i).op = 14
    · exact .inr (.inr (this.1 h))
    · exact .inl h
  · by_cases h : (nth code i).op = 15
    · exact .inr (.inr (this.2 h))
    · exact .inl h
open Classical in
/-- May something wait ahead of an order? -/
noncomputable def mayB (code : List Ins) (i : Nat) : Bool := if MayI code i then true else false
theorem mayB_of {code : List Ins} {m : List Bool} (h : ∀ j, nth m j = true ↔ MayI code j) (j : Nat) : nth m j = mayB code j := by
  unfold mayB
  by_cases hm : MayI code j
  · rw [if_pos hm]; exact (h j).2 hm
  · rw [if_neg hm]
    rcases Bool.eq_false_or_eq_true (nth m j) with e | e
    · exact absurd ((h j).1 e) hm
    · exact e
noncomputable def dropL (code : List Ins) : List Ins := putL (becL (drpW (mayB code)) code) code
theorem drp_put (code : List Ins) (m : List Bool) (h : ∀ j, nth m j = true ↔ MayI code j) : movedL (drpW (nth m)) code = dropL code := by
  have e : drpW (nth m) = drpW (mayB code) := by
    funext i x
    simp only [drpW]
    rw [mayB_of h i]
  rw [e]
  refine moved_put _ _ fun i hi x hx h15 => ?_
  have := drpB_mem hx
  rw [this] at h15
  omega
set_option maxRecDepth 100000 in
set_option maxHeartbeats 1000000 in
theorem drop1_c (i : Nat) (x : Ins) (b : Nat) (m : Ls Bool) (W : World) (hi : i < m.l.length) (hl : m.l.length ≤ 100000) (hB : Blk W b 66 #[m.v]) (hm : m.At W) :
    Rets Try.prog 77 [.int .i64 ((i : Nat) : Int), .agg #[.int .i64 x.op, .int .i64 x.a, .int .i64 x.b, .int .i64 x.c], .pointer (some ⟨b, 0, none⟩)] W (fun v w' => ∃ s : Ls Ins, v = s.v ∧ Sh0 W w' [.own 73 (⟨s.v, drpB (nth m.l i) x⟩ : Ls Ins)]) := by
 refine x_enter (N := 18) Try.func77 rfl Try.ntmps77 (Nat.le_of_ble_eq_true rfl) fun a1 hf1 => ?_
 have h1 : St 18 (fun _ => False) W a1 W [(0, .int .i64 ((i : Nat) : Int)), (1, .agg #[.int .i64 x.op, .int .i64 x.a, .int .i64 x.b, .int .i64 x.c]), (2, .pointer (some ⟨b, 0, none⟩))] [.rblk b 66 [m.v], .at_ m] := ⟨hf1.sub ⟨rfl, rfl, rfl, trivial⟩, Sh0.ext (by intro A hA; simp at hA; rcases hA with rfl | rfl; exact hB; exact hm) (by intro A hA b hb; simp at hA; rcases hA with rfl | rfl <;> exact hb)⟩
 clear hf1
 refine wp_seq_k fun K2 hK2 => wp_region_lit ?_
 refine wl_ex (x_box (cs := [.int .i64 x.op, .int .i64 x.a, .int .i64 x.b, .int .i64 x.c]) h1 rfl rfl rfl rfl rfl) (wanted_none rfl _) ?_
 rintro a3 w3 ⟨b3, h3⟩; clear h1
 refine wms 1 h3 rfl fun a4 h4 => ?_; clear h3
 refine wpList_nil (hK2 _ _ ?_)
 refine wp_seq_k fun K5 hK5 => ?_
 refine wp_seq_k fun K6 hK6 => wp_region_lit ?_
 refine wv h4 (r_fieldB (r := 0) fl_73_0 rfl rfl rfl) rfl rfl fun a7 h7 => ?_; clear h4
 refine wv h7 (r_ldb (i := 0) ti_3 rfl rfl rfl rfl) rfl rfl fun a8 h8 => ?_; clear h7
 refine wv h8 (r_eqlI (p := x.op) (q := 12) rfl rfl rfl) rfl rfl fun a9 h9 => ?_; clear h8
 refine wms 1 h9 rfl fun a10 h10 => ?_; clear h9
 rcases Bool.eq_false_or_eq_true (decide (x.op = 12)) with hb11 | hb11
 ·
  have hp11 : x.op = 12 := of_decide_eq_true hb11
  refine wl_val h10 (r_ldbR ti_66 rfl rfl (fun w h => h.rblk 1 rfl) rfl) (wanted_yes h10.fr rfl rfl rfl rfl hb11) rfl rfl fun a12 h12 => ?_; clear h10
  refine wl_val h12 (r_move rfl rfl) (wanted_yes h12.fr rfl rfl rfl rfl hb11) rfl rfl fun a13 h13 => ?_; clear h12
  have hl14 : m.l.length ≤ 140737488355328 := (h13.sh.at 2 rfl).len
  refine wl_val h13 (r_ixN (s := m) (q := i) sl_66 ti_4 rfl rfl rfl (fun w h => (h.at 2 rfl)) (show i < m.l.length from (by omega))) (wanted_yes h13.fr rfl rfl rfl rfl hb11) rfl rfl fun a15 h15 => ?_; clear h13
  refine wl_val h15 (r_lde (s := m) (i := i) (v := .bool (nth m.l i)) ti_4 rfl rfl rfl (fun w h => (h.at 2 rfl)) (show i < m.l.length from (by omega)) (Nat.le_of_ble_eq_true rfl) rfl) (wanted_yes h15.fr rfl rfl rfl rfl hb11) rfl rfl fun a16 h16 => ?_; clear h15
  refine wl_val h16 (r_not rfl rfl) (wanted_yes h16.fr rfl rfl rfl rfl hb11) rfl rfl fun a17 h17 => ?_; clear h16
  refine wv h17 (r_pickT rfl rfl hb11 rfl) rfl rfl fun a18 h18 => ?_; clear h17
  refine wpList_nil (hK6 _ _ ?_)
  refine x_cond h18 rfl (fun hb19 => ?_) (fun hb19 => ?_)
  ·
   have hn19 : nth m.l i = false := (Bool.not_eq_true' _).mp hb19
   refine wp_seq_k fun K20 hK20 => wp_region_lit ?_
   refine wms 1 h18 rfl fun a21 h21 => ?_; clear h18
   refine wpList_nil (hK20 _ _ ?_)
   refine wp_ret ?_
   try simp only [Exit.then, Exit.inBlock]
   refine x_ret1 (fn := Try.f77) (t := 5) rfl h21 rfl ?_
   refine ⟨⟨.slice none 0 0, []⟩, rfl, ?_⟩
   rw [show drpB (nth m.l i) x = [] from by unfold drpB; rw [if_pos ⟨by omega, by assumption⟩]]
   exact (h21.sh.nil (α := Ins) 73).sel (L' := [_]) [0] (by decide) ⟨rfl, trivial⟩
  have hn19 : nth m.l i = true := (Bool.not_eq_false' _).mp hb19
  refine wp_skip ?_
  refine hK5 _ _ ?_
  refine wp_seq_k fun K22 hK22 => wp_region_lit ?_
  refine wv h18 (r_ldbw (i := 0) (vs := [.int .i64 x.op, .int .i64 x.a, .int .i64 x.b, .int .i64 x.c]) ti_73 rfl rfl rfl rfl rfl) rfl rfl fun a23 h23 => ?_; clear h18
  refine wl_ex (x_lit (n := 1) (cs := [.int .i64 x.op, .int .i64 x.a, .int .i64 x.b, .int .i64 x.c]) ([x] : List Ins) h23 sl_64 ti_73 rfl rfl rfl (by decide) rfl (by kernel_rfl) rfl (fun q hq w h => Flat.inner _ _) (fun q hq b hb => (Flat.on _ _ hb).elim) rfl rfl) (wanted_none rfl _) ?_
  rintro a24 w24 ⟨v24, h24⟩; clear h23
  refine wms 1 h24 rfl fun a25 h25 => ?_; clear h24
  refine wpList_nil (hK22 _ _ ?_)
  refine wp_ret ?_
  try simp only [Exit.then, Exit.inBlock]
  refine x_ret1 (fn := Try.f77) (t := 5) rfl h25 rfl ?_
  refine ⟨⟨v24, []⟩, rfl, ?_⟩
  rw [show drpB (nth m.l i) x = [x] from by unfold drpB; rw [if_neg (by first | (rintro ⟨h8, _⟩; omega) | (rintro ⟨_, h8⟩; exact absurd (h8.symm.trans (show _ = true by assumption)) (by decide)))]]
  exact (h25.sh.sel (L' := [.own 73 (⟨v24, [x]⟩ : Ls Ins)]) [0] (by decide) ⟨rfl, trivial⟩)
 have hp11 : ¬ (x.op = 12) := of_decide_eq_false hb11
 refine wl_skip h10 (wanted_no h10.fr rfl rfl rfl rfl hb11) rfl rfl fun a26 h26 => ?_; clear h10
 refine wl_skip h26 (wanted_no h26.fr rfl rfl rfl rfl hb11) rfl rfl fun a27 h27 => ?_; clear h26
 refine wl_skip h27 (wanted_no h27.fr rfl rfl rfl rfl hb11) rfl rfl fun a28 h28 => ?_; clear h27
 refine wl_skip h28 (wanted_no h28.fr rfl rfl rfl rfl hb11) rfl rfl fun a29 h29 => ?_; clear h28
 refine wl_skip h29 (wanted_no h29.fr rfl rfl rfl rfl hb11) rfl rfl fun a30 h30 => ?_; clear h29
 refine wv h30 (r_pickF rfl rfl hb11 rfl) rfl rfl fun a31 h31 => ?_; clear h30
 refine wpList_nil (hK6 _ _ ?_)
 refine x_condF h31 rfl rfl ?_
 refine wp_skip ?_
 refine hK5 _ _ ?_
 refine wp_seq_k fun K32 hK32 => wp_region_lit ?_
 refine wv h31 (r_ldbw (i := 0) (vs := [.int .i64 x.op, .int .i64 x.a, .int .i64 x.b, .int .i64 x.c]) ti_73 rfl rfl rfl rfl rfl) rfl rfl fun a33 h33 => ?_; clear h31
 refine wl_ex (x_lit (n := 1) (cs := [.int .i64 x.op, .int .i64 x.a, .int .i64 x.b, .int .i64 x.c]) ([x] : List Ins) h33 sl_64 ti_73 rfl rfl rfl (by decide) rfl (by kernel_rfl) rfl (fun q hq w h => Flat.inner _ _) (fun q hq b hb => (Flat.on _ _ hb).elim) rfl rfl) (wanted_none rfl _) ?_
 rintro a34 w34 ⟨v34, h34⟩; clear h33
 refine wms 1 h34 rfl fun a35 h35 => ?_; clear h34
 refine wpList_nil (hK32 _ _ ?_)
 refine wp_ret ?_
 try simp only [Exit.then, Exit.inBlock]
 refine x_ret1 (fn := Try.f77) (t := 5) rfl h35 rfl ?_
 refine ⟨⟨v34, []⟩, rfl, ?_⟩
 rw [show drpB (nth m.l i) x = [x] from by unfold drpB; rw [if_neg (by first | (rintro ⟨h8, _⟩; omega) | (rintro ⟨_, h8⟩; exact absurd (h8.symm.trans (show _ = true by assumption)) (by decide)))]]
 exact (h35.sh.sel (L' := [.own 73 (⟨v34, [x]⟩ : Ls Ins)]) [0] (by decide) ⟨rfl, trivial⟩)

set_option maxRecDepth 100000 in
set_option maxHeartbeats 4000000 in
theorem drop_k (code : Ls (Ls Ins)) (words : Ls Int) (locks regs : Int) (W : World) (hcode : code.At W) (hwords : words.At W) (hok : OkPg (pgOf code words locks regs)) :
    Rets Try.prog 35 [.agg #[code.v, words.v, .int .i64 locks, .int .i64 regs]] W (fun v w' => ∃ (c : Ls (Ls Ins)) (u : Ls Int), v = .tuple #[.agg #[c.v, u.v, .int .i64 locks, .int .i64 regs], .agg #[.int .i64 0, .int .i64 0, .int .i64 0]] ∧ c.l.map (·.l) = (code.l.map (·.l)).map dropL ∧ u.l = words.l ∧ Sh0 W w' [.deep 64 c, .own 3 u]) := by
 have hz := checkG_ok hok
 obtain ⟨hl1, hl2, hl3, hl4', hl5, hl6, hl7⟩ := ok_len hok
 refine x_enter (N := 42) Try.func35 rfl Try.ntmps35 (Nat.le_of_ble_eq_true rfl) fun a1 hf1 => ?_
 have h1 : St 42 (fun _ => False) W a1 W [(0, .agg #[code.v, words.v, .int .i64 locks, .int .i64 regs])] [.at_ code, .at_ words] := ⟨hf1.sub ⟨rfl, trivial⟩, Sh0.ext2 hcode hwords⟩
 clear hf1
 refine wp_seq_k fun K2 hK2 => wp_region_lit ?_
 refine wl_ex (x_box (cs := [code.v, words.v, .int .i64 locks, .int .i64 regs]) h1 rfl rfl rfl rfl rfl) (wanted_none rfl _) ?_
 rintro a3 w3 ⟨b3, h3⟩; clear h1
 refine wl_ex (x_alloc h3 ti_28 rfl rfl rfl) (wanted_none rfl _) ?_
 rintro a4 w4 ⟨b4, h4⟩; clear h3
 refine wl_ex (x_alloc h4 ti_31 rfl rfl rfl) (wanted_none rfl _) ?_
 rintro a5 w5 ⟨b5, h5⟩; clear h4
 refine wpList_nil (hK2 _ _ ?_)
 refine wp_seq_k fun K6 hK6 => ?_
 refine wp_seq_k fun K7 hK7 => wp_region_lit ?_
 refine wv h5 (r_ldbw (i := 2) (vs := [code.v, words.v, .int .i64 locks, .int .i64 regs]) ti_28 rfl rfl rfl rfl rfl) rfl rfl fun a8 h8 => ?_; clear h5
 refine wl_ex (x_call h8 bd_19 rfl rfl rfl rfl rfl (asmCheck_c (code := code) (words := words) (locks := locks) (regs := regs) (h8.sh.at 3 rfl) (h8.sh.at 4 rfl))) (wanted_none rfl _) ?_
 rintro a9 w9 ⟨_, ⟨rfl, hs9⟩, hf9⟩
 have h9 : St 42 (fun _ => False) W a9 w9 _ _ := ⟨hf9, h8.sh.call0 hs9⟩
 clear hf9 hs9
 clear h8
 refine wl_ex (x_alloc h9 ti_31 rfl rfl rfl) (wanted_none rfl _) ?_
 rintro a10 w10 ⟨b10, h10⟩; clear h9
 refine wl_ex (x_stb (i := 0) (vs := [.int .i64 ((checkG (pgOf code words locks regs)).code), .int .i64 ((checkG (pgOf code words locks regs)).thread), .int .i64 ((checkG (pgOf code words locks regs)).at_)]) (cs' := [.int .i64 ((checkG (pgOf code words locks regs)).code), .int .i64 ((checkG (pgOf code words locks regs)).thread), .int .i64 ((checkG (pgOf code words locks regs)).at_)]) h10 ti_31 rfl rfl rfl rfl rfl rfl rfl (allOne_cons rfl (allOne_cons rfl (allOne_cons rfl allOne_nil))) (Nat.le_of_ble_eq_true rfl) rfl) (wanted_none rfl _) ?_
 rintro a11 w11 h11
 clear h10
 refine wpList_nil (hK7 _ _ ?_)
 refine wp_seq_k fun K12 hK12 => wp_region_lit ?_
 refine wv h11 (r_fieldB (r := 0) fl_31_0 rfl rfl rfl) rfl rfl fun a13 h13 => ?_; clear h11
 refine wv h13 (r_ldb (i := 0) ti_22 rfl rfl rfl rfl) rfl rfl fun a14 h14 => ?_; clear h13
 refine wv h14 (r_neqI (p := (checkG (pgOf code words locks regs)).code) (q := 0) rfl rfl rfl) rfl rfl fun a15 h15 => ?_; clear h14
 refine wpList_nil (hK12 _ _ ?_)
 refine x_condF h15 rfl (by rw [hz]; rfl) ?_
 refine wp_skip ?_
 refine hK6 _ _ ?_
 refine wp_seq_k fun K16 hK16 => wp_region_lit ?_
 refine wv h15 (r_ldbw (i := 3) (vs := [code.v, words.v, .int .i64 locks, .int .i64 regs]) ti_28 rfl rfl rfl rfl rfl) rfl rfl fun a17 h17 => ?_; clear h15
 refine wl_ex (x_alloc h17 ti_28 rfl rfl rfl) (wanted_none rfl _) ?_
 rintro a18 w18 ⟨b18, h18⟩; clear h17
 refine wl_ex (x_stb (i := 0) (vs := [code.v, words.v, .int .i64 locks, .int .i64 regs]) (cs' := [code.v, words.v, .int .i64 locks, .int .i64 regs]) h18 ti_28 rfl rfl rfl rfl rfl rfl rfl (allOne_cons ((h18.sh.at 5 rfl)).one (allOne_cons ((h18.sh.at 6 rfl)).one (allOne_cons rfl (allOne_cons rfl allOne_nil)))) (Nat.le_of_ble_eq_true rfl) rfl) (wanted_none rfl _) ?_
 rintro a19 w19 h19
 clear h18
 refine wpList_nil (hK16 _ _ ?_)
 refine wp_seq_k fun K20 hK20 => wp_region_lit ?_
 refine wv h19 (r_fieldB (r := 1) fl_28_1 rfl rfl rfl) rfl rfl fun a21 h21 => ?_; clear h19
 refine wv h21 (r_ldb (i := 4) ti_24 rfl rfl rfl rfl) rfl rfl fun a22 h22 => ?_; clear h21
 refine wl_ex (x_call h22 bd_58 rfl rfl rfl rfl rfl (cloneI_c words _ (h22.sh.at 6 rfl) (by first | omega | (simp only [List.length_append, List.length_cons, List.length_nil, List.length_set, List.length_replicate, List.length_map, List.length_range]; omega)))) (wanted_none rfl _) ?_
 rintro a23 w23 ⟨_, ⟨s23, rfl, hs23⟩, hf23⟩
 have h23 := (⟨hf23, h22.sh.call hs23 (by intro A hA b hb; first | (simp at hA; done) | (simp at hA; subst hA; first | exact Flat.noRd hb | exact (hb : False).elim) | (simp at hA; rcases hA with rfl | rfl <;> first | exact Flat.noRd hb | exact (hb : False).elim))⟩ : St 42 (fun _ => False) W a23 w23 _ _)
 clear hf23 hs23
 clear h22
 refine wv h23 (r_fieldB (r := 0) fl_28_0 rfl rfl rfl) rfl rfl fun a24 h24 => ?_; clear h23
 refine wl_ex (x_stb (i := 1) (vs := [(.slice none 0 0)]) (cs' := [(.slice none 0 0), words.v, .int .i64 locks, .int .i64 regs]) h24 ti_26 rfl rfl rfl rfl rfl rfl rfl (allOne_cons rfl allOne_nil) (Nat.le_of_ble_eq_true rfl) rfl) (wanted_none rfl _) ?_
 rintro a25 w25 h25
 clear h24
 refine wv h25 (r_fieldB (r := 1) fl_28_1 rfl rfl rfl) rfl rfl fun a26 h26 => ?_; clear h25
 refine wl_ex (x_stb (i := 1) (vs := [s23.v]) (cs' := [(.slice none 0 0), s23.v, .int .i64 locks, .int .i64 regs]) h26 ti_24 rfl rfl rfl rfl rfl (cells_oneL ((h26.sh.own 0 rfl)).one) rfl (allOne_cons ((h26.sh.own 0 rfl)).one allOne_nil) (Nat.le_of_ble_eq_true rfl) rfl) (wanted_none rfl _) ?_
 rintro a27 w27 h27
 clear h26
 refine wpList_nil (hK20 _ _ ?_)
 refine wp_seq_k fun K28 hK28 => ?_
 refine wp_seq_k fun K29 hK29 => wp_region_lit ?_
 refine wv h27 (r_fieldB (r := 0) fl_28_0 rfl rfl rfl) rfl rfl fun a30 h30 => ?_; clear h27
 refine wv h30 (r_ldb (i := 5) ti_26 rfl rfl rfl rfl) rfl rfl fun a31 h31 => ?_; clear h30
 have hl32 : code.l.length ≤ 140737488355328 := (h31.sh.at 6 rfl).len
 refine wv h31 (r_len (s := code) (n := code.l.length) sl_26 rfl rfl (fun w h => (h.at 6 rfl)) rfl) rfl rfl fun a33 h33 => ?_; clear h31
 refine wms 1 h33 rfl fun a34 h34 => ?_; clear h33
 refine wpList_nil (hK29 _ _ ?_)
 refine wp_block ?_
 have h36 := h34.nilDeep (α := Ls Ins) 64
 clear h34
 refine x_loop (fun m a w => ∃ (t : Nat) (qs : List (Ls Ins)) (vq : Value), (t ≤ code.l.length) ∧ (qs.map (·.l) = ((code.l.take t).map (·.l)).map dropL) ∧ (qs.length = t) ∧ St 42 (fun _ => False) W a w [(2, .pointer (some ⟨b4, 0, none⟩)), (3, .pointer (some ⟨b5, 0, none⟩)), (5, .pointer (some ⟨b18, 0, none⟩)), (23, code.v), (24, .int .i64 ((code.l.length : Nat) : Int)), (25, .int .i64 ((t : Nat) : Int))] [.own 3 (⟨s23.v, words.l⟩ : Ls Int), .blk b18 28 [vq, s23.v, .int .i64 locks, .int .i64 regs], .blk b10 31 [.int .i64 ((checkG (pgOf code words locks regs)).code), .int .i64 ((checkG (pgOf code words locks regs)).thread), .int .i64 ((checkG (pgOf code words locks regs)).at_)], .blk b5 31 [.int .i64 0, .int .i64 0, .int .i64 0], .blk b4 28 [(.slice none 0 0), (.slice none 0 0), .int .i64 0, .int .i64 0], .blk b3 28 [code.v, words.v, .int .i64 locks, .int .i64 regs], .at_ code, .at_ words, .deep 64 (⟨vq, qs⟩ : Ls (Ls Ins))] ∧ m = code.l.length - t) ⟨_, 0, [], (.slice none 0 0), (by omega), (rfl), (rfl), h36.nrm ⟨rfl, rfl, rfl, rfl, rfl, rfl, trivial⟩ [1, 2, 3, 4, 5, 6, 7, 8, 0] (by decide) ⟨rfl, rfl, rfl, rfl, rfl, rfl, rfl, rfl, rfl, trivial⟩, rfl⟩ ?_
 clear h36
 rintro m35 a35 w35 ⟨t, qs, vq, ht, hqs, hql, h35, hm35⟩
 refine wp_seq_k fun K37 hK37 => wp_region_lit ?_
 refine wv h35 (r_lssN (p := t) (q := code.l.length) rfl rfl rfl) rfl rfl fun a38 h38 => ?_; clear h35
 refine wpList_nil (hK37 _ _ ?_)
 refine wp_seq_k fun K39 hK39 => ?_
 refine x_cond h38 rfl (fun hb40 => ?_) (fun hb40 => ?_)
 ·
  have hp40 : t < code.l.length := of_decide_eq_true hb40
  refine wp_skip ?_
  refine hK39 _ _ ?_
  refine wp_seq_k fun K41 hK41 => ?_
  refine wp_block ?_
  refine wp_seq_k fun K42 hK42 => wp_region_lit ?_
  refine wv h38 (r_ixN (s := code) (q := t) sl_26 ti_64 rfl rfl rfl (fun w h => (h.at 6 rfl)) (show t < code.l.length from (by omega))) rfl rfl fun a43 h43 => ?_; clear h38
  refine wv h43 (r_lde (s := code) (i := t) (v := (nth code.l t).v) ti_64 rfl rfl rfl (fun w h => (h.at 6 rfl)) (show t < code.l.length from (by omega)) (Nat.le_of_ble_eq_true rfl) rfl) rfl rfl fun a44 h44 => ?_; clear h43
  refine wms 1 h44 rfl fun a45 h45 => ?_; clear h44
  refine wpList_nil (hK42 _ _ ?_)
  obtain ⟨hl4, hjt⟩ := ok_thread hok t (by omega)
  refine wp_seq_k fun K46 hK46 => wp_region_lit ?_
  refine wms 1 h45 rfl fun a47 h47 => ?_; clear h45
  refine wl_ex (x_call h47 bd_76 rfl rfl rfl rfl rfl (dirty_c (nth code.l t) _ ((h47.sh.at 6 rfl).nth t (show t < code.l.length from (by omega))) (by omega) hjt)) (wanted_none rfl _) ?_
  rintro a48 w48 ⟨_, ⟨m48, rfl, hml48, hmm48, hs48⟩, hf48⟩
  have h48 := (⟨hf48, h47.sh.call hs48 (by intro A hA b hb; first | (simp at hA; done) | (simp at hA; subst hA; first | exact Flat.noRd hb | exact (hb : False).elim) | (simp at hA; rcases hA with rfl | rfl <;> first | exact Flat.noRd hb | exact (hb : False).elim))⟩ : St 42 (fun _ => False) W a48 w48 _ _)
  clear hf48 hs48
  clear h47
  refine wl_ex (x_alloc h48 ti_66 rfl rfl rfl) (wanted_none rfl _) ?_
  rintro a49 w49 ⟨b49, h49⟩; clear h48
  refine wl_ex (x_stb (i := 0) (vs := [m48.v]) (cs' := [m48.v]) h49 ti_66 rfl rfl rfl rfl rfl (cells_oneL ((h49.sh.own 1 rfl)).one) rfl (allOne_cons ((h49.sh.own 1 rfl)).one allOne_nil) (Nat.le_of_ble_eq_true rfl) rfl) (wanted_none rfl _) ?_
  rintro a50 w50 h50
  clear h49
  refine wpList_nil (hK46 _ _ ?_)
  have h51 : St 42 (fun _ => False) W a50 w50 [(2, .pointer (some ⟨b4, 0, none⟩)), (3, .pointer (some ⟨b5, 0, none⟩)), (5, .pointer (some ⟨b18, 0, none⟩)), (7, (nth code.l t).v), (8, .pointer (some ⟨b49, 0, none⟩)), (23, code.v), (24, .int .i64 ((code.l.length : Nat) : Int)), (25, .int .i64 ((t : Nat) : Int)), (26, .bool (decide (t < code.l.length))), (27, .pointer (some (padr code.v 1 t 0))), (28, (nth code.l t).v), (29, (nth code.l t).v), (30, m48.v)] [.blk b49 66 [m48.v], .own 4 m48, .own 3 (⟨s23.v, words.l⟩ : Ls Int), .blk b18 28 [vq, s23.v, .int .i64 locks, .int .i64 regs], .blk b10 31 [.int .i64 ((checkG (pgOf code words locks regs)).code), .int .i64 ((checkG (pgOf code words locks regs)).thread), .int .i64 ((checkG (pgOf code words locks regs)).at_)], .blk b5 31 [.int .i64 0, .int .i64 0, .int .i64 0], .blk b4 28 [(.slice none 0 0), (.slice none 0 0), .int .i64 0, .int .i64 0], .blk b3 28 [code.v, words.v, .int .i64 locks, .int .i64 regs], .at_ code, .at_ words, .deep 64 (⟨vq, qs⟩ : Ls (Ls Ins))] := h50.nrm ⟨rfl, rfl, rfl, rfl, rfl, rfl, rfl, rfl, rfl, rfl, rfl, rfl, rfl, trivial⟩ [0, 1, 2, 3, 4, 5, 6, 7, 8, 9, 10] (by decide) ⟨rfl, rfl, rfl, rfl, rfl, rfl, rfl, rfl, rfl, rfl, rfl, trivial⟩
  clear h50
  refine x_any (fun S a w => (S 4 = false ∧ S 5 = false ∧ S 6 = false ∧ S 8 = false ∧ FrI 42 S [(2, .pointer (some ⟨b4, 0, none⟩)), (3, .pointer (some ⟨b5, 0, none⟩)), (5, .pointer (some ⟨b18, 0, none⟩)), (7, (nth code.l t).v), (8, .pointer (some ⟨b49, 0, none⟩)), (23, code.v), (24, .int .i64 ((code.l.length : Nat) : Int)), (25, .int .i64 ((t : Nat) : Int)), (26, .bool (decide (t < code.l.length))), (27, .pointer (some (padr code.v 1 t 0))), (28, (nth code.l t).v), (29, (nth code.l t).v), (30, m48.v)] [(0, 31, .pointer (some ⟨b18, 0, none⟩)), (1, 32, vq), (2, 33, (nth code.l t).v), (3, 34, .func (.func 77) #[] #[.pointer (some ⟨b49, 0, none⟩)])] a ∧ Sh (fun _ => False) W w [.blk b49 66 [m48.v], .own 4 m48, .own 3 (⟨s23.v, words.l⟩ : Ls Int), .blk b18 28 [vq, s23.v, .int .i64 locks, .int .i64 regs], .blk b10 31 [.int .i64 ((checkG (pgOf code words locks regs)).code), .int .i64 ((checkG (pgOf code words locks regs)).thread), .int .i64 ((checkG (pgOf code words locks regs)).at_)], .blk b5 31 [.int .i64 0, .int .i64 0, .int .i64 0], .blk b4 28 [(.slice none 0 0), (.slice none 0 0), .int .i64 0, .int .i64 0], .blk b3 28 [code.v, words.v, .int .i64 locks, .int .i64 regs], .at_ code, .at_ words, .deep 64 (⟨vq, qs⟩ : Ls (Ls Ins))]) ∨ (S 4 = true ∧ S 5 = false ∧ S 6 = false ∧ S 8 = false ∧ ∃ (s7004 : Ls Ins), (s7004.l = movedL (drpW (nth m48.l)) ((nth code.l t).l)) ∧ FrI 42 S [(2, .pointer (some ⟨b4, 0, none⟩)), (3, .pointer (some ⟨b5, 0, none⟩)), (5, .pointer (some ⟨b18, 0, none⟩)), (7, (nth code.l t).v), (8, .pointer (some ⟨b49, 0, none⟩)), (23, code.v), (24, .int .i64 ((code.l.length : Nat) : Int)), (25, .int .i64 ((t : Nat) : Int)), (26, .bool (decide (t < code.l.length))), (27, .pointer (some (padr code.v 1 t 0))), (28, (nth code.l t).v), (29, (nth code.l t).v), (30, m48.v)] [(0, 31, .pointer (some ⟨b18, 0, none⟩)), (1, 32, vq), (2, 33, (nth code.l t).v), (3, 34, .func (.func 77) #[] #[.pointer (some ⟨b49, 0, none⟩)]), (4, 35, s7004.v)] a ∧ Sh (fun _ => False) W w [.own 73 s7004, .blk b49 66 [m48.v], .own 4 m48, .own 3 (⟨s23.v, words.l⟩ : Ls Int), .blk b18 28 [vq, s23.v, .int .i64 locks, .int .i64 regs], .blk b10 31 [.int .i64 ((checkG (pgOf code words locks regs)).code), .int .i64 ((checkG (pgOf code words locks regs)).thread), .int .i64 ((checkG (pgOf code words locks regs)).at_)], .blk b5 31 [.int .i64 0, .int .i64 0, .int .i64 0], .blk b4 28 [(.slice none 0 0), (.slice none 0 0), .int .i64 0, .int .i64 0], .blk b3 28 [code.v, words.v, .int .i64 locks, .int .i64 regs], .at_ code, .at_ words, .deep 64 (⟨vq, qs⟩ : Ls (Ls Ins))]) ∨ (S 4 = true ∧ S 5 = true ∧ S 6 = false ∧ S 8 = false ∧ ∃ (s7004 : Ls Ins) (v7005 : Value), (s7004.l = movedL (drpW (nth m48.l)) ((nth code.l t).l)) ∧ FrI 42 S [(2, .pointer (some ⟨b4, 0, none⟩)), (3, .pointer (some ⟨b5, 0, none⟩)), (5, .pointer (some ⟨b18, 0, none⟩)), (7, (nth code.l t).v), (8, .pointer (some ⟨b49, 0, none⟩)), (23, code.v), (24, .int .i64 ((code.l.length : Nat) : Int)), (25, .int .i64 ((t : Nat) : Int)), (26, .bool (decide (t < code.l.length))), (27, .pointer (some (padr code.v 1 t 0))), (28, (nth code.l t).v), (29, (nth code.l t).v), (30, m48.v)] [(0, 31, .pointer (some ⟨b18, 0, none⟩)), (1, 32, vq), (2, 33, (nth code.l t).v), (3, 34, .func (.func 77) #[] #[.pointer (some ⟨b49, 0, none⟩)]), (4, 35, s7004.v), (5, 36, v7005)] a ∧ Sh (fun _ => False) W w [.deep 64 (⟨v7005, [s7004]⟩ : Ls (Ls Ins)), .blk b49 66 [m48.v], .own 4 m48, .own 3 (⟨s23.v, words.l⟩ : Ls Int), .blk b18 28 [vq, s23.v, .int .i64 locks, .int .i64 regs], .blk b10 31 [.int .i64 ((checkG (pgOf code words locks regs)).code), .int .i64 ((checkG (pgOf code words locks regs)).thread), .int .i64 ((checkG (pgOf code words locks regs)).at_)], .blk b5 31 [.int .i64 0, .int .i64 0, .int .i64 0], .blk b4 28 [(.slice none 0 0), (.slice none 0 0), .int .i64 0, .int .i64 0], .blk b3 28 [code.v, words.v, .int .i64 locks, .int .i64 regs], .at_ code, .at_ words, .deep 64 (⟨vq, qs⟩ : Ls (Ls Ins))]) ∨ (S 4 = true ∧ S 5 = true ∧ S 6 = true ∧ S 8 = false ∧ ∃ (s7004 : Ls Ins) (v7005 : Value) (v7006 : Value), (s7004.l = movedL (drpW (nth m48.l)) ((nth code.l t).l)) ∧ FrI 42 S [(2, .pointer (some ⟨b4, 0, none⟩)), (3, .pointer (some ⟨b5, 0, none⟩)), (5, .pointer (some ⟨b18, 0, none⟩)), (7, (nth code.l t).v), (8, .pointer (some ⟨b49, 0, none⟩)), (23, code.v), (24, .int .i64 ((code.l.length : Nat) : Int)), (25, .int .i64 ((t : Nat) : Int)), (26, .bool (decide (t < code.l.length))), (27, .pointer (some (padr code.v 1 t 0))), (28, (nth code.l t).v), (29, (nth code.l t).v), (30, m48.v)] [(0, 31, .pointer (some ⟨b18, 0, none⟩)), (1, 32, vq), (2, 33, (nth code.l t).v), (3, 34, .func (.func 77) #[] #[.pointer (some ⟨b49, 0, none⟩)]), (4, 35, s7004.v), (5, 36, v7005), (6, 37, v7006), (7, 38, .pointer (some ⟨b18, 0, none⟩))] a ∧ Sh (fun _ => False) W w [.deep 64 (⟨v7006, qs ++ ([s7004])⟩ : Ls (Ls Ins)), .blk b49 66 [m48.v], .own 4 m48, .own 3 (⟨s23.v, words.l⟩ : Ls Int), .blk b18 28 [vq, s23.v, .int .i64 locks, .int .i64 regs], .blk b10 31 [.int .i64 ((checkG (pgOf code words locks regs)).code), .int .i64 ((checkG (pgOf code words locks regs)).thread), .int .i64 ((checkG (pgOf code words locks regs)).at_)], .blk b5 31 [.int .i64 0, .int .i64 0, .int .i64 0], .blk b4 28 [(.slice none 0 0), (.slice none 0 0), .int .i64 0, .int .i64 0], .blk b3 28 [code.v, words.v, .int .i64 locks, .int .i64 regs], .at_ code, .at_ words]) ∨ (S 4 = true ∧ S 5 = true ∧ S 6 = true ∧ S 8 = true ∧ ∃ (s7004 : Ls Ins) (v7005 : Value) (v7006 : Value), (s7004.l = movedL (drpW (nth m48.l)) ((nth code.l t).l)) ∧ FrI 42 S [(2, .pointer (some ⟨b4, 0, none⟩)), (3, .pointer (some ⟨b5, 0, none⟩)), (5, .pointer (some ⟨b18, 0, none⟩)), (7, (nth code.l t).v), (8, .pointer (some ⟨b49, 0, none⟩)), (23, code.v), (24, .int .i64 ((code.l.length : Nat) : Int)), (25, .int .i64 ((t : Nat) : Int)), (26, .bool (decide (t < code.l.length))), (27, .pointer (some (padr code.v 1 t 0))), (28, (nth code.l t).v), (29, (nth code.l t).v), (30, m48.v)] [(0, 31, .pointer (some ⟨b18, 0, none⟩)), (1, 32, vq), (2, 33, (nth code.l t).v), (3, 34, .func (.func 77) #[] #[.pointer (some ⟨b49, 0, none⟩)]), (4, 35, s7004.v), (5, 36, v7005), (6, 37, v7006), (7, 38, .pointer (some ⟨b18, 0, none⟩))] a ∧ Sh (fun _ => False) W w [.deep 64 (⟨v7006, qs ++ ([s7004])⟩ : Ls (Ls Ins)), .blk b49 66 [m48.v], .own 4 m48, .own 3 (⟨s23.v, words.l⟩ : Ls Int), .blk b18 28 [v7006, s23.v, .int .i64 locks, .int .i64 regs], .blk b10 31 [.int .i64 ((checkG (pgOf code words locks regs)).code), .int .i64 ((checkG (pgOf code words locks regs)).thread), .int .i64 ((checkG (pgOf code words locks regs)).at_)], .blk b5 31 [.int .i64 0, .int .i64 0, .int .i64 0], .blk b4 28 [(.slice none 0 0), (.slice none 0 0), .int .i64 0, .int .i64 0], .blk b3 28 [code.v, words.v, .int .i64 locks, .int .i64 regs], .at_ code, .at_ words])) (by kernel_rfl) (by kernel_rfl) (Or.inl (⟨rfl, rfl, rfl, rfl, FrI.start h51.fr, h51.sh.drew⟩)) ?_ ?_
  ·intro S i o ho hSi hcl hdep a w hI
   clear h51
   rcases i with _ | _ | _ | _ | _ | _ | _ | _ | _ | i
   ·
    obtain rfl : _ = o := Option.some.inj ho
    rcases hI with ⟨hw4, hw5, hw6, hw8, hfr, hsh⟩ | ⟨hw4, hw5, hw6, hw8, s7004, hl7004, hfr, hsh⟩ | ⟨hw4, hw5, hw6, hw8, s7004, v7005, hl7004, hfr, hsh⟩ | ⟨hw4, hw5, hw6, hw8, s7004, v7005, v7006, hl7004, hfr, hsh⟩ | ⟨hw4, hw5, hw6, hw8, s7004, v7005, v7006, hl7004, hfr, hsh⟩
    ·
     exact sq hfr hfr.fr0 hsh (r_fieldB (r := 0) fl_28_0 rfl rfl rfl) 0 rfl rfl rfl rfl rfl rfl fun a hg => Or.inl (⟨un rfl hw4, un rfl hw5, un rfl hw6, un rfl hw8, hg, hsh⟩)
    ·
     exact sq hfr hfr.fr0 hsh (r_fieldB (r := 0) fl_28_0 rfl rfl rfl) 0 rfl rfl rfl rfl rfl rfl fun a hg => Or.inr (Or.inl (⟨un rfl hw4, un rfl hw5, un rfl hw6, un rfl hw8, s7004, hl7004, hg, hsh⟩))
    ·
     exact sq hfr hfr.fr0 hsh (r_fieldB (r := 0) fl_28_0 rfl rfl rfl) 0 rfl rfl rfl rfl rfl rfl fun a hg => Or.inr (Or.inr (Or.inl (⟨un rfl hw4, un rfl hw5, un rfl hw6, un rfl hw8, s7004, v7005, hl7004, hg, hsh⟩)))
    ·
     exact no_way (cA hcl 6 0 rfl hw6) hSi
    ·
     exact no_way (cA hcl 6 0 rfl hw6) hSi
   ·
    obtain rfl : _ = o := Option.some.inj ho
    have hd0 : S 0 = true := depAt hdep 0 rfl rfl
    rcases hI with ⟨hw4, hw5, hw6, hw8, hfr, hsh⟩ | ⟨hw4, hw5, hw6, hw8, s7004, hl7004, hfr, hsh⟩ | ⟨hw4, hw5, hw6, hw8, s7004, v7005, hl7004, hfr, hsh⟩ | ⟨hw4, hw5, hw6, hw8, s7004, v7005, v7006, hl7004, hfr, hsh⟩ | ⟨hw4, hw5, hw6, hw8, s7004, v7005, v7006, hl7004, hfr, hsh⟩
    ·
     exact sq hfr (Fr.cons hfr.fr0 (hfr.at_ 0 0 31 _ rfl hd0)) hsh (r_ldb (i := 3) ti_26 rfl rfl rfl rfl) 1 rfl rfl rfl rfl rfl rfl fun a hg => Or.inl (⟨un rfl hw4, un rfl hw5, un rfl hw6, un rfl hw8, hg, hsh⟩)
    ·
     exact sq hfr (Fr.cons hfr.fr0 (hfr.at_ 0 0 31 _ rfl hd0)) hsh (r_ldb (i := 4) ti_26 rfl rfl rfl rfl) 1 rfl rfl rfl rfl rfl rfl fun a hg => Or.inr (Or.inl (⟨un rfl hw4, un rfl hw5, un rfl hw6, un rfl hw8, s7004, hl7004, hg, hsh⟩))
    ·
     exact sq hfr (Fr.cons hfr.fr0 (hfr.at_ 0 0 31 _ rfl hd0)) hsh (r_ldb (i := 4) ti_26 rfl rfl rfl rfl) 1 rfl rfl rfl rfl rfl rfl fun a hg => Or.inr (Or.inr (Or.inl (⟨un rfl hw4, un rfl hw5, un rfl hw6, un rfl hw8, s7004, v7005, hl7004, hg, hsh⟩)))
    ·
     exact no_way (cA hcl 6 1 rfl hw6) hSi
    ·
     exact no_way (cA hcl 6 1 rfl hw6) hSi
   ·
    obtain rfl : _ = o := Option.some.inj ho
    rcases hI with ⟨hw4, hw5, hw6, hw8, hfr, hsh⟩ | ⟨hw4, hw5, hw6, hw8, s7004, hl7004, hfr, hsh⟩ | ⟨hw4, hw5, hw6, hw8, s7004, v7005, hl7004, hfr, hsh⟩ | ⟨hw4, hw5, hw6, hw8, s7004, v7005, v7006, hl7004, hfr, hsh⟩ | ⟨hw4, hw5, hw6, hw8, s7004, v7005, v7006, hl7004, hfr, hsh⟩
    ·
     exact sq hfr hfr.fr0 hsh (r_move rfl rfl) 2 rfl rfl rfl rfl rfl rfl fun a hg => Or.inl (⟨un rfl hw4, un rfl hw5, un rfl hw6, un rfl hw8, hg, hsh⟩)
    ·
     exact no_way (cA hcl 4 2 rfl hw4) hSi
    ·
     exact no_way (cA hcl 4 2 rfl hw4) hSi
    ·
     exact no_way (cA hcl 4 2 rfl hw4) hSi
    ·
     exact no_way (cA hcl 4 2 rfl hw4) hSi
   ·
    obtain rfl : _ = o := Option.some.inj ho
    rcases hI with ⟨hw4, hw5, hw6, hw8, hfr, hsh⟩ | ⟨hw4, hw5, hw6, hw8, s7004, hl7004, hfr, hsh⟩ | ⟨hw4, hw5, hw6, hw8, s7004, v7005, hl7004, hfr, hsh⟩ | ⟨hw4, hw5, hw6, hw8, s7004, v7005, v7006, hl7004, hfr, hsh⟩ | ⟨hw4, hw5, hw6, hw8, s7004, v7005, v7006, hl7004, hfr, hsh⟩
    ·
     exact sq hfr hfr.fr0 hsh (r_makeFunc rfl rfl rfl) 3 rfl rfl rfl rfl rfl rfl fun a hg => Or.inl (⟨un rfl hw4, un rfl hw5, un rfl hw6, un rfl hw8, hg, hsh⟩)
    ·
     exact no_way (cA hcl 4 3 rfl hw4) hSi
    ·
     exact no_way (cA hcl 4 3 rfl hw4) hSi
    ·
     exact no_way (cA hcl 4 3 rfl hw4) hSi
    ·
     exact no_way (cA hcl 4 3 rfl hw4) hSi
   ·
    obtain rfl : _ = o := Option.some.inj ho
    have hd2 : S 2 = true := depAt hdep 0 rfl rfl
    have hd3 : S 3 = true := depAt hdep 1 rfl rfl
    rcases hI with ⟨hw4, hw5, hw6, hw8, hfr, hsh⟩ | ⟨hw4, hw5, hw6, hw8, s7004, hl7004, hfr, hsh⟩ | ⟨hw4, hw5, hw6, hw8, s7004, v7005, hl7004, hfr, hsh⟩ | ⟨hw4, hw5, hw6, hw8, s7004, v7005, v7006, hl7004, hfr, hsh⟩ | ⟨hw4, hw5, hw6, hw8, s7004, v7005, v7006, hl7004, hfr, hsh⟩
    ·
     have hs := St.mk (Fr.cons (Fr.cons hfr.fr0 (hfr.at_ 2 2 33 _ rfl hd2)) (hfr.at_ 3 3 34 _ rfl hd3)) hsh
     refine step_ex (x_call hs bd_70 rfl rfl rfl rfl rfl (moved_c (nth code.l t) 77 [] [.pointer (some ⟨b49, 0, none⟩)] (drpW (nth m48.l)) (Asn.ro [.blk b49 66 [m48.v], .at_ m48]) _ ((hs.sh.at 8 rfl).nth t (show t < code.l.length from (by omega))) (show ((nth code.l t).l).length ≤ 5000 from (by omega)) bd_77 (fun _ h => h) (by intro A hA; simp at hA; rcases hA with rfl | rfl; exact hs.sh.ok _ (List.mem_of_getElem? (i := 0) rfl); exact (hs.sh.own 1 rfl)) (fun w i hE (hi : i < (nth code.l t).l.length) => drop1_c i _ b49 m48 w (by omega) (by omega) (hE (.blk b49 66 [m48.v]) (by simp)) (hE (.at_ m48) (by simp))) (fun i hi => by have := drpB_len (nth m48.l i) (nth (nth code.l t).l i); exact Nat.le_trans this (by omega)) (drp_ok _ _ hjt))) (wanted_none rfl _) ?_
     rintro a63 w63 ⟨_, ⟨s63, rfl, hl63, hs63⟩, hf63⟩ ⟨v0, ht63⟩
     have h63 := (⟨hf63, hs.sh.call hs63 (by intro A hA b hb; first | (simp at hA; done) | (simp at hA; subst hA; first | exact Flat.noRd hb | exact (hb : False).elim) | (simp at hA; rcases hA with rfl | rfl <;> first | exact Flat.noRd hb | exact (hb : False).elim))⟩ : St 42 (fun _ => False) W a63 w63 _ _)
     clear hf63 hs63
     have hm63 : FrI 42 S [(2, .pointer (some ⟨b4, 0, none⟩)), (3, .pointer (some ⟨b5, 0, none⟩)), (5, .pointer (some ⟨b18, 0, none⟩)), (7, (nth code.l t).v), (8, .pointer (some ⟨b49, 0, none⟩)), (23, code.v), (24, .int .i64 ((code.l.length : Nat) : Int)), (25, .int .i64 ((t : Nat) : Int)), (26, .bool (decide (t < code.l.length))), (27, .pointer (some (padr code.v 1 t 0))), (28, (nth code.l t).v), (29, (nth code.l t).v), (30, m48.v)] [(0, 31, .pointer (some ⟨b18, 0, none⟩)), (1, 32, vq), (2, 33, (nth code.l t).v), (3, 34, .func (.func 77) #[] #[.pointer (some ⟨b49, 0, none⟩)]), (4, 35, s63.v)] a := hfr.more (by
      intro k j d v hk hS
      rcases k with _ | _ | _ | _ | _ | k
      ·obtain ⟨rfl, rfl, rfl⟩ : _ = j ∧ _ = d ∧ _ = v := by simpa using hk
       exact hfr.at_ 0 _ _ _ rfl hS
      ·obtain ⟨rfl, rfl, rfl⟩ : _ = j ∧ _ = d ∧ _ = v := by simpa using hk
       exact hfr.at_ 1 _ _ _ rfl hS
      ·obtain ⟨rfl, rfl, rfl⟩ : _ = j ∧ _ = d ∧ _ = v := by simpa using hk
       exact hfr.at_ 2 _ _ _ rfl hS
      ·obtain ⟨rfl, rfl, rfl⟩ : _ = j ∧ _ = d ∧ _ = v := by simpa using hk
       exact hfr.at_ 3 _ _ _ rfl hS
      ·obtain ⟨rfl, rfl, rfl⟩ : _ = j ∧ _ = d ∧ _ = v := by simpa using hk
       exact no_way hS hSi
      · simp at hk)
     exact Or.inr (Or.inl (⟨upd_self _ _, un rfl hw5, un rfl hw6, un rfl hw8, s63, hl63, hm63.step ht63 h63.fr.defers (h63.fr.at_ 35 _ rfl) 4 rfl rfl rfl rfl, (h63.sh.sel (L' := [.own 73 s63, .blk b49 66 [m48.v], .own 4 m48, .own 3 (⟨s23.v, words.l⟩ : Ls Int), .blk b18 28 [vq, s23.v, .int .i64 locks, .int .i64 regs], .blk b10 31 [.int .i64 ((checkG (pgOf code words locks regs)).code), .int .i64 ((checkG (pgOf code words locks regs)).thread), .int .i64 ((checkG (pgOf code words locks regs)).at_)], .blk b5 31 [.int .i64 0, .int .i64 0, .int .i64 0], .blk b4 28 [(.slice none 0 0), (.slice none 0 0), .int .i64 0, .int .i64 0], .blk b3 28 [code.v, words.v, .int .i64 locks, .int .i64 regs], .at_ code, .at_ words, .deep 64 (⟨vq, qs⟩ : Ls (Ls Ins))]) [0, 1, 2, 3, 4, 5, 6, 7, 8, 9, 10, 11] (by decide) ⟨rfl, rfl, rfl, rfl, rfl, rfl, rfl, rfl, rfl, rfl, rfl, rfl, trivial⟩)⟩))
    ·
     exact no_way hw4 hSi
    ·
     exact no_way hw4 hSi
    ·
     exact no_way hw4 hSi
    ·
     exact no_way hw4 hSi
   ·
    obtain rfl : _ = o := Option.some.inj ho
    have hd4 : S 4 = true := depAt hdep 0 rfl rfl
    rcases hI with ⟨hw4, hw5, hw6, hw8, hfr, hsh⟩ | ⟨hw4, hw5, hw6, hw8, s7004, hl7004, hfr, hsh⟩ | ⟨hw4, hw5, hw6, hw8, s7004, v7005, hl7004, hfr, hsh⟩ | ⟨hw4, hw5, hw6, hw8, s7004, v7005, v7006, hl7004, hfr, hsh⟩ | ⟨hw4, hw5, hw6, hw8, s7004, v7005, v7006, hl7004, hfr, hsh⟩
    ·
     exact no_way hd4 hw4
    ·
     have hs := St.mk (Fr.cons hfr.fr0 (hfr.at_ 4 4 35 _ rfl hd4)) hsh
     refine step_ex (x_litD (E := 0) (x := s7004) hs sl_26 ti_64 rfl rfl rfl ((hs.sh.own 0 rfl)) (fun b hb => (own_on (hs.sh.ok _ (List.mem_of_getElem? (i := 0) rfl)) hb).elim (fun h => h) (fun h => Flat.noRd h)) (fun b hb => Flat.noRd hb) rfl rfl) (wanted_none rfl _) ?_
     rintro a64 w64 ⟨v64, h64⟩ ⟨v0, ht64⟩
     have hm64 : FrI 42 S [(2, .pointer (some ⟨b4, 0, none⟩)), (3, .pointer (some ⟨b5, 0, none⟩)), (5, .pointer (some ⟨b18, 0, none⟩)), (7, (nth code.l t).v), (8, .pointer (some ⟨b49, 0, none⟩)), (23, code.v), (24, .int .i64 ((code.l.length : Nat) : Int)), (25, .int .i64 ((t : Nat) : Int)), (26, .bool (decide (t < code.l.length))), (27, .pointer (some (padr code.v 1 t 0))), (28, (nth code.l t).v), (29, (nth code.l t).v), (30, m48.v)] [(0, 31, .pointer (some ⟨b18, 0, none⟩)), (1, 32, vq), (2, 33, (nth code.l t).v), (3, 34, .func (.func 77) #[] #[.pointer (some ⟨b49, 0, none⟩)]), (4, 35, s7004.v), (5, 36, v64)] a := hfr.more (by
      intro k j d v hk hS
      rcases k with _ | _ | _ | _ | _ | _ | k
      ·obtain ⟨rfl, rfl, rfl⟩ : _ = j ∧ _ = d ∧ _ = v := by simpa using hk
       exact hfr.at_ 0 _ _ _ rfl hS
      ·obtain ⟨rfl, rfl, rfl⟩ : _ = j ∧ _ = d ∧ _ = v := by simpa using hk
       exact hfr.at_ 1 _ _ _ rfl hS
      ·obtain ⟨rfl, rfl, rfl⟩ : _ = j ∧ _ = d ∧ _ = v := by simpa using hk
       exact hfr.at_ 2 _ _ _ rfl hS
      ·obtain ⟨rfl, rfl, rfl⟩ : _ = j ∧ _ = d ∧ _ = v := by simpa using hk
       exact hfr.at_ 3 _ _ _ rfl hS
      ·obtain ⟨rfl, rfl, rfl⟩ : _ = j ∧ _ = d ∧ _ = v := by simpa using hk
       exact hfr.at_ 4 _ _ _ rfl hS
      ·obtain ⟨rfl, rfl, rfl⟩ : _ = j ∧ _ = d ∧ _ = v := by simpa using hk
       exact no_way hS hSi
      · simp at hk)
     exact Or.inr (Or.inr (Or.inl (⟨un rfl hw4, upd_self _ _, un rfl hw6, un rfl hw8, s7004, v64, hl7004, hm64.step ht64 h64.fr.defers (h64.fr.at_ 36 _ rfl) 5 rfl rfl rfl rfl, (h64.sh.sel (L' := [.deep 64 (⟨v64, [s7004]⟩ : Ls (Ls Ins)), .blk b49 66 [m48.v], .own 4 m48, .own 3 (⟨s23.v, words.l⟩ : Ls Int), .blk b18 28 [vq, s23.v, .int .i64 locks, .int .i64 regs], .blk b10 31 [.int .i64 ((checkG (pgOf code words locks regs)).code), .int .i64 ((checkG (pgOf code words locks regs)).thread), .int .i64 ((checkG (pgOf code words locks regs)).at_)], .blk b5 31 [.int .i64 0, .int .i64 0, .int .i64 0], .blk b4 28 [(.slice none 0 0), (.slice none 0 0), .int .i64 0, .int .i64 0], .blk b3 28 [code.v, words.v, .int .i64 locks, .int .i64 regs], .at_ code, .at_ words, .deep 64 (⟨vq, qs⟩ : Ls (Ls Ins))]) [0, 1, 2, 3, 4, 5, 6, 7, 8, 9, 10, 11] (by decide) ⟨rfl, rfl, rfl, rfl, rfl, rfl, rfl, rfl, rfl, rfl, rfl, rfl, trivial⟩)⟩)))
    ·
     exact no_way hw5 hSi
    ·
     exact no_way hw5 hSi
    ·
     exact no_way hw5 hSi
   ·
    obtain rfl : _ = o := Option.some.inj ho
    have hd1 : S 1 = true := depAt hdep 0 rfl rfl
    have hd5 : S 5 = true := depAt hdep 1 rfl rfl
    have hd4 : S 4 = true := depAt hdep 2 rfl rfl
    rcases hI with ⟨hw4, hw5, hw6, hw8, hfr, hsh⟩ | ⟨hw4, hw5, hw6, hw8, s7004, hl7004, hfr, hsh⟩ | ⟨hw4, hw5, hw6, hw8, s7004, v7005, hl7004, hfr, hsh⟩ | ⟨hw4, hw5, hw6, hw8, s7004, v7005, v7006, hl7004, hfr, hsh⟩ | ⟨hw4, hw5, hw6, hw8, s7004, v7005, v7006, hl7004, hfr, hsh⟩
    ·
     exact no_way hd4 hw4
    ·
     exact no_way hd5 hw5
    ·
     have hs := St.mk (Fr.cons (Fr.cons hfr.fr0 (hfr.at_ 1 1 32 _ rfl hd1)) (hfr.at_ 5 5 36 _ rfl hd5)) hsh
     have h65 := hs.sel (L' := [.deep 64 (⟨vq, qs⟩ : Ls (Ls Ins)), .deep 64 (⟨v7005, [s7004]⟩ : Ls (Ls Ins)), .blk b49 66 [m48.v], .own 4 m48, .own 3 (⟨s23.v, words.l⟩ : Ls Int), .blk b18 28 [vq, s23.v, .int .i64 locks, .int .i64 regs], .blk b10 31 [.int .i64 ((checkG (pgOf code words locks regs)).code), .int .i64 ((checkG (pgOf code words locks regs)).thread), .int .i64 ((checkG (pgOf code words locks regs)).at_)], .blk b5 31 [.int .i64 0, .int .i64 0, .int .i64 0], .blk b4 28 [(.slice none 0 0), (.slice none 0 0), .int .i64 0, .int .i64 0], .blk b3 28 [code.v, words.v, .int .i64 locks, .int .i64 regs], .at_ code, .at_ words]) [11, 0, 1, 2, 3, 4, 5, 6, 7, 8, 9, 10] (by decide) ⟨rfl, rfl, rfl, rfl, rfl, rfl, rfl, rfl, rfl, rfl, rfl, rfl, trivial⟩
     refine step_ex (x_appD (s := (⟨vq, qs⟩ : Ls (Ls Ins))) (m := (⟨v7005, [s7004]⟩ : Ls (Ls Ins))) h65 sl_26 ti_64 rfl rfl rfl rfl rfl rfl rfl inferInstance (show (qs.length + ([s7004]).length) * 24 ≤ 140737488355328 ∧ qs.length + ([s7004]).length ≤ 140737488355328 from (by first | omega | (simp only [List.length_append, List.length_cons, List.length_nil, List.length_set, List.length_replicate, List.length_map, List.length_range]; omega))) rfl rfl) (wanted_none rfl _) ?_
     rintro a66 w66 ⟨v66, h66⟩ ⟨v0, ht66⟩
     have hm66 : FrI 42 S [(2, .pointer (some ⟨b4, 0, none⟩)), (3, .pointer (some ⟨b5, 0, none⟩)), (5, .pointer (some ⟨b18, 0, none⟩)), (7, (nth code.l t).v), (8, .pointer (some ⟨b49, 0, none⟩)), (23, code.v), (24, .int .i64 ((code.l.length : Nat) : Int)), (25, .int .i64 ((t : Nat) : Int)), (26, .bool (decide (t < code.l.length))), (27, .pointer (some (padr code.v 1 t 0))), (28, (nth code.l t).v), (29, (nth code.l t).v), (30, m48.v)] [(0, 31, .pointer (some ⟨b18, 0, none⟩)), (1, 32, vq), (2, 33, (nth code.l t).v), (3, 34, .func (.func 77) #[] #[.pointer (some ⟨b49, 0, none⟩)]), (4, 35, s7004.v), (5, 36, v7005), (6, 37, v66), (7, 38, .pointer (some ⟨b18, 0, none⟩))] a := hfr.more (by
      intro k j d v hk hS
      rcases k with _ | _ | _ | _ | _ | _ | _ | _ | k
      ·obtain ⟨rfl, rfl, rfl⟩ : _ = j ∧ _ = d ∧ _ = v := by simpa using hk
       exact hfr.at_ 0 _ _ _ rfl hS
      ·obtain ⟨rfl, rfl, rfl⟩ : _ = j ∧ _ = d ∧ _ = v := by simpa using hk
       exact hfr.at_ 1 _ _ _ rfl hS
      ·obtain ⟨rfl, rfl, rfl⟩ : _ = j ∧ _ = d ∧ _ = v := by simpa using hk
       exact hfr.at_ 2 _ _ _ rfl hS
      ·obtain ⟨rfl, rfl, rfl⟩ : _ = j ∧ _ = d ∧ _ = v := by simpa using hk
       exact hfr.at_ 3 _ _ _ rfl hS
      ·obtain ⟨rfl, rfl, rfl⟩ : _ = j ∧ _ = d ∧ _ = v := by simpa using hk
       exact hfr.at_ 4 _ _ _ rfl hS
      ·obtain ⟨rfl, rfl, rfl⟩ : _ = j ∧ _ = d ∧ _ = v := by simpa using hk
       exact hfr.at_ 5 _ _ _ rfl hS
      ·obtain ⟨rfl, rfl, rfl⟩ : _ = j ∧ _ = d ∧ _ = v := by simpa using hk
       exact no_way hS hSi
      ·obtain ⟨rfl, rfl, rfl⟩ : _ = j ∧ _ = d ∧ _ = v := by simpa using hk
       exact no_way (cA hcl 7 6 rfl hS) hSi
      · simp at hk)
     exact Or.inr (Or.inr (Or.inr (Or.inl (⟨un rfl hw4, un rfl hw5, upd_self _ _, un rfl hw8, s7004, v7005, v66, hl7004, hm66.step ht66 h66.fr.defers (h66.fr.at_ 37 _ rfl) 6 rfl rfl rfl rfl, (h66.sh.sel (L' := [.deep 64 (⟨v66, qs ++ ([s7004])⟩ : Ls (Ls Ins)), .blk b49 66 [m48.v], .own 4 m48, .own 3 (⟨s23.v, words.l⟩ : Ls Int), .blk b18 28 [vq, s23.v, .int .i64 locks, .int .i64 regs], .blk b10 31 [.int .i64 ((checkG (pgOf code words locks regs)).code), .int .i64 ((checkG (pgOf code words locks regs)).thread), .int .i64 ((checkG (pgOf code words locks regs)).at_)], .blk b5 31 [.int .i64 0, .int .i64 0, .int .i64 0], .blk b4 28 [(.slice none 0 0), (.slice none 0 0), .int .i64 0, .int .i64 0], .blk b3 28 [code.v, words.v, .int .i64 locks, .int .i64 regs], .at_ code, .at_ words]) [0, 1, 2, 3, 4, 5, 6, 7, 8, 9, 10] (by decide) ⟨rfl, rfl, rfl, rfl, rfl, rfl, rfl, rfl, rfl, rfl, rfl, trivial⟩)⟩))))
    ·
     exact no_way hw6 hSi
    ·
     exact no_way hw6 hSi
   ·
    obtain rfl : _ = o := Option.some.inj ho
    have hd4 : S 4 = true := depAt hdep 4 rfl rfl
    have hd5 : S 5 = true := depAt hdep 5 rfl rfl
    have hd6 : S 6 = true := depAt hdep 6 rfl rfl
    rcases hI with ⟨hw4, hw5, hw6, hw8, hfr, hsh⟩ | ⟨hw4, hw5, hw6, hw8, s7004, hl7004, hfr, hsh⟩ | ⟨hw4, hw5, hw6, hw8, s7004, v7005, hl7004, hfr, hsh⟩ | ⟨hw4, hw5, hw6, hw8, s7004, v7005, v7006, hl7004, hfr, hsh⟩ | ⟨hw4, hw5, hw6, hw8, s7004, v7005, v7006, hl7004, hfr, hsh⟩
    ·
     exact no_way hd4 hw4
    ·
     exact no_way hd5 hw5
    ·
     exact no_way hd6 hw6
    ·
     exact sq hfr hfr.fr0 hsh (r_fieldB (r := 0) fl_28_0 rfl rfl rfl) 7 rfl rfl rfl rfl rfl rfl fun a hg => Or.inr (Or.inr (Or.inr (Or.inl (⟨un rfl hw4, un rfl hw5, un rfl hw6, un rfl hw8, s7004, v7005, v7006, hl7004, hg, hsh⟩))))
    ·
     exact no_way (cA hcl 8 7 rfl hw8) hSi
   ·
    obtain rfl : _ = o := Option.some.inj ho
    have hd7 : S 7 = true := depAt hdep 0 rfl rfl
    have hd6 : S 6 = true := depAt hdep 1 rfl rfl
    have hd4 : S 4 = true := depAt hdep 7 rfl rfl
    have hd5 : S 5 = true := depAt hdep 8 rfl rfl
    rcases hI with ⟨hw4, hw5, hw6, hw8, hfr, hsh⟩ | ⟨hw4, hw5, hw6, hw8, s7004, hl7004, hfr, hsh⟩ | ⟨hw4, hw5, hw6, hw8, s7004, v7005, hl7004, hfr, hsh⟩ | ⟨hw4, hw5, hw6, hw8, s7004, v7005, v7006, hl7004, hfr, hsh⟩ | ⟨hw4, hw5, hw6, hw8, s7004, v7005, v7006, hl7004, hfr, hsh⟩
    ·
     exact no_way hd4 hw4
    ·
     exact no_way hd5 hw5
    ·
     exact no_way hd6 hw6
    ·
     have hs := St.mk (Fr.cons (Fr.cons hfr.fr0 (hfr.at_ 6 6 37 _ rfl hd6)) (hfr.at_ 7 7 38 _ rfl hd7)) hsh
     refine step_ex (x_stb (i := 4) (vs := [v7006]) (cs' := [v7006, s23.v, .int .i64 locks, .int .i64 regs]) hs ti_26 rfl rfl rfl rfl rfl (cells_oneL ((hs.sh.deep 0 rfl)).one) rfl (allOne_cons ((hs.sh.deep 0 rfl)).one allOne_nil) (Nat.le_of_ble_eq_true rfl) rfl) (wanted_none rfl _) ?_
     rintro a68 w68 h68 ⟨v0, ht68⟩
     have hm68 : FrI 42 S [(2, .pointer (some ⟨b4, 0, none⟩)), (3, .pointer (some ⟨b5, 0, none⟩)), (5, .pointer (some ⟨b18, 0, none⟩)), (7, (nth code.l t).v), (8, .pointer (some ⟨b49, 0, none⟩)), (23, code.v), (24, .int .i64 ((code.l.length : Nat) : Int)), (25, .int .i64 ((t : Nat) : Int)), (26, .bool (decide (t < code.l.length))), (27, .pointer (some (padr code.v 1 t 0))), (28, (nth code.l t).v), (29, (nth code.l t).v), (30, m48.v)] [(0, 31, .pointer (some ⟨b18, 0, none⟩)), (1, 32, vq), (2, 33, (nth code.l t).v), (3, 34, .func (.func 77) #[] #[.pointer (some ⟨b49, 0, none⟩)]), (4, 35, s7004.v), (5, 36, v7005), (6, 37, v7006), (7, 38, .pointer (some ⟨b18, 0, none⟩))] a := hfr.more (by
      intro k j d v hk hS
      rcases k with _ | _ | _ | _ | _ | _ | _ | _ | k
      ·obtain ⟨rfl, rfl, rfl⟩ : _ = j ∧ _ = d ∧ _ = v := by simpa using hk
       exact hfr.at_ 0 _ _ _ rfl hS
      ·obtain ⟨rfl, rfl, rfl⟩ : _ = j ∧ _ = d ∧ _ = v := by simpa using hk
       exact hfr.at_ 1 _ _ _ rfl hS
      ·obtain ⟨rfl, rfl, rfl⟩ : _ = j ∧ _ = d ∧ _ = v := by simpa using hk
       exact hfr.at_ 2 _ _ _ rfl hS
      ·obtain ⟨rfl, rfl, rfl⟩ : _ = j ∧ _ = d ∧ _ = v := by simpa using hk
       exact hfr.at_ 3 _ _ _ rfl hS
      ·obtain ⟨rfl, rfl, rfl⟩ : _ = j ∧ _ = d ∧ _ = v := by simpa using hk
       exact hfr.at_ 4 _ _ _ rfl hS
      ·obtain ⟨rfl, rfl, rfl⟩ : _ = j ∧ _ = d ∧ _ = v := by simpa using hk
       exact hfr.at_ 5 _ _ _ rfl hS
      ·obtain ⟨rfl, rfl, rfl⟩ : _ = j ∧ _ = d ∧ _ = v := by simpa using hk
       exact hfr.at_ 6 _ _ _ rfl hS
      ·obtain ⟨rfl, rfl, rfl⟩ : _ = j ∧ _ = d ∧ _ = v := by simpa using hk
       exact hfr.at_ 7 _ _ _ rfl hS
      · simp at hk)
     exact Or.inr (Or.inr (Or.inr (Or.inr (⟨un rfl hw4, un rfl hw5, un rfl hw6, upd_self _ _, s7004, v7005, v7006, hl7004, hm68.none ht68 h68.fr.defers rfl, (h68.sh.sel (L' := [.deep 64 (⟨v7006, qs ++ ([s7004])⟩ : Ls (Ls Ins)), .blk b49 66 [m48.v], .own 4 m48, .own 3 (⟨s23.v, words.l⟩ : Ls Int), .blk b18 28 [v7006, s23.v, .int .i64 locks, .int .i64 regs], .blk b10 31 [.int .i64 ((checkG (pgOf code words locks regs)).code), .int .i64 ((checkG (pgOf code words locks regs)).thread), .int .i64 ((checkG (pgOf code words locks regs)).at_)], .blk b5 31 [.int .i64 0, .int .i64 0, .int .i64 0], .blk b4 28 [(.slice none 0 0), (.slice none 0 0), .int .i64 0, .int .i64 0], .blk b3 28 [code.v, words.v, .int .i64 locks, .int .i64 regs], .at_ code, .at_ words]) [0, 1, 2, 3, 4, 5, 6, 7, 8, 9, 10] (by decide) ⟨rfl, rfl, rfl, rfl, rfl, rfl, rfl, rfl, rfl, rfl, rfl, trivial⟩)⟩))))
    ·
     exact no_way hw8 hSi
   · simp at ho
  intro S hall a w hI
  clear h51
  rcases hI with ⟨hw4, hw5, hw6, hw8, hfr, hsh⟩ | ⟨hw4, hw5, hw6, hw8, s7004, hl7004, hfr, hsh⟩ | ⟨hw4, hw5, hw6, hw8, s7004, v7005, hl7004, hfr, hsh⟩ | ⟨hw4, hw5, hw6, hw8, s7004, v7005, v7006, hl7004, hfr, hsh⟩ | ⟨hw4, hw5, hw6, hw8, s7004, v7005, v7006, hl7004, hfr, hsh⟩
  · exact no_way (hall 4 (by decide)) hw4
  · exact no_way (hall 5 (by decide)) hw5
  · exact no_way (hall 6 (by decide)) hw6
  · exact no_way (hall 8 (by decide)) hw8
  have h69 : St 42 (fun _ => False) W a w _ [.deep 64 (⟨v7006, qs ++ ([s7004])⟩ : Ls (Ls Ins)), .blk b49 66 [m48.v], .own 4 m48, .own 3 (⟨s23.v, words.l⟩ : Ls Int), .blk b18 28 [v7006, s23.v, .int .i64 locks, .int .i64 regs], .blk b10 31 [.int .i64 ((checkG (pgOf code words locks regs)).code), .int .i64 ((checkG (pgOf code words locks regs)).thread), .int .i64 ((checkG (pgOf code words locks regs)).at_)], .blk b5 31 [.int .i64 0, .int .i64 0, .int .i64 0], .blk b4 28 [(.slice none 0 0), (.slice none 0 0), .int .i64 0, .int .i64 0], .blk b3 28 [code.v, words.v, .int .i64 locks, .int .i64 regs], .at_ code, .at_ words] := ⟨hfr.fr0, hsh⟩
  clear hall hfr hsh hw4 hw5 hw6 hw8
  refine hK41 _ _ ?_
  refine wp_region_lit ?_
  refine wv h69 (r_addN (p := t) (q := 1) rfl rfl rfl (show t + 1 < 9223372036854775808 from (by omega))) rfl rfl fun a70 h70 => ?_; clear h69
  refine wms 1 h70 rfl fun a71 h71 => ?_; clear h70
  refine wpList_nil ?_
  refine x_again ⟨_, ?_, t + 1, qs ++ ([s7004]), v7006, ?_, ?_, ?_, h71.nrm ⟨rfl, rfl, rfl, rfl, rfl, rfl, trivial⟩ [3, 4, 5, 6, 7, 8, 9, 10, 0] (by decide) ⟨rfl, rfl, rfl, rfl, rfl, rfl, rfl, rfl, rfl, trivial⟩, rfl⟩
  · rw [hm35]; first | omega | (simp only [List.length_append, List.length_cons, List.length_nil, List.length_set, List.length_replicate, List.length_map, List.length_range]; omega)
  · omega
  · rw [List.map_append, hqs, take_succ_nth _ _ (by omega)]; simp [*]; exact drp_put _ _ (by assumption)
  · simp [hql]
 have hp40 : ¬ (t < code.l.length) := of_decide_eq_false hb40
 refine wp_exit ?_
 refine hK28 _ _ ?_
 refine wp_seq_k fun K72 hK72 => wp_region_lit ?_
 refine wv h38 (r_ldbw (i := 1) (vs := [vq, s23.v, .int .i64 locks, .int .i64 regs]) ti_28 rfl rfl rfl rfl rfl) rfl rfl fun a73 h73 => ?_; clear h38
 refine wv h73 (r_build (cs := [.int .i64 0, .int .i64 0, .int .i64 0]) rfl rfl (by kernel_rfl)) rfl rfl fun a74 h74 => ?_; clear h73
 refine wl_ex (x_stb (i := 4) (vs := [vq, s23.v, .int .i64 locks, .int .i64 regs]) (cs' := [vq, s23.v, .int .i64 locks, .int .i64 regs]) h74 ti_28 rfl rfl rfl rfl rfl rfl rfl (allOne_cons ((h74.sh.deep 8 rfl)).one (allOne_cons ((h74.sh.own 0 rfl)).one (allOne_cons rfl (allOne_cons rfl allOne_nil)))) (Nat.le_of_ble_eq_true rfl) rfl) (wanted_none rfl _) ?_
 rintro a75 w75 h75
 clear h74
 refine wl_ex (x_stb (i := 3) (vs := [.int .i64 0, .int .i64 0, .int .i64 0]) (cs' := [.int .i64 0, .int .i64 0, .int .i64 0]) h75 ti_31 rfl rfl rfl rfl rfl rfl rfl (allOne_cons rfl (allOne_cons rfl (allOne_cons rfl allOne_nil))) (Nat.le_of_ble_eq_true rfl) rfl) (wanted_none rfl _) ?_
 rintro a76 w76 h76
 clear h75
 refine wpList_nil (hK72 _ _ ?_)
 refine wp_ret ?_
 try simp only [Exit.then, Exit.inBlock]
 refine x_ret2c (fn := Try.f35) (t := 2) (t2 := 3) (i := 4) (i2 := 3) ti_28 ti_31 rfl h76 rfl rfl rfl rfl rfl rfl ?_
 refine ⟨⟨vq, qs⟩, ⟨s23.v, words.l⟩, rfl, ?_, rfl, (h76.sh.sel (L' := [.deep 64 (⟨vq, qs⟩ : Ls (Ls Ins)), .own 3 (⟨s23.v, words.l⟩ : Ls Int)]) [8, 0] (by decide) ⟨rfl, rfl, trivial⟩)⟩
 show qs.map (·.l) = _; rw [hqs, List.take_of_length_le (by omega)]

set_option maxRecDepth 100000 in
set_option maxHeartbeats 4000000 in
theorem drop_b (code : Ls (Ls Ins)) (words : Ls Int) (locks regs : Int) (W : World) (hcode : code.At W) (hwords : words.At W) (hz : (checkG (pgOf code words locks regs)).code ≠ 0) :
    Rets Try.prog 35 [.agg #[code.v, words.v, .int .i64 locks, .int .i64 regs]] W (fun v w' => v = .tuple #[.agg #[.slice none 0 0, .slice none 0 0, .int .i64 0, .int .i64 0], (checkG (pgOf code words locks regs)).val] ∧ Sh0 W w' []) := by
 refine x_enter (N := 42) Try.func35 rfl Try.ntmps35 (Nat.le_of_ble_eq_true rfl) fun a1 hf1 => ?_
 have h1 : St 42 (fun _ => False) W a1 W [(0, .agg #[code.v, words.v, .int .i64 locks, .int .i64 regs])] [.at_ code, .at_ words] := ⟨hf1.sub ⟨rfl, trivial⟩, Sh0.ext2 hcode hwords⟩
 clear hf1
 refine wp_seq_k fun K2 hK2 => wp_region_lit ?_
 refine wl_ex (x_box (cs := [code.v, words.v, .int .i64 locks, .int .i64 regs]) h1 rfl rfl rfl rfl rfl) (wanted_none rfl _) ?_
 rintro a3 w3 ⟨b3, h3⟩; clear h1
 refine wl_ex (x_alloc h3 ti_28 rfl rfl rfl) (wanted_none rfl _) ?_
 rintro a4 w4 ⟨b4, h4⟩; clear h3
 refine wl_ex (x_alloc h4 ti_31 rfl rfl rfl) (wanted_none rfl _) ?_
 rintro a5 w5 ⟨b5, h5⟩; clear h4
 refine wpList_nil (hK2 _ _ ?_)
 refine wp_seq_k fun K6 hK6 => ?_
 refine wp_seq_k fun K7 hK7 => wp_region_lit ?_
 refine wv h5 (r_ldbw (i := 2) (vs := [code.v, words.v, .int .i64 locks, .int .i64 regs]) ti_28 rfl rfl rfl rfl rfl) rfl rfl fun a8 h8 => ?_; clear h5
 refine wl_ex (x_call h8 bd_19 rfl rfl rfl rfl rfl (asmCheck_c (code := code) (words := words) (locks := locks) (regs := regs) (h8.sh.at 3 rfl) (h8.sh.at 4 rfl))) (wanted_none rfl _) ?_
 rintro a9 w9 ⟨_, ⟨rfl, hs9⟩, hf9⟩
 have h9 : St 42 (fun _ => False) W a9 w9 _ _ := ⟨hf9, h8.sh.call0 hs9⟩
 clear hf9 hs9
 clear h8
 refine wl_ex (x_alloc h9 ti_31 rfl rfl rfl) (wanted_none rfl _) ?_
 rintro a10 w10 ⟨b10, h10⟩; clear h9
 refine wl_ex (x_stb (i := 0) (vs := [.int .i64 ((checkG (pgOf code words locks regs)).code), .int .i64 ((checkG (pgOf code words locks regs)).thread), .int .i64 ((checkG (pgOf code words locks regs)).at_)]) (cs' := [.int .i64 ((checkG (pgOf code words locks regs)).code), .int .i64 ((checkG (pgOf code words locks regs)).thread), .int .i64 ((checkG (pgOf code words locks regs)).at_)]) h10 ti_31 rfl rfl rfl rfl rfl rfl rfl (allOne_cons rfl (allOne_cons rfl (allOne_cons rfl allOne_nil))) (Nat.le_of_ble_eq_true rfl) rfl) (wanted_none rfl _) ?_
 rintro a11 w11 h11
 clear h10
 refine wpList_nil (hK7 _ _ ?_)
 refine wp_seq_k fun K12 hK12 => wp_region_lit ?_
 refine wv h11 (r_fieldB (r := 0) fl_31_0 rfl rfl rfl) rfl rfl fun a13 h13 => ?_; clear h11
 refine wv h13 (r_ldb (i := 0) ti_22 rfl rfl rfl rfl) rfl rfl fun a14 h14 => ?_; clear h13
 refine wv h14 (r_neqI (p := (checkG (pgOf code words locks regs)).code) (q := 0) rfl rfl rfl) rfl rfl fun a15 h15 => ?_; clear h14
 refine wpList_nil (hK12 _ _ ?_)
 refine x_condT h15 rfl (decide_eq_true hz) ?_
 refine wp_seq_k fun K16 hK16 => ?_
 have h17 : St 42 (fun _ => False) W a15 w11 [(0, .agg #[code.v, words.v, .int .i64 locks, .int .i64 regs]), (1, .pointer (some ⟨b3, 0, none⟩)), (2, .pointer (some ⟨b4, 0, none⟩)), (3, .pointer (some ⟨b5, 0, none⟩)), (4, .pointer (some ⟨b10, 0, none⟩)), (9, .agg #[code.v, words.v, .int .i64 locks, .int .i64 regs]), (10, .agg #[.int .i64 ((checkG (pgOf code words locks regs)).code), .int .i64 ((checkG (pgOf code words locks regs)).thread), .int .i64 ((checkG (pgOf code words locks regs)).at_)]), (11, .pointer (some ⟨b10, 0, none⟩)), (12, .int .i64 ((checkG (pgOf code words locks regs)).code)), (13, .bool (decide ((checkG (pgOf code words locks regs)).code ≠ 0)))] [.blk b10 31 [.int .i64 ((checkG (pgOf code words locks regs)).code), .int .i64 ((checkG (pgOf code words locks regs)).thread), .int .i64 ((checkG (pgOf code words locks regs)).at_)], .blk b5 31 [.int .i64 0, .int .i64 0, .int .i64 0], .blk b4 28 [(.slice none 0 0), (.slice none 0 0), .int .i64 0, .int .i64 0], .blk b3 28 [code.v, words.v, .int .i64 locks, .int .i64 regs], .at_ code, .at_ words] := h15.nrm ⟨rfl, rfl, rfl, rfl, rfl, rfl, rfl, rfl, rfl, rfl, trivial⟩ [0, 1, 2, 3, 4, 5] (by decide) ⟨rfl, rfl, rfl, rfl, rfl, rfl, trivial⟩
 clear h15
 refine x_any (fun S a w => (S 2 = false ∧ S 3 = false ∧ FrI 42 S [(0, .agg #[code.v, words.v, .int .i64 locks, .int .i64 regs]), (1, .pointer (some ⟨b3, 0, none⟩)), (2, .pointer (some ⟨b4, 0, none⟩)), (3, .pointer (some ⟨b5, 0, none⟩)), (4, .pointer (some ⟨b10, 0, none⟩)), (9, .agg #[code.v, words.v, .int .i64 locks, .int .i64 regs]), (10, .agg #[.int .i64 ((checkG (pgOf code words locks regs)).code), .int .i64 ((checkG (pgOf code words locks regs)).thread), .int .i64 ((checkG (pgOf code words locks regs)).at_)]), (11, .pointer (some ⟨b10, 0, none⟩)), (12, .int .i64 ((checkG (pgOf code words locks regs)).code)), (13, .bool (decide ((checkG (pgOf code words locks regs)).code ≠ 0)))] [(0, 14, .agg #[(.slice none 0 0), (.slice none 0 0), .int .i64 0, .int .i64 0]), (1, 15, .agg #[.int .i64 ((checkG (pgOf code words locks regs)).code), .int .i64 ((checkG (pgOf code words locks regs)).thread), .int .i64 ((checkG (pgOf code words locks regs)).at_)])] a ∧ Sh (fun _ => False) W w [.blk b10 31 [.int .i64 ((checkG (pgOf code words locks regs)).code), .int .i64 ((checkG (pgOf code words locks regs)).thread), .int .i64 ((checkG (pgOf code words locks regs)).at_)], .blk b5 31 [.int .i64 0, .int .i64 0, .int .i64 0], .blk b4 28 [(.slice none 0 0), (.slice none 0 0), .int .i64 0, .int .i64 0], .blk b3 28 [code.v, words.v, .int .i64 locks, .int .i64 regs], .at_ code, .at_ words]) ∨ (S 2 = true ∧ S 3 = false ∧ FrI 42 S [(0, .agg #[code.v, words.v, .int .i64 locks, .int .i64 regs]), (1, .pointer (some ⟨b3, 0, none⟩)), (2, .pointer (some ⟨b4, 0, none⟩)), (3, .pointer (some ⟨b5, 0, none⟩)), (4, .pointer (some ⟨b10, 0, none⟩)), (9, .agg #[code.v, words.v, .int .i64 locks, .int .i64 regs]), (10, .agg #[.int .i64 ((checkG (pgOf code words locks regs)).code), .int .i64 ((checkG (pgOf code words locks regs)).thread), .int .i64 ((checkG (pgOf code words locks regs)).at_)]), (11, .pointer (some ⟨b10, 0, none⟩)), (12, .int .i64 ((checkG (pgOf code words locks regs)).code)), (13, .bool (decide ((checkG (pgOf code words locks regs)).code ≠ 0)))] [(0, 14, .agg #[(.slice none 0 0), (.slice none 0 0), .int .i64 0, .int .i64 0]), (1, 15, .agg #[.int .i64 ((checkG (pgOf code words locks regs)).code), .int .i64 ((checkG (pgOf code words locks regs)).thread), .int .i64 ((checkG (pgOf code words locks regs)).at_)])] a ∧ Sh (fun _ => False) W w [.blk b10 31 [.int .i64 ((checkG (pgOf code words locks regs)).code), .int .i64 ((checkG (pgOf code words locks regs)).thread), .int .i64 ((checkG (pgOf code words locks regs)).at_)], .blk b5 31 [.int .i64 0, .int .i64 0, .int .i64 0], .blk b4 28 [(.slice none 0 0), (.slice none 0 0), .int .i64 0, .int .i64 0], .blk b3 28 [code.v, words.v, .int .i64 locks, .int .i64 regs], .at_ code, .at_ words]) ∨ (S 2 = true ∧ S 3 = true ∧ FrI 42 S [(0, .agg #[code.v, words.v, .int .i64 locks, .int .i64 regs]), (1, .pointer (some ⟨b3, 0, none⟩)), (2, .pointer (some ⟨b4, 0, none⟩)), (3, .pointer (some ⟨b5, 0, none⟩)), (4, .pointer (some ⟨b10, 0, none⟩)), (9, .agg #[code.v, words.v, .int .i64 locks, .int .i64 regs]), (10, .agg #[.int .i64 ((checkG (pgOf code words locks regs)).code), .int .i64 ((checkG (pgOf code words locks regs)).thread), .int .i64 ((checkG (pgOf code words locks regs)).at_)]), (11, .pointer (some ⟨b10, 0, none⟩)), (12, .int .i64 ((checkG (pgOf code words locks regs)).code)), (13, .bool (decide ((checkG (pgOf code words locks regs)).code ≠ 0)))] [(0, 14, .agg #[(.slice none 0 0), (.slice none 0 0), .int .i64 0, .int .i64 0]), (1, 15, .agg #[.int .i64 ((checkG (pgOf code words locks regs)).code), .int .i64 ((checkG (pgOf code words locks regs)).thread), .int .i64 ((checkG (pgOf code words locks regs)).at_)])] a ∧ Sh (fun _ => False) W w [.blk b10 31 [.int .i64 ((checkG (pgOf code words locks regs)).code), .int .i64 ((checkG (pgOf code words locks regs)).thread), .int .i64 ((checkG (pgOf code words locks regs)).at_)], .blk b5 31 [.int .i64 ((checkG (pgOf code words locks regs)).code), .int .i64 ((checkG (pgOf code words locks regs)).thread), .int .i64 ((checkG (pgOf code words locks regs)).at_)], .blk b4 28 [(.slice none 0 0), (.slice none 0 0), .int .i64 0, .int .i64 0], .blk b3 28 [code.v, words.v, .int .i64 locks, .int .i64 regs], .at_ code, .at_ words])) (by kernel_rfl) (by kernel_rfl) (Or.inl (⟨rfl, rfl, FrI.start h17.fr, h17.sh.drew⟩)) ?_ ?_
 ·intro S i o ho hSi hcl hdep a w hI
  clear h17
  rcases i with _ | _ | _ | _ | i
  ·
   obtain rfl : _ = o := Option.some.inj ho
   rcases hI with ⟨hw2, hw3, hfr, hsh⟩ | ⟨hw2, hw3, hfr, hsh⟩ | ⟨hw2, hw3, hfr, hsh⟩
   ·
    exact sq hfr hfr.fr0 hsh (r_build (cs := [(.slice none 0 0), (.slice none 0 0), .int .i64 0, .int .i64 0]) rfl rfl (by kernel_rfl)) 0 rfl rfl rfl rfl rfl rfl fun a hg => Or.inl (⟨un rfl hw2, un rfl hw3, hg, hsh⟩)
   ·
    exact no_way (cA hcl 2 0 rfl hw2) hSi
   ·
    exact no_way (cA hcl 2 0 rfl hw2) hSi
  ·
   obtain rfl : _ = o := Option.some.inj ho
   rcases hI with ⟨hw2, hw3, hfr, hsh⟩ | ⟨hw2, hw3, hfr, hsh⟩ | ⟨hw2, hw3, hfr, hsh⟩
   ·
    exact sq hfr hfr.fr0 hsh (r_ldbw (i := 0) (vs := [.int .i64 ((checkG (pgOf code words locks regs)).code), .int .i64 ((checkG (pgOf code words locks regs)).thread), .int .i64 ((checkG (pgOf code words locks regs)).at_)]) ti_31 rfl rfl rfl rfl rfl) 1 rfl rfl rfl rfl rfl rfl fun a hg => Or.inl (⟨un rfl hw2, un rfl hw3, hg, hsh⟩)
   ·
    exact sq hfr hfr.fr0 hsh (r_ldbw (i := 0) (vs := [.int .i64 ((checkG (pgOf code words locks regs)).code), .int .i64 ((checkG (pgOf code words locks regs)).thread), .int .i64 ((checkG (pgOf code words locks regs)).at_)]) ti_31 rfl rfl rfl rfl rfl) 1 rfl rfl rfl rfl rfl rfl fun a hg => Or.inr (Or.inl (⟨un rfl hw2, un rfl hw3, hg, hsh⟩))
   ·
    exact no_way (cA hcl 3 1 rfl hw3) hSi
  ·
   obtain rfl : _ = o := Option.some.inj ho
   have hd0 : S 0 = true := depAt hdep 0 rfl rfl
   rcases hI with ⟨hw2, hw3, hfr, hsh⟩ | ⟨hw2, hw3, hfr, hsh⟩ | ⟨hw2, hw3, hfr, hsh⟩
   ·
    have hs := St.mk (Fr.cons hfr.fr0 (hfr.at_ 0 0 14 _ rfl hd0)) hsh
    refine step_ex (x_stb (i := 2) (vs := [(.slice none 0 0), (.slice none 0 0), .int .i64 0, .int .i64 0]) (cs' := [(.slice none 0 0), (.slice none 0 0), .int .i64 0, .int .i64 0]) hs ti_28 rfl rfl rfl rfl rfl rfl rfl (allOne_cons rfl (allOne_cons rfl (allOne_cons rfl (allOne_cons rfl allOne_nil)))) (Nat.le_of_ble_eq_true rfl) rfl) (wanted_none rfl _) ?_
    rintro a22 w22 h22 ⟨v0, ht22⟩
    have hm22 : FrI 42 S [(0, .agg #[code.v, words.v, .int .i64 locks, .int .i64 regs]), (1, .pointer (some ⟨b3, 0, none⟩)), (2, .pointer (some ⟨b4, 0, none⟩)), (3, .pointer (some ⟨b5, 0, none⟩)), (4, .pointer (some ⟨b10, 0, none⟩)), (9, .agg #[code.v, words.v, .int .i64 locks, .int .i64 regs]), (10, .agg #[.int .i64 ((checkG (pgOf code words locks regs)).code), .int .i64 ((checkG (pgOf code words locks regs)).thread), .int .i64 ((checkG (pgOf code words locks regs)).at_)]), (11, .pointer (some ⟨b10, 0, none⟩)), (12, .int .i64 ((checkG (pgOf code words locks regs)).code)), (13, .bool (decide ((checkG (pgOf code words locks regs)).code ≠ 0)))] [(0, 14, .agg #[(.slice none 0 0), (.slice none 0 0), .int .i64 0, .int .i64 0]), (1, 15, .agg #[.int .i64 ((checkG (pgOf code words locks regs)).code), .int .i64 ((checkG (pgOf code words locks regs)).thread), .int .i64 ((checkG (pgOf code words locks regs)).at_)])] a := hfr.more (by
     intro k j d v hk hS
     rcases k with _ | _ | k
     ·obtain ⟨rfl, rfl, rfl⟩ : _ = j ∧ _ = d ∧ _ = v := by simpa using hk
      exact hfr.at_ 0 _ _ _ rfl hS
     ·obtain ⟨rfl, rfl, rfl⟩ : _ = j ∧ _ = d ∧ _ = v := by simpa using hk
      exact hfr.at_ 1 _ _ _ rfl hS
     · simp at hk)
    exact Or.inr (Or.inl (⟨upd_self _ _, un rfl hw3, hm22.none ht22 h22.fr.defers rfl, (h22.sh.sel (L' := [.blk b10 31 [.int .i64 ((checkG (pgOf code words locks regs)).code), .int .i64 ((checkG (pgOf code words locks regs)).thread), .int .i64 ((checkG (pgOf code words locks regs)).at_)], .blk b5 31 [.int .i64 0, .int .i64 0, .int .i64 0], .blk b4 28 [(.slice none 0 0), (.slice none 0 0), .int .i64 0, .int .i64 0], .blk b3 28 [code.v, words.v, .int .i64 locks, .int .i64 regs], .at_ code, .at_ words]) [0, 1, 2, 3, 4, 5] (by decide) ⟨rfl, rfl, rfl, rfl, rfl, rfl, trivial⟩)⟩))
   ·
    exact no_way hw2 hSi
   ·
    exact no_way hw2 hSi
  ·
   obtain rfl : _ = o := Option.some.inj ho
   have hd1 : S 1 = true := depAt hdep 0 rfl rfl
   have hd2 : S 2 = true := depAt hdep 1 rfl rfl
   rcases hI with ⟨hw2, hw3, hfr, hsh⟩ | ⟨hw2, hw3, hfr, hsh⟩ | ⟨hw2, hw3, hfr, hsh⟩
   ·
    exact no_way hd2 hw2
   ·
    have hs := St.mk (Fr.cons hfr.fr0 (hfr.at_ 1 1 15 _ rfl hd1)) hsh
    refine step_ex (x_stb (i := 1) (vs := [.int .i64 ((checkG (pgOf code words locks regs)).code), .int .i64 ((checkG (pgOf code words locks regs)).thread), .int .i64 ((checkG (pgOf code words locks regs)).at_)]) (cs' := [.int .i64 ((checkG (pgOf code words locks regs)).code), .int .i64 ((checkG (pgOf code words locks regs)).thread), .int .i64 ((checkG (pgOf code words locks regs)).at_)]) hs ti_31 rfl rfl rfl rfl rfl rfl rfl (allOne_cons rfl (allOne_cons rfl (allOne_cons rfl allOne_nil))) (Nat.le_of_ble_eq_true rfl) rfl) (wanted_none rfl _) ?_
    rintro a23 w23 h23 ⟨v0, ht23⟩
    have hm23 : FrI 42 S [(0, .agg #[code.v, words.v, .int .i64 locks, .int .i64 regs]), (1, .pointer (some ⟨b3, 0, none⟩)), (2, .pointer (some ⟨b4, 0, none⟩)), (3, .pointer (some ⟨b5, 0, none⟩)), (4, .pointer (some ⟨b10, 0, none⟩)), (9, .agg #[code.v, words.v, .int .i64 locks, .int .i64 regs]), (10, .agg #[.int .i64 ((checkG (pgOf code words locks regs)).code), .int .i64 ((checkG (pgOf code words locks regs)).thread), .int .i64 ((checkG (pgOf code words locks regs)).at_)]), (11, .pointer (some ⟨b10, 0, none⟩)), (12, .int .i64 ((checkG (pgOf code words locks regs)).code)), (13, .bool (decide ((checkG (pgOf code words locks regs)).code ≠ 0)))] [(0, 14, .agg #[(.slice none 0 0), (.slice none 0 0), .int .i64 0, .int .i64 0]), (1, 15, .agg #[.int .i64 ((checkG (pgOf code words locks regs)).code), .int .i64 ((checkG (pgOf code words locks regs)).thread), .int .i64 ((checkG (pgOf code words locks regs)).at_)])] a := hfr.more (by
     intro k j d v hk hS
     rcases k with _ | _ | k
     ·obtain ⟨rfl, rfl, rfl⟩ : _ = j ∧ _ = d ∧ _ = v := by simpa using hk
      exact hfr.at_ 0 _ _ _ rfl hS
     ·obtain ⟨rfl, rfl, rfl⟩ : _ = j ∧ _ = d ∧ _ = v := by simpa using hk
      exact hfr.at_ 1 _ _ _ rfl hS
     · simp at hk)
    exact Or.inr (Or.inr (⟨un rfl hw2, upd_self _ _, hm23.none ht23 h23.fr.defers rfl, (h23.sh.sel (L' := [.blk b10 31 [.int .i64 ((checkG (pgOf code words locks regs)).code), .int .i64 ((checkG (pgOf code words locks regs)).thread), .int .i64 ((checkG (pgOf code words locks regs)).at_)], .blk b5 31 [.int .i64 ((checkG (pgOf code words locks regs)).code), .int .i64 ((checkG (pgOf code words locks regs)).thread), .int .i64 ((checkG (pgOf code words locks regs)).at_)], .blk b4 28 [(.slice none 0 0), (.slice none 0 0), .int .i64 0, .int .i64 0], .blk b3 28 [code.v, words.v, .int .i64 locks, .int .i64 regs], .at_ code, .at_ words]) [0, 1, 2, 3, 4, 5] (by decide) ⟨rfl, rfl, rfl, rfl, rfl, rfl, trivial⟩)⟩))
   ·
    exact no_way hw3 hSi
  · simp at ho
 intro S hall a w hI
 clear h17
 rcases hI with ⟨hw2, hw3, hfr, hsh⟩ | ⟨hw2, hw3, hfr, hsh⟩ | ⟨hw2, hw3, hfr, hsh⟩
 · exact no_way (hall 2 (by decide)) hw2
 · exact no_way (hall 3 (by decide)) hw3
 have h24 : St 42 (fun _ => False) W a w _ [.blk b10 31 [.int .i64 ((checkG (pgOf code words locks regs)).code), .int .i64 ((checkG (pgOf code words locks regs)).thread), .int .i64 ((checkG (pgOf code words locks regs)).at_)], .blk b5 31 [.int .i64 ((checkG (pgOf code words locks regs)).code), .int .i64 ((checkG (pgOf code words locks regs)).thread), .int .i64 ((checkG (pgOf code words locks regs)).at_)], .blk b4 28 [(.slice none 0 0), (.slice none 0 0), .int .i64 0, .int .i64 0], .blk b3 28 [code.v, words.v, .int .i64 locks, .int .i64 regs], .at_ code, .at_ words] := ⟨hfr.fr0, hsh⟩
 clear hall hfr hsh hw2 hw3
 refine hK16 _ _ ?_
 refine wp_ret ?_
 try simp only [Exit.then, Exit.inBlock]
 refine x_ret2c (fn := Try.f35) (t := 2) (t2 := 3) (i := 2) (i2 := 1) ti_28 ti_31 rfl h24 rfl rfl rfl rfl rfl rfl ?_
 exact ⟨rfl, (h24.sh.sel [] (by decide) trivial)⟩

end Go.Proofs.Ytanhbpofhebbaaa
