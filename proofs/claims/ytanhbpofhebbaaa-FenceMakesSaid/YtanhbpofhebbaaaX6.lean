/-
  Contracts of functions of this program and of the references, each walked once.
-/
import Derived.Test.YtanhbpofhebbaaaX5
namespace Go.Proofs.Ytanhbpofhebbaaa
open Go.RowKit
set_option linter.unusedSimpArgs false
set_option linter.unusedVariables false


theorem nil_at {α : Type} [Enc α] (w : World) : (⟨.slice none 0 0, []⟩ : Ls α).At w := (((Sh0.start w).nil (α := α) 0).own 0 rfl)
theorem Sh.nilAt {α : Type} [Enc α] {K : Nat → Prop} {W w : World} {L : List Asn} (h : Sh K W w L) : (⟨.slice none 0 0, []⟩ : Ls α).At w := nil_at w
theorem pg_eq2 {c c2 : Ls (Ls Ins)} {u u2 : Ls Int} {l r : Int} (h1 : c.l.map (·.l) = c2.l.map (·.l)) (h2 : u.l = u2.l) : pgOf c u l r = pgOf c2 u2 l r := by unfold pgOf; rw [h1, h2]

set_option maxRecDepth 100000 in
set_option maxHeartbeats 4000000 in
theorem jumpMakes_v (code : Ls (Ls Ins)) (words : Ls Int) (locks regs : Int) (W : World) (hcode : code.At W) (hwords : words.At W) (hv : vastG (code.l.map (·.l)) words.l = true) :
    Rets Try.prog 8 [.agg #[code.v, words.v, .int .i64 locks, .int .i64 regs]] W (fun v w' => v = .bool true ∧ Sh0 W w' []) := by
  refine x_enter (N := 40) Try.func8 rfl Try.ntmps8 (Nat.le_of_ble_eq_true rfl) fun a1 hf1 => ?_
  have h1 : St 40 (fun _ => False) W a1 W [(0, .agg #[code.v, words.v, .int .i64 locks, .int .i64 regs])] [.at_ code, .at_ words] := ⟨hf1.sub ⟨rfl, trivial⟩, Sh0.ext2 hcode hwords⟩
  clear hf1
  refine wp_seq_k fun K2 hK2 => ?_
  refine wp_region_lit ?_
  refine wl_ex (x_box (cs := [code.v, words.v, .int .i64 locks, .int .i64 regs]) h1 rfl rfl rfl rfl rfl) (wanted_none rfl _) ?_
  rintro a3 w3 ⟨b3, h3⟩
  clear h1
  refine wms 1 h3 rfl fun a4 h4 => ?_
  clear h3
  refine wpList_nil ?_
  refine hK2 _ _ ?_
  refine wp_seq_k fun K5 hK5 => ?_
  refine wp_seq_k fun K6 hK6 => ?_
  refine wp_region_lit ?_
  refine wv h4 (r_ldbw (i := 0) (vs := [code.v, words.v, .int .i64 locks, .int .i64 regs]) ti_28 rfl rfl rfl rfl rfl) rfl rfl fun a7 h7 => ?_
  clear h4
  refine wl_ex (x_call h7 bd_18 rfl rfl rfl rfl rfl (vast_c (code := code) (words := words) (locks := locks) (regs := regs) (h7.sh.at 1 rfl) (h7.sh.at 2 rfl))) (wanted_none rfl _) ?_
  rintro a8 w8 ⟨_, ⟨rfl, hs8⟩, hf8⟩
  have h8 : St 40 (fun _ => False) W a8 w8 _ _ := ⟨hf8, h7.sh.call0 hs8⟩
  clear hf8 hs8
  clear h7
  refine wpList_nil ?_
  refine hK6 _ _ ?_
  refine x_condT h8 rfl hv ?_
  refine wp_seq_k fun K9 hK9 => ?_
  refine wp_region_lit ?_
  refine wms 1 h8 rfl fun a10 h10 => ?_
  clear h8
  refine wpList_nil ?_
  refine hK9 _ _ ?_
  refine wp_ret ?_
  try simp only [Exit.then, Exit.inBlock]
  refine x_ret1 (fn := Try.f8) (t := 2) rfl h10 rfl ?_
  exact ⟨rfl, (h10.sh.sel [] (by decide) trivial)⟩

set_option maxRecDepth 100000 in
set_option maxHeartbeats 4000000 in
theorem jumpMakes_k (code : Ls (Ls Ins)) (words : Ls Int) (locks regs : Int) (W : World) (hcode : code.At W) (hwords : words.At W) (hv : vastG (code.l.map (·.l)) words.l = false) (hok : OkPg (pgOf code words locks regs)) :
    Rets Try.prog 8 [.agg #[code.v, words.v, .int .i64 locks, .int .i64 regs]] W (fun v w' => v = .bool true ∧ Sh0 W w' []) := by
  have hz := checkG_ok hok
  obtain ⟨hl1, hl2, hl3, hl4', hl5, hl6, hl7⟩ := ok_len hok
  refine x_enter (N := 40) Try.func8 rfl Try.ntmps8 (Nat.le_of_ble_eq_true rfl) fun a1 hf1 => ?_
  have h1 : St 40 (fun _ => False) W a1 W [(0, .agg #[code.v, words.v, .int .i64 locks, .int .i64 regs])] [.at_ code, .at_ words] := ⟨hf1.sub ⟨rfl, trivial⟩, Sh0.ext2 hcode hwords⟩
  clear hf1
  refine wp_seq_k fun K2 hK2 => ?_
  refine wp_region_lit ?_
  refine wl_ex (x_box (cs := [code.v, words.v, .int .i64 locks, .int .i64 regs]) h1 rfl rfl rfl rfl rfl) (wanted_none rfl _) ?_
  rintro a3 w3 ⟨b3, h3⟩
  clear h1
  refine wms 1 h3 rfl fun a4 h4 => ?_
  clear h3
  refine wpList_nil ?_
  refine hK2 _ _ ?_
  refine wp_seq_k fun K5 hK5 => ?_
  refine wp_seq_k fun K6 hK6 => ?_
  refine wp_region_lit ?_
  refine wv h4 (r_ldbw (i := 0) (vs := [code.v, words.v, .int .i64 locks, .int .i64 regs]) ti_28 rfl rfl rfl rfl rfl) rfl rfl fun a7 h7 => ?_
  clear h4
  refine wl_ex (x_call h7 bd_18 rfl rfl rfl rfl rfl (vast_c (code := code) (words := words) (locks := locks) (regs := regs) (h7.sh.at 1 rfl) (h7.sh.at 2 rfl))) (wanted_none rfl _) ?_
  rintro a8 w8 ⟨_, ⟨rfl, hs8⟩, hf8⟩
  have h8 : St 40 (fun _ => False) W a8 w8 _ _ := ⟨hf8, h7.sh.call0 hs8⟩
  clear hf8 hs8
  clear h7
  refine wpList_nil ?_
  refine hK6 _ _ ?_
  refine x_condF h8 rfl hv ?_
  refine wp_skip ?_
  refine hK5 _ _ ?_
  refine wp_seq_k fun K9 hK9 => ?_
  refine wp_region_lit ?_
  refine wv h8 (r_ldbw (i := 0) (vs := [code.v, words.v, .int .i64 locks, .int .i64 regs]) ti_28 rfl rfl rfl rfl rfl) rfl rfl fun a10 h10 => ?_
  clear h8
  refine wl_ex (x_call h10 bd_26 rfl rfl rfl rfl rfl (jStraight_c code words locks regs _ (h10.sh.at 1 rfl) (h10.sh.at 2 rfl) hok)) (wanted_none rfl _) ?_
  rintro a11 w11 ⟨_, ⟨c11, u11, rfl, hq11, hu11, hs11⟩, hf11⟩
  have h11 := (⟨hf11, h10.sh.call hs11 (by intro A hA b hb; first | (simp at hA; done) | (simp at hA; subst hA; first | exact Flat.noRd hb | exact (hb : False).elim) | (simp at hA; rcases hA with rfl | rfl <;> first | exact Flat.noRd hb | exact (hb : False).elim))⟩ : St 40 (fun _ => False) W a11 w11 _ _)
  clear hf11 hs11
  clear h10
  refine wms 1 h11 rfl fun a12 h12 => ?_
  clear h11
  refine wv h12 (r_extract rfl rfl rfl) rfl rfl fun a13 h13 => ?_
  clear h12
  refine wv h13 (r_extract rfl rfl rfl) rfl rfl fun a14 h14 => ?_
  clear h13
  refine wl_ex (x_alloc h14 ti_28 rfl rfl rfl) (wanted_none rfl _) ?_
  rintro a15 w15 ⟨b15, h15⟩
  clear h14
  refine wl_ex (x_alloc h15 ti_31 rfl rfl rfl) (wanted_none rfl _) ?_
  rintro a16 w16 ⟨b16, h16⟩
  clear h15
  refine wl_ex (x_stb (i := 1) (vs := [c11.v, u11.v, .int .i64 locks, .int .i64 regs]) (cs' := [c11.v, u11.v, .int .i64 locks, .int .i64 regs]) h16 ti_28 rfl rfl rfl rfl rfl rfl rfl (allOne_cons ((h16.sh.deep 2 rfl)).one (allOne_cons ((h16.sh.own 3 rfl)).one (allOne_cons rfl (allOne_cons rfl allOne_nil)))) (Nat.le_of_ble_eq_true rfl) rfl) (wanted_none rfl _) ?_
  rintro a17 w17 h17
  clear h16
  refine wl_ex (x_stb (i := 0) (vs := [.int .i64 0, .int .i64 0, .int .i64 0]) (cs' := [.int .i64 0, .int .i64 0, .int .i64 0]) h17 ti_31 rfl rfl rfl rfl rfl rfl rfl (allOne_cons rfl (allOne_cons rfl (allOne_cons rfl allOne_nil))) (Nat.le_of_ble_eq_true rfl) rfl) (wanted_none rfl _) ?_
  rintro a18 w18 h18
  clear h17
  refine wpList_nil ?_
  refine hK9 _ _ ?_
  refine wp_seq_k fun K19 hK19 => ?_
  refine wp_region_lit ?_
  refine wv h18 (r_ldbw (i := 4) (vs := [code.v, words.v, .int .i64 locks, .int .i64 regs]) ti_28 rfl rfl rfl rfl rfl) rfl rfl fun a20 h20 => ?_
  clear h18
  refine wl_ex (x_call h20 bd_20 rfl rfl rfl rfl rfl (refCheck_c (code := code) (words := words) (locks := locks) (regs := regs) (h20.sh.at 5 rfl) (h20.sh.at 6 rfl))) (wanted_none rfl _) ?_
  rintro a21 w21 ⟨_, ⟨rfl, hs21⟩, hf21⟩
  have h21 : St 40 (fun _ => False) W a21 w21 _ _ := ⟨hf21, h20.sh.call0 hs21⟩
  clear hf21 hs21
  clear h20
  refine wl_ex (x_alloc h21 ti_31 rfl rfl rfl) (wanted_none rfl _) ?_
  rintro a22 w22 ⟨b22, h22⟩
  clear h21
  refine wl_ex (x_stb (i := 0) (vs := [.int .i64 ((checkG (pgOf code words locks regs)).code), .int .i64 ((checkG (pgOf code words locks regs)).thread), .int .i64 ((checkG (pgOf code words locks regs)).at_)]) (cs' := [.int .i64 ((checkG (pgOf code words locks regs)).code), .int .i64 ((checkG (pgOf code words locks regs)).thread), .int .i64 ((checkG (pgOf code words locks regs)).at_)]) h22 ti_31 rfl rfl rfl rfl rfl rfl rfl (allOne_cons rfl (allOne_cons rfl (allOne_cons rfl allOne_nil))) (Nat.le_of_ble_eq_true rfl) rfl) (wanted_none rfl _) ?_
  rintro a23 w23 h23
  clear h22
  refine wpList_nil ?_
  refine hK19 _ _ ?_
  refine wp_seq_k fun K24 hK24 => ?_
  refine wp_seq_k fun K25 hK25 => ?_
  refine wp_region_lit ?_
  refine wv h23 (r_fieldB (r := 0) fl_31_0 rfl rfl rfl) rfl rfl fun a26 h26 => ?_
  clear h23
  refine wv h26 (r_ldb (i := 0) ti_22 rfl rfl rfl rfl) rfl rfl fun a27 h27 => ?_
  clear h26
  refine wv h27 (r_neqI (p := (checkG (pgOf code words locks regs)).code) (q := 0) rfl rfl rfl) rfl rfl fun a28 h28 => ?_
  clear h27
  refine wpList_nil ?_
  refine hK25 _ _ ?_
  refine x_condF h28 rfl (by rw [hz]; rfl) ?_
  refine wp_skip ?_
  refine hK24 _ _ ?_
  refine wp_seq_k fun K29 hK29 => ?_
  refine wp_region_lit ?_
  refine wv h28 (r_ldbw (i := 5) (vs := [code.v, words.v, .int .i64 locks, .int .i64 regs]) ti_28 rfl rfl rfl rfl rfl) rfl rfl fun a30 h30 => ?_
  clear h28
  refine wl_ex (x_call h30 bd_28 rfl rfl rfl rfl rfl (rStraight_c code words locks regs _ (h30.sh.at 6 rfl) (h30.sh.at 7 rfl) hok)) (wanted_none rfl _) ?_
  rintro a31 w31 ⟨_, ⟨c31, u31, rfl, hq31, hu31, hs31⟩, hf31⟩
  have h31 := (⟨hf31, h30.sh.call hs31 (by intro A hA b hb; first | (simp at hA; done) | (simp at hA; subst hA; first | exact Flat.noRd hb | exact (hb : False).elim) | (simp at hA; rcases hA with rfl | rfl <;> first | exact Flat.noRd hb | exact (hb : False).elim))⟩ : St 40 (fun _ => False) W a31 w31 _ _)
  clear hf31 hs31
  clear h30
  refine wl_ex (x_alloc h31 ti_28 rfl rfl rfl) (wanted_none rfl _) ?_
  rintro a32 w32 ⟨b32, h32⟩
  clear h31
  refine wl_ex (x_stb (i := 0) (vs := [c31.v, u31.v, .int .i64 locks, .int .i64 regs]) (cs' := [c31.v, u31.v, .int .i64 locks, .int .i64 regs]) h32 ti_28 rfl rfl rfl rfl rfl rfl rfl (allOne_cons ((h32.sh.deep 1 rfl)).one (allOne_cons ((h32.sh.own 2 rfl)).one (allOne_cons rfl (allOne_cons rfl allOne_nil)))) (Nat.le_of_ble_eq_true rfl) rfl) (wanted_none rfl _) ?_
  rintro a33 w33 h33
  clear h32
  refine wpList_nil ?_
  refine hK29 _ _ ?_
  refine wp_seq_k fun K34 hK34 => ?_
  refine wp_region_lit ?_
  refine wv h33 (r_ldbw (i := 5) (vs := [c11.v, u11.v, .int .i64 locks, .int .i64 regs]) ti_28 rfl rfl rfl rfl rfl) rfl rfl fun a35 h35 => ?_
  clear h33
  refine wv h35 (r_ldbw (i := 0) (vs := [c31.v, u31.v, .int .i64 locks, .int .i64 regs]) ti_28 rfl rfl rfl rfl rfl) rfl rfl fun a36 h36 => ?_
  clear h35
  refine wl_ex (x_call h36 bd_29 rfl rfl rfl rfl rfl (same_c c11 u11 locks regs c31 u31 locks regs _ (h36.sh.deep 6 rfl) (h36.sh.own 7 rfl) (h36.sh.deep 1 rfl) (h36.sh.own 2 rfl))) (wanted_none rfl _) ?_
  rintro a37 w37 ⟨_, ⟨rfl, hs37⟩, hf37⟩
  have h37 : St 40 (fun _ => False) W a37 w37 _ _ := ⟨hf37, h36.sh.call0 hs37⟩
  clear hf37 hs37
  clear h36
  refine wms 1 h37 rfl fun a38 h38 => ?_
  clear h37
  refine wpList_nil ?_
  refine hK34 _ _ ?_
  have h39 : St 40 (fun _ => False) W a38 w37 [(4, .pointer (some ⟨b16, 0, none⟩)), (8, .bool (decide (pgOf c11 u11 locks regs = pgOf c31 u31 locks regs)))] [.blk b32 28 [c31.v, u31.v, .int .i64 locks, .int .i64 regs], .deep 64 c31, .own 3 u31, .blk b22 31 [.int .i64 ((checkG (pgOf code words locks regs)).code), .int .i64 ((checkG (pgOf code words locks regs)).thread), .int .i64 ((checkG (pgOf code words locks regs)).at_)], .blk b16 31 [.int .i64 0, .int .i64 0, .int .i64 0], .blk b15 28 [c11.v, u11.v, .int .i64 locks, .int .i64 regs], .deep 64 c11, .own 3 u11, .blk b3 28 [code.v, words.v, .int .i64 locks, .int .i64 regs], .at_ code, .at_ words] := h38.nrm ⟨rfl, rfl, trivial⟩ [0, 1, 2, 3, 4, 5, 6, 7, 8, 9, 10] (by decide) ⟨rfl, rfl, rfl, rfl, rfl, rfl, rfl, rfl, rfl, rfl, rfl, trivial⟩
  clear h38
  refine wp_seq_k fun K40 hK40 => ?_
  refine wp_region_lit ?_
  refine wv h39 (r_fieldB (r := 0) fl_31_0 rfl rfl rfl) rfl rfl fun a41 h41 => ?_
  clear h39
  refine wv h41 (r_ldb (i := 4) ti_22 rfl rfl rfl rfl) rfl rfl fun a42 h42 => ?_
  clear h41
  refine wv h42 (r_eqlN (p := 0) (q := 0) rfl rfl rfl) rfl rfl fun a43 h43 => ?_
  clear h42
  refine wms 1 h43 rfl fun a44 h44 => ?_
  clear h43
  refine wl_val h44 (r_move rfl rfl) (wanted_yes h44.fr rfl rfl rfl rfl (by decide)) rfl rfl fun a45 h45 => ?_
  clear h44
  refine wv h45 (r_pickT rfl rfl (by decide) rfl) rfl rfl fun a46 h46 => ?_
  clear h45
  refine wms 1 h46 rfl fun a47 h47 => ?_
  clear h46
  refine wpList_nil ?_
  refine hK40 _ _ ?_
  refine wp_ret ?_
  try simp only [Exit.then, Exit.inBlock]
  refine x_ret1 (fn := Try.f8) (t := 2) rfl h47 rfl ?_
  refine ⟨?_, (h47.sh.sel [] (by decide) trivial)⟩
  congr 1
  refine decide_eq_true (pg_eq2 ?_ ?_)
  · simp only [*]
  · simp only [*]

set_option maxRecDepth 100000 in
set_option maxHeartbeats 4000000 in
theorem jumpMakes_b (code : Ls (Ls Ins)) (words : Ls Int) (locks regs : Int) (W : World) (hcode : code.At W) (hwords : words.At W) (hv : vastG (code.l.map (·.l)) words.l = false) (hz : (checkG (pgOf code words locks regs)).code ≠ 0) :
    Rets Try.prog 8 [.agg #[code.v, words.v, .int .i64 locks, .int .i64 regs]] W (fun v w' => v = .bool true ∧ Sh0 W w' []) := by
  refine x_enter (N := 40) Try.func8 rfl Try.ntmps8 (Nat.le_of_ble_eq_true rfl) fun a1 hf1 => ?_
  have h1 : St 40 (fun _ => False) W a1 W [(0, .agg #[code.v, words.v, .int .i64 locks, .int .i64 regs])] [.at_ code, .at_ words] := ⟨hf1.sub ⟨rfl, trivial⟩, Sh0.ext2 hcode hwords⟩
  clear hf1
  refine wp_seq_k fun K2 hK2 => ?_
  refine wp_region_lit ?_
  refine wl_ex (x_box (cs := [code.v, words.v, .int .i64 locks, .int .i64 regs]) h1 rfl rfl rfl rfl rfl) (wanted_none rfl _) ?_
  rintro a3 w3 ⟨b3, h3⟩
  clear h1
  refine wms 1 h3 rfl fun a4 h4 => ?_
  clear h3
  refine wpList_nil ?_
  refine hK2 _ _ ?_
  refine wp_seq_k fun K5 hK5 => ?_
  refine wp_seq_k fun K6 hK6 => ?_
  refine wp_region_lit ?_
  refine wv h4 (r_ldbw (i := 0) (vs := [code.v, words.v, .int .i64 locks, .int .i64 regs]) ti_28 rfl rfl rfl rfl rfl) rfl rfl fun a7 h7 => ?_
  clear h4
  refine wl_ex (x_call h7 bd_18 rfl rfl rfl rfl rfl (vast_c (code := code) (words := words) (locks := locks) (regs := regs) (h7.sh.at 1 rfl) (h7.sh.at 2 rfl))) (wanted_none rfl _) ?_
  rintro a8 w8 ⟨_, ⟨rfl, hs8⟩, hf8⟩
  have h8 : St 40 (fun _ => False) W a8 w8 _ _ := ⟨hf8, h7.sh.call0 hs8⟩
  clear hf8 hs8
  clear h7
  refine wpList_nil ?_
  refine hK6 _ _ ?_
  refine x_condF h8 rfl hv ?_
  refine wp_skip ?_
  refine hK5 _ _ ?_
  refine wp_seq_k fun K9 hK9 => ?_
  refine wp_region_lit ?_
  refine wv h8 (r_ldbw (i := 0) (vs := [code.v, words.v, .int .i64 locks, .int .i64 regs]) ti_28 rfl rfl rfl rfl rfl) rfl rfl fun a10 h10 => ?_
  clear h8
  refine wl_ex (x_call h10 bd_26 rfl rfl rfl rfl rfl (jStraight_cB code words locks regs _ (h10.sh.at 1 rfl) (h10.sh.at 2 rfl) hz)) (wanted_none rfl _) ?_
  rintro a11 w11 ⟨_, ⟨rfl, hs11⟩, hf11⟩
  have h11 : St 40 (fun _ => False) W a11 w11 _ _ := ⟨hf11, h10.sh.call0 hs11⟩
  clear hf11 hs11
  clear h10
  refine wms 1 h11 rfl fun a12 h12 => ?_
  clear h11
  refine wv h12 (r_extract rfl rfl rfl) rfl rfl fun a13 h13 => ?_
  clear h12
  refine wv h13 (r_extract rfl rfl rfl) rfl rfl fun a14 h14 => ?_
  clear h13
  refine wl_ex (x_alloc h14 ti_28 rfl rfl rfl) (wanted_none rfl _) ?_
  rintro a15 w15 ⟨b15, h15⟩
  clear h14
  refine wl_ex (x_alloc h15 ti_31 rfl rfl rfl) (wanted_none rfl _) ?_
  rintro a16 w16 ⟨b16, h16⟩
  clear h15
  refine wl_ex (x_stb (i := 1) (vs := [(.slice none 0 0), (.slice none 0 0), .int .i64 0, .int .i64 0]) (cs' := [(.slice none 0 0), (.slice none 0 0), .int .i64 0, .int .i64 0]) h16 ti_28 rfl rfl rfl rfl rfl rfl rfl (allOne_cons ((Sh.nilAt (α := Ls Ins) h16.sh)).one (allOne_cons ((Sh.nilAt (α := Int) h16.sh)).one (allOne_cons rfl (allOne_cons rfl allOne_nil)))) (Nat.le_of_ble_eq_true rfl) rfl) (wanted_none rfl _) ?_
  rintro a17 w17 h17
  clear h16
  refine wl_ex (x_stb (i := 0) (vs := [.int .i64 ((checkG (pgOf code words locks regs)).code), .int .i64 ((checkG (pgOf code words locks regs)).thread), .int .i64 ((checkG (pgOf code words locks regs)).at_)]) (cs' := [.int .i64 ((checkG (pgOf code words locks regs)).code), .int .i64 ((checkG (pgOf code words locks regs)).thread), .int .i64 ((checkG (pgOf code words locks regs)).at_)]) h17 ti_31 rfl rfl rfl rfl rfl rfl rfl (allOne_cons rfl (allOne_cons rfl (allOne_cons rfl allOne_nil))) (Nat.le_of_ble_eq_true rfl) rfl) (wanted_none rfl _) ?_
  rintro a18 w18 h18
  clear h17
  refine wpList_nil ?_
  refine hK9 _ _ ?_
  refine wp_seq_k fun K19 hK19 => ?_
  refine wp_region_lit ?_
  refine wv h18 (r_ldbw (i := 2) (vs := [code.v, words.v, .int .i64 locks, .int .i64 regs]) ti_28 rfl rfl rfl rfl rfl) rfl rfl fun a20 h20 => ?_
  clear h18
  refine wl_ex (x_call h20 bd_20 rfl rfl rfl rfl rfl (refCheck_c (code := code) (words := words) (locks := locks) (regs := regs) (h20.sh.at 3 rfl) (h20.sh.at 4 rfl))) (wanted_none rfl _) ?_
  rintro a21 w21 ⟨_, ⟨rfl, hs21⟩, hf21⟩
  have h21 : St 40 (fun _ => False) W a21 w21 _ _ := ⟨hf21, h20.sh.call0 hs21⟩
  clear hf21 hs21
  clear h20
  refine wl_ex (x_alloc h21 ti_31 rfl rfl rfl) (wanted_none rfl _) ?_
  rintro a22 w22 ⟨b22, h22⟩
  clear h21
  refine wl_ex (x_stb (i := 0) (vs := [.int .i64 ((checkG (pgOf code words locks regs)).code), .int .i64 ((checkG (pgOf code words locks regs)).thread), .int .i64 ((checkG (pgOf code words locks regs)).at_)]) (cs' := [.int .i64 ((checkG (pgOf code words locks regs)).code), .int .i64 ((checkG (pgOf code words locks regs)).thread), .int .i64 ((checkG (pgOf code words locks regs)).at_)]) h22 ti_31 rfl rfl rfl rfl rfl rfl rfl (allOne_cons rfl (allOne_cons rfl (allOne_cons rfl allOne_nil))) (Nat.le_of_ble_eq_true rfl) rfl) (wanted_none rfl _) ?_
  rintro a23 w23 h23
  clear h22
  refine wpList_nil ?_
  refine hK19 _ _ ?_
  refine wp_seq_k fun K24 hK24 => ?_
  refine wp_seq_k fun K25 hK25 => ?_
  refine wp_region_lit ?_
  refine wv h23 (r_fieldB (r := 0) fl_31_0 rfl rfl rfl) rfl rfl fun a26 h26 => ?_
  clear h23
  refine wv h26 (r_ldb (i := 0) ti_22 rfl rfl rfl rfl) rfl rfl fun a27 h27 => ?_
  clear h26
  refine wv h27 (r_neqI (p := (checkG (pgOf code words locks regs)).code) (q := 0) rfl rfl rfl) rfl rfl fun a28 h28 => ?_
  clear h27
  refine wpList_nil ?_
  refine hK25 _ _ ?_
  refine x_condT h28 rfl (decide_eq_true hz) ?_
  refine wp_seq_k fun K29 hK29 => ?_
  refine wp_region_lit ?_
  refine wv h28 (r_ldbw (i := 2) (vs := [(.slice none 0 0), (.slice none 0 0), .int .i64 0, .int .i64 0]) ti_28 rfl rfl rfl rfl rfl) rfl rfl fun a30 h30 => ?_
  clear h28
  refine wl_ex (x_call h30 bd_27 rfl rfl rfl rfl rfl (none_c (⟨.slice none 0 0, []⟩ : Ls (Ls Ins)) (⟨.slice none 0 0, []⟩ : Ls Int) 0 0 _ (Sh.nilAt (α := Ls Ins) h30.sh) (Sh.nilAt (α := Int) h30.sh))) (wanted_none rfl _) ?_
  rintro a31 w31 ⟨_, ⟨rfl, hs31⟩, hf31⟩
  have h31 : St 40 (fun _ => False) W a31 w31 _ _ := ⟨hf31, h30.sh.call0 hs31⟩
  clear hf31 hs31
  clear h30
  refine wms 1 h31 rfl fun a32 h32 => ?_
  clear h31
  refine wpList_nil ?_
  refine hK29 _ _ ?_
  refine wp_seq_k fun K33 hK33 => ?_
  refine wp_region_lit ?_
  refine wv h32 (r_ldbw (i := 1) (vs := [.int .i64 ((checkG (pgOf code words locks regs)).code), .int .i64 ((checkG (pgOf code words locks regs)).thread), .int .i64 ((checkG (pgOf code words locks regs)).at_)]) ti_31 rfl rfl rfl rfl rfl) rfl rfl fun a34 h34 => ?_
  clear h32
  refine wv h34 (r_ldbw (i := 0) (vs := [.int .i64 ((checkG (pgOf code words locks regs)).code), .int .i64 ((checkG (pgOf code words locks regs)).thread), .int .i64 ((checkG (pgOf code words locks regs)).at_)]) ti_31 rfl rfl rfl rfl rfl) rfl rfl fun a35 h35 => ?_
  clear h34
  refine wv h35 (r_eqS rfl rfl rfl (fun w => eq_fltG _ _ ⟨(checkG (pgOf code words locks regs)).code, (checkG (pgOf code words locks regs)).thread, (checkG (pgOf code words locks regs)).at_⟩ ⟨(checkG (pgOf code words locks regs)).code, (checkG (pgOf code words locks regs)).thread, (checkG (pgOf code words locks regs)).at_⟩ w) (fun w => eq_flt ⟨(checkG (pgOf code words locks regs)).code, (checkG (pgOf code words locks regs)).thread, (checkG (pgOf code words locks regs)).at_⟩ ⟨(checkG (pgOf code words locks regs)).code, (checkG (pgOf code words locks regs)).thread, (checkG (pgOf code words locks regs)).at_⟩ w)) rfl rfl fun a36 h36 => ?_
  clear h35
  refine wms 1 h36 rfl fun a37 h37 => ?_
  clear h36
  refine wl_val h37 (r_move rfl rfl) (wanted_yes h37.fr rfl rfl rfl rfl (decide_eq_true rfl)) rfl rfl fun a38 h38 => ?_
  clear h37
  refine wv h38 (r_pickT rfl rfl (decide_eq_true rfl) rfl) rfl rfl fun a39 h39 => ?_
  clear h38
  refine wms 1 h39 rfl fun a40 h40 => ?_
  clear h39
  refine wpList_nil ?_
  refine hK33 _ _ ?_
  have h41 : St 40 (fun _ => False) W a40 w31 [(2, .bool (noneP (pgOf (⟨.slice none 0 0, []⟩ : Ls (Ls Ins)) (⟨.slice none 0 0, []⟩ : Ls Int) 0 0)))] [.blk b22 31 [.int .i64 ((checkG (pgOf code words locks regs)).code), .int .i64 ((checkG (pgOf code words locks regs)).thread), .int .i64 ((checkG (pgOf code words locks regs)).at_)], .blk b16 31 [.int .i64 ((checkG (pgOf code words locks regs)).code), .int .i64 ((checkG (pgOf code words locks regs)).thread), .int .i64 ((checkG (pgOf code words locks regs)).at_)], .blk b15 28 [(.slice none 0 0), (.slice none 0 0), .int .i64 0, .int .i64 0], .blk b3 28 [code.v, words.v, .int .i64 locks, .int .i64 regs], .at_ code, .at_ words] := h40.nrm ⟨rfl, trivial⟩ [0, 1, 2, 3, 4, 5] (by decide) ⟨rfl, rfl, rfl, rfl, rfl, rfl, trivial⟩
  clear h40
  refine wp_ret ?_
  try simp only [Exit.then, Exit.inBlock]
  refine x_ret1 (fn := Try.f8) (t := 2) rfl h41 rfl ?_
  exact ⟨rfl, (h41.sh.sel [] (by decide) trivial)⟩

theorem jumpMakes_any (code : Ls (Ls Ins)) (words : Ls Int) (locks regs : Int) (W : World) (hcode : code.At W) (hwords : words.At W) : Rets Try.prog 8 [.agg #[code.v, words.v, .int .i64 locks, .int .i64 regs]] W (fun v w' => v = .bool true ∧ Sh0 W w' []) := by
  cases hv : vastG (code.l.map (·.l)) words.l with
  | true => exact jumpMakes_v code words locks regs W hcode hwords hv
  | false =>
    by_cases hok : OkPg (pgOf code words locks regs)
    · exact jumpMakes_k code words locks regs W hcode hwords hv hok
    · exact jumpMakes_b code words locks regs W hcode hwords hv (fun h => hok (checkG_code_pos.1 h))
end Go.Proofs.Ytanhbpofhebbaaa
