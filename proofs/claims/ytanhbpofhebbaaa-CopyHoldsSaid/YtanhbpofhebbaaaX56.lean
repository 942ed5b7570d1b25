/-
  Contracts of functions of this program and of the references, each walked once.
-/
import Derived.Test.YtanhbpofhebbaaaX24
import Derived.Test.YtanhbpofhebbaaaX55
import Derived.Test.YtanhbpofhebbaaaU4
namespace Go.Proofs.Ytanhbpofhebbaaa
open Go.RowKit
set_option linter.unusedSimpArgs false
set_option linter.unusedVariables false


theorem copy_holds {code c : Ls (Ls Ins)} {words u : Ls Int} {Lk R : Nat} (hok : OkPg (pgN code words Lk R)) (hq : c.l.map (·.l) = (code.l.map (·.l)).map copyL) (hu : u.l = words.l) :
    OkPg (pgN c u Lk R) ∧ ∀ m : Int, m = 0 ∨ m = 1 → ∀ o, Outs (pgN code words Lk R) m o ↔ Outs (pgN c u Lk R) m o := by
  have e : pgN c u Lk R = copyPg (pgN code words Lk R) := by unfold pgN pgOf copyPg; rw [hq, hu]
  rw [e]
  exact ⟨copyPg_ok hok, fun m _ o => copy_outs hok o⟩

set_option maxRecDepth 100000 in
set_option maxHeartbeats 4000000 in
theorem copyHolds_v (code : Ls (Ls Ins)) (words : Ls Int) (locks regs : Int) (W : World) (hcode : code.At W) (hwords : words.At W) (hv : vastG (code.l.map (·.l)) words.l = true) :
    Rets Try.prog 16 [.agg #[code.v, words.v, .int .i64 locks, .int .i64 regs]] W (fun v w' => v = .bool true ∧ Sh0 W w' []) := by
 refine x_enter (N := 29) Try.func16 rfl Try.ntmps16 (Nat.le_of_ble_eq_true rfl) fun a1 hf1 => ?_
 have h1 : St 29 (fun _ => False) W a1 W [(0, .agg #[code.v, words.v, .int .i64 locks, .int .i64 regs])] [.at_ code, .at_ words] := ⟨hf1.sub ⟨rfl, trivial⟩, Sh0.ext2 hcode hwords⟩
 clear hf1
 refine wp_seq_k fun K2 hK2 => wp_region_lit ?_
 refine wl_ex (x_box (cs := [code.v, words.v, .int .i64 locks, .int .i64 regs]) h1 rfl rfl rfl rfl rfl) (wanted_none rfl _) ?_
 rintro a3 w3 ⟨b3, h3⟩; clear h1
 refine wms 1 h3 rfl fun a4 h4 => ?_; clear h3
 refine wpList_nil (hK2 _ _ ?_)
 refine wp_seq_k fun K5 hK5 => ?_
 refine wp_seq_k fun K6 hK6 => wp_region_lit ?_
 refine wv h4 (r_ldbw (i := 0) (vs := [code.v, words.v, .int .i64 locks, .int .i64 regs]) ti_28 rfl rfl rfl rfl rfl) rfl rfl fun a7 h7 => ?_; clear h4
 refine wl_ex (x_call h7 bd_18 rfl rfl rfl rfl rfl (vast_c (code := code) (words := words) (locks := locks) (regs := regs) (h7.sh.at 1 rfl) (h7.sh.at 2 rfl))) (wanted_none rfl _) ?_
 rintro a8 w8 ⟨_, ⟨rfl, hs8⟩, hf8⟩
 have h8 : St 29 (fun _ => False) W a8 w8 _ _ := ⟨hf8, h7.sh.call0 hs8⟩
 clear hf8 hs8
 clear h7
 refine wpList_nil (hK6 _ _ ?_)
 refine x_condT h8 rfl hv ?_
 refine wp_seq_k fun K9 hK9 => wp_region_lit ?_
 refine wms 1 h8 rfl fun a10 h10 => ?_; clear h8
 refine wpList_nil (hK9 _ _ ?_)
 refine wp_ret ?_
 try simp only [Exit.then, Exit.inBlock]
 refine x_ret1 (fn := Try.f16) (t := 2) rfl h10 rfl ?_
 exact ⟨rfl, (h10.sh.sel [] (by decide) trivial)⟩

set_option maxRecDepth 100000 in
set_option maxHeartbeats 4000000 in
theorem copyHolds_k (code : Ls (Ls Ins)) (words : Ls Int) (Lk R : Nat) (W : World) (hcode : code.At W) (hwords : words.At W) (hv : vastG (code.l.map (·.l)) words.l = false) (hok : OkPg (pgN code words Lk R)) :
    Rets Try.prog 16 [.agg #[code.v, words.v, .int .i64 ((Lk : Nat) : Int), .int .i64 ((R : Nat) : Int)]] W (fun v w' => v = .bool true ∧ Sh0 W w' []) := by
 have hz := checkG_ok hok
 obtain ⟨hl1, hl2, hl3, hl4', hl5, hl6, hl7⟩ := ok_lenN hok
 refine x_enter (N := 29) Try.func16 rfl Try.ntmps16 (Nat.le_of_ble_eq_true rfl) fun a1 hf1 => ?_
 have h1 : St 29 (fun _ => False) W a1 W [(0, .agg #[code.v, words.v, .int .i64 ((Lk : Nat) : Int), .int .i64 ((R : Nat) : Int)])] [.at_ code, .at_ words] := ⟨hf1.sub ⟨rfl, trivial⟩, Sh0.ext2 hcode hwords⟩
 clear hf1
 refine wp_seq_k fun K2 hK2 => wp_region_lit ?_
 refine wl_ex (x_box (cs := [code.v, words.v, .int .i64 ((Lk : Nat) : Int), .int .i64 ((R : Nat) : Int)]) h1 rfl rfl rfl rfl rfl) (wanted_none rfl _) ?_
 rintro a3 w3 ⟨b3, h3⟩; clear h1
 refine wms 1 h3 rfl fun a4 h4 => ?_; clear h3
 refine wpList_nil (hK2 _ _ ?_)
 refine wp_seq_k fun K5 hK5 => ?_
 refine wp_seq_k fun K6 hK6 => wp_region_lit ?_
 refine wv h4 (r_ldbw (i := 0) (vs := [code.v, words.v, .int .i64 ((Lk : Nat) : Int), .int .i64 ((R : Nat) : Int)]) ti_28 rfl rfl rfl rfl rfl) rfl rfl fun a7 h7 => ?_; clear h4
 refine wl_ex (x_call h7 bd_18 rfl rfl rfl rfl rfl (vast_c (code := code) (words := words) (locks := ((Lk : Nat) : Int)) (regs := ((R : Nat) : Int)) (h7.sh.at 1 rfl) (h7.sh.at 2 rfl))) (wanted_none rfl _) ?_
 rintro a8 w8 ⟨_, ⟨rfl, hs8⟩, hf8⟩
 have h8 : St 29 (fun _ => False) W a8 w8 _ _ := ⟨hf8, h7.sh.call0 hs8⟩
 clear hf8 hs8
 clear h7
 refine wpList_nil (hK6 _ _ ?_)
 refine x_condF h8 rfl hv ?_
 refine wp_skip ?_
 refine hK5 _ _ ?_
 refine wp_seq_k fun K9 hK9 => wp_region_lit ?_
 refine wv h8 (r_ldbw (i := 0) (vs := [code.v, words.v, .int .i64 ((Lk : Nat) : Int), .int .i64 ((R : Nat) : Int)]) ti_28 rfl rfl rfl rfl rfl) rfl rfl fun a10 h10 => ?_; clear h8
 refine wl_ex (x_call h10 bd_45 rfl rfl rfl rfl rfl (copyMade_c code words ((Lk : Nat) : Int) ((R : Nat) : Int) _ (h10.sh.at 1 rfl) (h10.sh.at 2 rfl) hok)) (wanted_none rfl _) ?_
 rintro a11 w11 ⟨_, ⟨c11, u11, rfl, hq11, hu11, hs11⟩, hf11⟩
 have h11 := (⟨hf11, h10.sh.call hs11 (by intro A hA b hb; first | (simp at hA; done) | (simp at hA; subst hA; first | exact Flat.noRd hb | exact (hb : False).elim) | (simp at hA; rcases hA with rfl | rfl <;> first | exact Flat.noRd hb | exact (hb : False).elim))⟩ : St 29 (fun _ => False) W a11 w11 _ _)
 clear hf11 hs11
 clear h10
 refine wms 1 h11 rfl fun a12 h12 => ?_; clear h11
 refine wv h12 (r_extract rfl rfl rfl) rfl rfl fun a13 h13 => ?_; clear h12
 refine wv h13 (r_extract rfl rfl rfl) rfl rfl fun a14 h14 => ?_; clear h13
 refine wl_ex (x_alloc h14 ti_28 rfl rfl rfl) (wanted_none rfl _) ?_
 rintro a15 w15 ⟨b15, h15⟩; clear h14
 refine wl_ex (x_alloc h15 ti_31 rfl rfl rfl) (wanted_none rfl _) ?_
 rintro a16 w16 ⟨b16, h16⟩; clear h15
 refine wl_ex (x_stb (i := 1) (vs := [c11.v, u11.v, .int .i64 ((Lk : Nat) : Int), .int .i64 ((R : Nat) : Int)]) (cs' := [c11.v, u11.v, .int .i64 ((Lk : Nat) : Int), .int .i64 ((R : Nat) : Int)]) h16 ti_28 rfl rfl rfl rfl rfl rfl rfl (allOne_cons ((h16.sh.deep 2 rfl)).one (allOne_cons ((h16.sh.own 3 rfl)).one (allOne_cons rfl (allOne_cons rfl allOne_nil)))) (Nat.le_of_ble_eq_true rfl) rfl) (wanted_none rfl _) ?_
 rintro a17 w17 h17
 clear h16
 refine wl_ex (x_stb (i := 0) (vs := [.int .i64 0, .int .i64 0, .int .i64 0]) (cs' := [.int .i64 0, .int .i64 0, .int .i64 0]) h17 ti_31 rfl rfl rfl rfl rfl rfl rfl (allOne_cons rfl (allOne_cons rfl (allOne_cons rfl allOne_nil))) (Nat.le_of_ble_eq_true rfl) rfl) (wanted_none rfl _) ?_
 rintro a18 w18 h18
 clear h17
 refine wpList_nil (hK9 _ _ ?_)
 refine wp_seq_k fun K19 hK19 => wp_region_lit ?_
 refine wv h18 (r_ldbw (i := 4) (vs := [code.v, words.v, .int .i64 ((Lk : Nat) : Int), .int .i64 ((R : Nat) : Int)]) ti_28 rfl rfl rfl rfl rfl) rfl rfl fun a20 h20 => ?_; clear h18
 refine wl_ex (x_call h20 bd_20 rfl rfl rfl rfl rfl (refCheck_c (code := code) (words := words) (locks := ((Lk : Nat) : Int)) (regs := ((R : Nat) : Int)) (h20.sh.at 5 rfl) (h20.sh.at 6 rfl))) (wanted_none rfl _) ?_
 rintro a21 w21 ⟨_, ⟨rfl, hs21⟩, hf21⟩
 have h21 : St 29 (fun _ => False) W a21 w21 _ _ := ⟨hf21, h20.sh.call0 hs21⟩
 clear hf21 hs21
 clear h20
 refine wl_ex (x_alloc h21 ti_31 rfl rfl rfl) (wanted_none rfl _) ?_
 rintro a22 w22 ⟨b22, h22⟩; clear h21
 refine wl_ex (x_stb (i := 0) (vs := [.int .i64 ((checkG (pgOf code words ((Lk : Nat) : Int) ((R : Nat) : Int))).code), .int .i64 ((checkG (pgOf code words ((Lk : Nat) : Int) ((R : Nat) : Int))).thread), .int .i64 ((checkG (pgOf code words ((Lk : Nat) : Int) ((R : Nat) : Int))).at_)]) (cs' := [.int .i64 ((checkG (pgOf code words ((Lk : Nat) : Int) ((R : Nat) : Int))).code), .int .i64 ((checkG (pgOf code words ((Lk : Nat) : Int) ((R : Nat) : Int))).thread), .int .i64 ((checkG (pgOf code words ((Lk : Nat) : Int) ((R : Nat) : Int))).at_)]) h22 ti_31 rfl rfl rfl rfl rfl rfl rfl (allOne_cons rfl (allOne_cons rfl (allOne_cons rfl allOne_nil))) (Nat.le_of_ble_eq_true rfl) rfl) (wanted_none rfl _) ?_
 rintro a23 w23 h23
 clear h22
 refine wpList_nil (hK19 _ _ ?_)
 refine wp_seq_k fun K24 hK24 => ?_
 refine wp_seq_k fun K25 hK25 => wp_region_lit ?_
 refine wv h23 (r_fieldB (r := 0) fl_31_0 rfl rfl rfl) rfl rfl fun a26 h26 => ?_; clear h23
 refine wv h26 (r_ldb (i := 0) ti_22 rfl rfl rfl rfl) rfl rfl fun a27 h27 => ?_; clear h26
 refine wv h27 (r_neqI (p := (checkG (pgOf code words ((Lk : Nat) : Int) ((R : Nat) : Int))).code) (q := 0) rfl rfl rfl) rfl rfl fun a28 h28 => ?_; clear h27
 refine wpList_nil (hK25 _ _ ?_)
 refine x_condF h28 rfl (by rw [show checkG (pgOf code words ((Lk : Nat) : Int) ((R : Nat) : Int)) = ⟨0, 0, 0⟩ from hz]; rfl) ?_
 refine wp_skip ?_
 refine hK24 _ _ ?_
 refine wp_seq_k fun K29 hK29 => wp_region_lit ?_
 refine wv h28 (r_fieldB (r := 0) fl_31_0 rfl rfl rfl) rfl rfl fun a30 h30 => ?_; clear h28
 refine wv h30 (r_ldb (i := 1) ti_22 rfl rfl rfl rfl) rfl rfl fun a31 h31 => ?_; clear h30
 refine wv h31 (r_eqlN (p := 0) (q := 0) rfl rfl rfl) rfl rfl fun a32 h32 => ?_; clear h31
 refine wms 1 h32 rfl fun a33 h33 => ?_; clear h32
 refine wl_val h33 (r_ldbw (i := 5) (vs := [code.v, words.v, .int .i64 ((Lk : Nat) : Int), .int .i64 ((R : Nat) : Int)]) ti_28 rfl rfl rfl rfl rfl) (wanted_yes h33.fr rfl rfl rfl rfl (by decide)) rfl rfl fun a34 h34 => ?_; clear h33
 refine wl_val h34 (r_ldbw (i := 2) (vs := [c11.v, u11.v, .int .i64 ((Lk : Nat) : Int), .int .i64 ((R : Nat) : Int)]) ti_28 rfl rfl rfl rfl rfl) (wanted_yes h34.fr rfl rfl rfl rfl (by decide)) rfl rfl fun a35 h35 => ?_; clear h34
 refine wl_ex (x_call h35 bd_30 rfl rfl rfl rfl rfl (holds_c code words c11 u11 Lk R _ (h35.sh.at 6 rfl) (h35.sh.at 7 rfl) (h35.sh.deep 3 rfl) (h35.sh.own 4 rfl) hok (copy_holds hok hq11 hu11).1 (copy_holds hok hq11 hu11).2)) (wanted_yes h35.fr rfl rfl rfl rfl (by decide)) ?_
 rintro a36 w36 ⟨_, ⟨rfl, hs36⟩, hf36⟩
 have h36 : St 29 (fun _ => False) W a36 w36 _ _ := ⟨hf36, h35.sh.call0 hs36⟩
 clear hf36 hs36
 clear h35
 refine wv h36 (r_pickT rfl rfl (by decide) rfl) rfl rfl fun a37 h37 => ?_; clear h36
 refine wms 1 h37 rfl fun a38 h38 => ?_; clear h37
 refine wpList_nil (hK29 _ _ ?_)
 have h39 : St 29 (fun _ => False) W a38 w36 [(2, .bool true)] [.blk b22 31 [.int .i64 ((checkG (pgOf code words ((Lk : Nat) : Int) ((R : Nat) : Int))).code), .int .i64 ((checkG (pgOf code words ((Lk : Nat) : Int) ((R : Nat) : Int))).thread), .int .i64 ((checkG (pgOf code words ((Lk : Nat) : Int) ((R : Nat) : Int))).at_)], .blk b16 31 [.int .i64 0, .int .i64 0, .int .i64 0], .blk b15 28 [c11.v, u11.v, .int .i64 ((Lk : Nat) : Int), .int .i64 ((R : Nat) : Int)], .deep 64 c11, .own 3 u11, .blk b3 28 [code.v, words.v, .int .i64 ((Lk : Nat) : Int), .int .i64 ((R : Nat) : Int)], .at_ code, .at_ words] := h38.nrm ⟨rfl, trivial⟩ [0, 1, 2, 3, 4, 5, 6, 7] (by decide) ⟨rfl, rfl, rfl, rfl, rfl, rfl, rfl, rfl, trivial⟩
 clear h38
 refine wp_ret ?_
 try simp only [Exit.then, Exit.inBlock]
 refine x_ret1 (fn := Try.f16) (t := 2) rfl h39 rfl ?_
 exact ⟨rfl, (h39.sh.sel [] (by decide) trivial)⟩

set_option maxRecDepth 100000 in
set_option maxHeartbeats 4000000 in
theorem copyHolds_b (code : Ls (Ls Ins)) (words : Ls Int) (locks regs : Int) (W : World) (hcode : code.At W) (hwords : words.At W) (hv : vastG (code.l.map (·.l)) words.l = false) (hz : (checkG (pgOf code words locks regs)).code ≠ 0) :
    Rets Try.prog 16 [.agg #[code.v, words.v, .int .i64 locks, .int .i64 regs]] W (fun v w' => v = .bool true ∧ Sh0 W w' []) := by
 refine x_enter (N := 29) Try.func16 rfl Try.ntmps16 (Nat.le_of_ble_eq_true rfl) fun a1 hf1 => ?_
 have h1 : St 29 (fun _ => False) W a1 W [(0, .agg #[code.v, words.v, .int .i64 locks, .int .i64 regs])] [.at_ code, .at_ words] := ⟨hf1.sub ⟨rfl, trivial⟩, Sh0.ext2 hcode hwords⟩
 clear hf1
 refine wp_seq_k fun K2 hK2 => wp_region_lit ?_
 refine wl_ex (x_box (cs := [code.v, words.v, .int .i64 locks, .int .i64 regs]) h1 rfl rfl rfl rfl rfl) (wanted_none rfl _) ?_
 rintro a3 w3 ⟨b3, h3⟩; clear h1
 refine wms 1 h3 rfl fun a4 h4 => ?_; clear h3
 refine wpList_nil (hK2 _ _ ?_)
 refine wp_seq_k fun K5 hK5 => ?_
 refine wp_seq_k fun K6 hK6 => wp_region_lit ?_
 refine wv h4 (r_ldbw (i := 0) (vs := [code.v, words.v, .int .i64 locks, .int .i64 regs]) ti_28 rfl rfl rfl rfl rfl) rfl rfl fun a7 h7 => ?_; clear h4
 refine wl_ex (x_call h7 bd_18 rfl rfl rfl rfl rfl (vast_c (code := code) (words := words) (locks := locks) (regs := regs) (h7.sh.at 1 rfl) (h7.sh.at 2 rfl))) (wanted_none rfl _) ?_
 rintro a8 w8 ⟨_, ⟨rfl, hs8⟩, hf8⟩
 have h8 : St 29 (fun _ => False) W a8 w8 _ _ := ⟨hf8, h7.sh.call0 hs8⟩
 clear hf8 hs8
 clear h7
 refine wpList_nil (hK6 _ _ ?_)
 refine x_condF h8 rfl hv ?_
 refine wp_skip ?_
 refine hK5 _ _ ?_
 refine wp_seq_k fun K9 hK9 => wp_region_lit ?_
 refine wv h8 (r_ldbw (i := 0) (vs := [code.v, words.v, .int .i64 locks, .int .i64 regs]) ti_28 rfl rfl rfl rfl rfl) rfl rfl fun a10 h10 => ?_; clear h8
 refine wl_ex (x_call h10 bd_45 rfl rfl rfl rfl rfl (copyMade_cB code words locks regs _ (h10.sh.at 1 rfl) (h10.sh.at 2 rfl) hz)) (wanted_none rfl _) ?_
 rintro a11 w11 ⟨_, ⟨rfl, hs11⟩, hf11⟩
 have h11 : St 29 (fun _ => False) W a11 w11 _ _ := ⟨hf11, h10.sh.call0 hs11⟩
 clear hf11 hs11
 clear h10
 refine wms 1 h11 rfl fun a12 h12 => ?_; clear h11
 refine wv h12 (r_extract rfl rfl rfl) rfl rfl fun a13 h13 => ?_; clear h12
 refine wv h13 (r_extract rfl rfl rfl) rfl rfl fun a14 h14 => ?_; clear h13
 refine wl_ex (x_alloc h14 ti_28 rfl rfl rfl) (wanted_none rfl _) ?_
 rintro a15 w15 ⟨b15, h15⟩; clear h14
 refine wl_ex (x_alloc h15 ti_31 rfl rfl rfl) (wanted_none rfl _) ?_
 rintro a16 w16 ⟨b16, h16⟩; clear h15
 refine wl_ex (x_stb (i := 1) (vs := [(.slice none 0 0), (.slice none 0 0), .int .i64 0, .int .i64 0]) (cs' := [(.slice none 0 0), (.slice none 0 0), .int .i64 0, .int .i64 0]) h16 ti_28 rfl rfl rfl rfl rfl rfl rfl (allOne_cons ((Sh.nilAt (α := Ls Ins) h16.sh)).one (allOne_cons ((Sh.nilAt (α := Int) h16.sh)).one (allOne_cons rfl (allOne_cons rfl allOne_nil)))) (Nat.le_of_ble_eq_true rfl) rfl) (wanted_none rfl _) ?_
 rintro a17 w17 h17
 clear h16
 refine wl_ex (x_stb (i := 0) (vs := [.int .i64 ((checkG (pgOf code words locks regs)).code), .int .i64 ((checkG (pgOf code words locks regs)).thread), .int .i64 ((checkG (pgOf code words locks regs)).at_)]) (cs' := [.int .i64 ((checkG (pgOf code words locks regs)).code), .int .i64 ((checkG (pgOf code words locks regs)).thread), .int .i64 ((checkG (pgOf code words locks regs)).at_)]) h17 ti_31 rfl rfl rfl rfl rfl rfl rfl (allOne_cons rfl (allOne_cons rfl (allOne_cons rfl allOne_nil))) (Nat.le_of_ble_eq_true rfl) rfl) (wanted_none rfl _) ?_
 rintro a18 w18 h18
 clear h17
 refine wpList_nil (hK9 _ _ ?_)
 refine wp_seq_k fun K19 hK19 => wp_region_lit ?_
 refine wv h18 (r_ldbw (i := 2) (vs := [code.v, words.v, .int .i64 locks, .int .i64 regs]) ti_28 rfl rfl rfl rfl rfl) rfl rfl fun a20 h20 => ?_; clear h18
 refine wl_ex (x_call h20 bd_20 rfl rfl rfl rfl rfl (refCheck_c (code := code) (words := words) (locks := locks) (regs := regs) (h20.sh.at 3 rfl) (h20.sh.at 4 rfl))) (wanted_none rfl _) ?_
 rintro a21 w21 ⟨_, ⟨rfl, hs21⟩, hf21⟩
 have h21 : St 29 (fun _ => False) W a21 w21 _ _ := ⟨hf21, h20.sh.call0 hs21⟩
 clear hf21 hs21
 clear h20
 refine wl_ex (x_alloc h21 ti_31 rfl rfl rfl) (wanted_none rfl _) ?_
 rintro a22 w22 ⟨b22, h22⟩; clear h21
 refine wl_ex (x_stb (i := 0) (vs := [.int .i64 ((checkG (pgOf code words locks regs)).code), .int .i64 ((checkG (pgOf code words locks regs)).thread), .int .i64 ((checkG (pgOf code words locks regs)).at_)]) (cs' := [.int .i64 ((checkG (pgOf code words locks regs)).code), .int .i64 ((checkG (pgOf code words locks regs)).thread), .int .i64 ((checkG (pgOf code words locks regs)).at_)]) h22 ti_31 rfl rfl rfl rfl rfl rfl rfl (allOne_cons rfl (allOne_cons rfl (allOne_cons rfl allOne_nil))) (Nat.le_of_ble_eq_true rfl) rfl) (wanted_none rfl _) ?_
 rintro a23 w23 h23
 clear h22
 refine wpList_nil (hK19 _ _ ?_)
 refine wp_seq_k fun K24 hK24 => ?_
 refine wp_seq_k fun K25 hK25 => wp_region_lit ?_
 refine wv h23 (r_fieldB (r := 0) fl_31_0 rfl rfl rfl) rfl rfl fun a26 h26 => ?_; clear h23
 refine wv h26 (r_ldb (i := 0) ti_22 rfl rfl rfl rfl) rfl rfl fun a27 h27 => ?_; clear h26
 refine wv h27 (r_neqI (p := (checkG (pgOf code words locks regs)).code) (q := 0) rfl rfl rfl) rfl rfl fun a28 h28 => ?_; clear h27
 refine wpList_nil (hK25 _ _ ?_)
 refine x_condT h28 rfl (decide_eq_true hz) ?_
 refine wp_seq_k fun K29 hK29 => wp_region_lit ?_
 refine wv h28 (r_ldbw (i := 1) (vs := [.int .i64 ((checkG (pgOf code words locks regs)).code), .int .i64 ((checkG (pgOf code words locks regs)).thread), .int .i64 ((checkG (pgOf code words locks regs)).at_)]) ti_31 rfl rfl rfl rfl rfl) rfl rfl fun a30 h30 => ?_; clear h28
 refine wv h30 (r_ldbw (i := 0) (vs := [.int .i64 ((checkG (pgOf code words locks regs)).code), .int .i64 ((checkG (pgOf code words locks regs)).thread), .int .i64 ((checkG (pgOf code words locks regs)).at_)]) ti_31 rfl rfl rfl rfl rfl) rfl rfl fun a31 h31 => ?_; clear h30
 refine wv h31 (r_eqS rfl rfl rfl (fun w => eq_fltG _ _ ⟨(checkG (pgOf code words locks regs)).code, (checkG (pgOf code words locks regs)).thread, (checkG (pgOf code words locks regs)).at_⟩ ⟨(checkG (pgOf code words locks regs)).code, (checkG (pgOf code words locks regs)).thread, (checkG (pgOf code words locks regs)).at_⟩ w) (fun w => eq_flt ⟨(checkG (pgOf code words locks regs)).code, (checkG (pgOf code words locks regs)).thread, (checkG (pgOf code words locks regs)).at_⟩ ⟨(checkG (pgOf code words locks regs)).code, (checkG (pgOf code words locks regs)).thread, (checkG (pgOf code words locks regs)).at_⟩ w)) rfl rfl fun a32 h32 => ?_; clear h31
 refine wms 1 h32 rfl fun a33 h33 => ?_; clear h32
 refine wpList_nil (hK29 _ _ ?_)
 refine wp_ret ?_
 try simp only [Exit.then, Exit.inBlock]
 refine x_ret1 (fn := Try.f16) (t := 2) rfl h33 rfl ?_
 exact ⟨congrArg _ (decide_eq_true rfl), (h33.sh.sel [] (by decide) trivial)⟩

theorem copyHolds_any (code : Ls (Ls Ins)) (words : Ls Int) (locks regs : Int) (W : World) (hcode : code.At W) (hwords : words.At W) : Rets Try.prog 16 [.agg #[code.v, words.v, .int .i64 locks, .int .i64 regs]] W (fun v w' => v = .bool true ∧ Sh0 W w' []) := by
  cases hv : vastG (code.l.map (·.l)) words.l with
  | true => exact copyHolds_v code words locks regs W hcode hwords hv
  | false =>
    by_cases hok : OkPg (pgOf code words locks regs)
    · obtain ⟨Lk, rfl⟩ := Int.eq_ofNat_of_zero_le hok.locks.1
      obtain ⟨R, rfl⟩ := Int.eq_ofNat_of_zero_le (show 0 ≤ regs by have := hok.regs.1; have e : (pgOf code words (Lk : Int) regs).regs = regs := rfl; omega)
      exact copyHolds_k code words Lk R W hcode hwords hv hok
    · exact copyHolds_b code words locks regs W hcode hwords hv (fun h => hok (checkG_code_pos.1 h))
end Go.Proofs.Ytanhbpofhebbaaa
