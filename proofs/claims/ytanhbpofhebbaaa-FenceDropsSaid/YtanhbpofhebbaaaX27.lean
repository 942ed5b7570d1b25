/-
  Contracts of functions of this program and of the references, each walked once.
-/
import Derived.Test.YtanhbpofhebbaaaX23
import Derived.Test.YtanhbpofhebbaaaX13
import Derived.Test.YtanhbpofhebbaaaD1
namespace Go.Proofs.Ytanhbpofhebbaaa
open Go.RowKit
set_option linter.unusedSimpArgs false
set_option linter.unusedVariables false


theorem fence_drop {code c : Ls (Ls Ins)} {words u : Ls Int} {Lk R : Nat} (hok : OkPg (pgN code words Lk R)) (hq : c.l.map (·.l) = (code.l.map (·.l)).map dropL) (hu : u.l = words.l) :
    OkPg (pgN c u Lk R) ∧ ∀ o, Outs (pgN code words Lk R) 1 o ↔ Outs (pgN c u Lk R) 1 o := by
  have e : pgN c u Lk R = dropPg (pgN code words Lk R) := by unfold pgN pgOf dropPg; rw [hq, hu]
  rw [e]
  exact ⟨dropPg_ok hok, fun o => drop_outs hok (dropPg_ok hok) o⟩

set_option maxRecDepth 100000 in
set_option maxHeartbeats 1000000 in
theorem make1_c (code : Ls (Ls Ins)) (words : Ls Int) (Lk R : Nat) (W : World) (hcode : code.At W) (hwords : words.At W) (hok : OkPg (pgN code words Lk R)) :
    Rets Try.prog 24 [.agg #[code.v, words.v, .int .i64 ((Lk : Nat) : Int), .int .i64 ((R : Nat) : Int)], .bool true] W (fun v w' => ∃ (g : Nat) (full : Bool) (sv kv hv bv : Value) (ends : Ls OutL), v = .pointer (some ⟨g, 0, none⟩) ∧ (full = false → Sorted_ (ends.l.map OutL.out) ∧ ∀ o, o ∈ ends.l.map OutL.out ↔ Outs (pgN code words Lk R) 1 o) ∧ (∀ o ∈ ends.l, ∀ b, Enc.on o b → W.heap.size ≤ b) ∧ Sh0 W w' [.blk g 49 [sv, kv, hv, bv, ends.v, .bool full], .own 56 ends]) := by
 refine x_enter (N := 10) Try.func24 rfl Try.ntmps24 (Nat.le_of_ble_eq_true rfl) fun a1 hf1 => ?_
 have h1 : St 10 (fun _ => False) W a1 W [(0, .agg #[code.v, words.v, .int .i64 ((Lk : Nat) : Int), .int .i64 ((R : Nat) : Int)]), (1, .bool true)] [.at_ code, .at_ words] := ⟨hf1.sub ⟨rfl, rfl, trivial⟩, Sh0.ext2 hcode hwords⟩
 clear hf1
 refine wp_seq_k fun K2 hK2 => wp_region_lit ?_
 refine wl_ex (x_box (cs := [code.v, words.v, .int .i64 ((Lk : Nat) : Int), .int .i64 ((R : Nat) : Int)]) h1 rfl rfl rfl rfl rfl) (wanted_none rfl _) ?_
 rintro a3 w3 ⟨b3, h3⟩; clear h1
 refine wms 1 h3 rfl fun a4 h4 => ?_; clear h3
 refine wpList_nil (hK2 _ _ ?_)
 refine wp_seq_k fun K5 hK5 => ?_
 refine wp_seq_k fun K6 hK6 => wp_region_lit ?_
 refine wms 1 h4 rfl fun a7 h7 => ?_; clear h4
 refine wpList_nil (hK6 _ _ ?_)
 refine x_condT h7 rfl rfl ?_
 refine wp_seq_k fun K8 hK8 => wp_region_lit ?_
 refine wv h7 (r_ldbw (i := 0) (vs := [code.v, words.v, .int .i64 ((Lk : Nat) : Int), .int .i64 ((R : Nat) : Int)]) ti_28 rfl rfl rfl rfl rfl) rfl rfl fun a9 h9 => ?_; clear h7
 refine wl_ex (x_call h9 bd_67 rfl rfl rfl rfl rfl (by_c code words Lk R 1 _ (h9.sh.at 1 rfl) (h9.sh.at 2 rfl) hok)) (wanted_none rfl _) ?_
 rintro a10 w10 ⟨_, ⟨g10, fu10, sv10, kv10, hv10, bv10, en10, rfl, hby10, hnw10, hs10⟩, hf10⟩
 have hsz10 := h9.sh.chg.size
 have h10 := (⟨hf10, h9.sh.call hs10 (by intro A hA b hb; simp only [List.mem_cons, List.not_mem_nil, or_false] at hA; rcases hA with rfl | rfl; exact (hb : False).elim; exact .inl (by obtain ⟨i9, hi9, hb9⟩ := hb; exact hnw10 _ (nth_mem _ _ hi9) b hb9))⟩ : St 10 (fun _ => False) W a10 w10 _ _)
 clear hf10 hs10
 clear h9
 refine wms 1 h10 rfl fun a11 h11 => ?_; clear h10
 refine wpList_nil (hK8 _ _ ?_)
 refine wp_ret ?_
 try simp only [Exit.then, Exit.inBlock]
 refine x_ret1 (fn := Try.f24) (t := 4) rfl h11 rfl ?_
 exact ⟨g10, fu10, _, _, _, _, en10, rfl, hby10, (fun o ho b hb => Nat.le_trans hsz10 (hnw10 o ho b hb)), (h11.sh.sel (L' := [.blk g10 49 [sv10, kv10, hv10, bv10, en10.v, .bool fu10], .own 56 en10]) [0, 1] (by decide) ⟨rfl, rfl, trivial⟩)⟩

set_option maxRecDepth 100000 in
set_option maxHeartbeats 4000000 in
theorem fenceDrops_v (code : Ls (Ls Ins)) (words : Ls Int) (locks regs : Int) (W : World) (hcode : code.At W) (hwords : words.At W) (hv : vastG (code.l.map (·.l)) words.l = true) :
    Rets Try.prog 12 [.agg #[code.v, words.v, .int .i64 locks, .int .i64 regs]] W (fun v w' => v = .bool true ∧ Sh0 W w' []) := by
 refine x_enter (N := 59) Try.func12 rfl Try.ntmps12 (Nat.le_of_ble_eq_true rfl) fun a1 hf1 => ?_
 have h1 : St 59 (fun _ => False) W a1 W [(0, .agg #[code.v, words.v, .int .i64 locks, .int .i64 regs])] [.at_ code, .at_ words] := ⟨hf1.sub ⟨rfl, trivial⟩, Sh0.ext2 hcode hwords⟩
 clear hf1
 refine wp_seq_k fun K2 hK2 => wp_region_lit ?_
 refine wl_ex (x_box (cs := [code.v, words.v, .int .i64 locks, .int .i64 regs]) h1 rfl rfl rfl rfl rfl) (wanted_none rfl _) ?_
 rintro a3 w3 ⟨b3, h3⟩; clear h1
 refine wms 1 h3 rfl fun a4 h4 => ?_; clear h3
 refine wpList_nil (hK2 _ _ ?_)
 refine wp_seq_k fun K5 hK5 => ?_
 refine wp_seq_k fun K6 hK6 => wp_region_lit ?_
 refine wv h4 (r_ldbw (i := 0) (vs := [code.v, words.v, .int .i64 locks, .int .i64 regs]) ti_28 rfl rfl rfl rfl rfl) rfl rfl fun a7 h7 => ?_; clear h4
 refine wl_ex (x_call h7 bd_18 rfl rfl rfl rfl rfl (vast_c (code := code) (words := words) (locks := locks) (regs := regs) (h7.sh.at 1 rfl) (h7.sh.at 2 rfl))) (wanted_none rfl _) ?_
 rintro a8 w8 ⟨_, ⟨rfl, hs8⟩, hf8⟩
 have h8 : St 59 (fun _ => False) W a8 w8 _ _ := ⟨hf8, h7.sh.call0 hs8⟩
 clear hf8 hs8
 clear h7
 refine wpList_nil (hK6 _ _ ?_)
 refine x_condT h8 rfl hv ?_
 refine wp_seq_k fun K9 hK9 => wp_region_lit ?_
 refine wms 1 h8 rfl fun a10 h10 => ?_; clear h8
 refine wpList_nil (hK9 _ _ ?_)
 refine wp_ret ?_
 try simp only [Exit.then, Exit.inBlock]
 refine x_ret1 (fn := Try.f12) (t := 2) rfl h10 rfl ?_
 exact ⟨rfl, (h10.sh.sel [] (by decide) trivial)⟩

set_option maxRecDepth 100000 in
set_option maxHeartbeats 4000000 in
theorem fenceDrops_b (code : Ls (Ls Ins)) (words : Ls Int) (locks regs : Int) (W : World) (hcode : code.At W) (hwords : words.At W) (hv : vastG (code.l.map (·.l)) words.l = false) (hz : (checkG (pgOf code words locks regs)).code ≠ 0) :
    Rets Try.prog 12 [.agg #[code.v, words.v, .int .i64 locks, .int .i64 regs]] W (fun v w' => v = .bool true ∧ Sh0 W w' []) := by
 refine x_enter (N := 59) Try.func12 rfl Try.ntmps12 (Nat.le_of_ble_eq_true rfl) fun a1 hf1 => ?_
 have h1 : St 59 (fun _ => False) W a1 W [(0, .agg #[code.v, words.v, .int .i64 locks, .int .i64 regs])] [.at_ code, .at_ words] := ⟨hf1.sub ⟨rfl, trivial⟩, Sh0.ext2 hcode hwords⟩
 clear hf1
 refine wp_seq_k fun K2 hK2 => wp_region_lit ?_
 refine wl_ex (x_box (cs := [code.v, words.v, .int .i64 locks, .int .i64 regs]) h1 rfl rfl rfl rfl rfl) (wanted_none rfl _) ?_
 rintro a3 w3 ⟨b3, h3⟩; clear h1
 refine wms 1 h3 rfl fun a4 h4 => ?_; clear h3
 refine wpList_nil (hK2 _ _ ?_)
 refine wp_seq_k fun K5 hK5 => ?_
 refine wp_seq_k fun K6 hK6 => wp_region_lit ?_
 refine wv h4 (r_ldbw (i := 0) (vs := [code.v, words.v, .int .i64 locks, .int .i64 regs]) ti_28 rfl rfl rfl rfl rfl) rfl rfl fun a7 h7 => ?_; clear h4
 refine wl_ex (x_call h7 bd_18 rfl rfl rfl rfl rfl (vast_c (code := code) (words := words) (locks := locks) (regs := regs) (h7.sh.at 1 rfl) (h7.sh.at 2 rfl))) (wanted_none rfl _) ?_
 rintro a8 w8 ⟨_, ⟨rfl, hs8⟩, hf8⟩
 have h8 : St 59 (fun _ => False) W a8 w8 _ _ := ⟨hf8, h7.sh.call0 hs8⟩
 clear hf8 hs8
 clear h7
 refine wpList_nil (hK6 _ _ ?_)
 refine x_condF h8 rfl hv ?_
 refine wp_skip ?_
 refine hK5 _ _ ?_
 refine wp_seq_k fun K9 hK9 => wp_region_lit ?_
 refine wv h8 (r_ldbw (i := 0) (vs := [code.v, words.v, .int .i64 locks, .int .i64 regs]) ti_28 rfl rfl rfl rfl rfl) rfl rfl fun a10 h10 => ?_; clear h8
 refine wl_ex (x_call h10 bd_35 rfl rfl rfl rfl rfl (drop_b code words locks regs _ (h10.sh.at 1 rfl) (h10.sh.at 2 rfl) hz)) (wanted_none rfl _) ?_
 rintro a11 w11 ⟨_, ⟨rfl, hs11⟩, hf11⟩
 have h11 : St 59 (fun _ => False) W a11 w11 _ _ := ⟨hf11, h10.sh.call0 hs11⟩
 clear hf11 hs11
 clear h10
 refine wms 1 h11 rfl fun a12 h12 => ?_; clear h11
 refine wv h12 (r_extract rfl rfl rfl) rfl rfl fun a13 h13 => ?_; clear h12
 refine wv h13 (r_extract rfl rfl rfl) rfl rfl fun a14 h14 => ?_; clear h13
 refine wl_ex (x_alloc h14 ti_28 rfl rfl rfl) (wanted_none rfl _) ?_
 rintro a15 w15 ⟨b15, h15⟩; clear h14
 refine wl_ex (x_alloc h15 ti_31 rfl rfl rfl) (wanted_none rfl _) ?_
 rintro a16 w16 ⟨b16, h16⟩; clear h15
 refine wl_ex (x_stb (i := 1) (vs := [(.slice none 0 0), (.slice none 0 0), .int .i64 0, .int .i64 0]) (cs' := [(.slice none 0 0), (.slice none 0 0), .int .i64 0, .int .i64 0]) h16 ti_28 rfl rfl rfl rfl rfl rfl rfl (allOne_cons ((Sh.nilAt (α := Ls Ins) h16.sh)).one (allOne_cons ((Sh.nilAt (α := Int) h16.sh)).one (allOne_cons rfl (allOne_cons rfl allOne_nil)))) (Nat.le_of_ble_eq_true rfl) rfl) (wanted_none rfl _) ?_
 rintro a17 w17 h17
 clear h16
 refine wl_ex (x_stb (i := 0) (vs := [.int .i64 ((checkG (pgOf code words locks regs)).code), .int .i64 ((checkG (pgOf code words locks regs)).thread), .int .i64 ((checkG (pgOf code words locks regs)).at_)]) (cs' := [.int .i64 ((checkG (pgOf code words locks regs)).code), .int .i64 ((checkG (pgOf code words locks regs)).thread), .int .i64 ((checkG (pgOf code words locks regs)).at_)]) h17 ti_31 rfl rfl rfl rfl rfl rfl rfl (allOne_cons rfl (allOne_cons rfl (allOne_cons rfl allOne_nil))) (Nat.le_of_ble_eq_true rfl) rfl) (wanted_none rfl _) ?_
 rintro a18 w18 h18
 clear h17
 refine wpList_nil (hK9 _ _ ?_)
 refine wp_seq_k fun K19 hK19 => wp_region_lit ?_
 refine wv h18 (r_ldbw (i := 2) (vs := [code.v, words.v, .int .i64 locks, .int .i64 regs]) ti_28 rfl rfl rfl rfl rfl) rfl rfl fun a20 h20 => ?_; clear h18
 refine wl_ex (x_call h20 bd_20 rfl rfl rfl rfl rfl (refCheck_c (code := code) (words := words) (locks := locks) (regs := regs) (h20.sh.at 3 rfl) (h20.sh.at 4 rfl))) (wanted_none rfl _) ?_
 rintro a21 w21 ⟨_, ⟨rfl, hs21⟩, hf21⟩
 have h21 : St 59 (fun _ => False) W a21 w21 _ _ := ⟨hf21, h20.sh.call0 hs21⟩
 clear hf21 hs21
 clear h20
 refine wl_ex (x_alloc h21 ti_31 rfl rfl rfl) (wanted_none rfl _) ?_
 rintro a22 w22 ⟨b22, h22⟩; clear h21
 refine wl_ex (x_stb (i := 0) (vs := [.int .i64 ((checkG (pgOf code words locks regs)).code), .int .i64 ((checkG (pgOf code words locks regs)).thread), .int .i64 ((checkG (pgOf code words locks regs)).at_)]) (cs' := [.int .i64 ((checkG (pgOf code words locks regs)).code), .int .i64 ((checkG (pgOf code words locks regs)).thread), .int .i64 ((checkG (pgOf code words locks regs)).at_)]) h22 ti_31 rfl rfl rfl rfl rfl rfl rfl (allOne_cons rfl (allOne_cons rfl (allOne_cons rfl allOne_nil))) (Nat.le_of_ble_eq_true rfl) rfl) (wanted_none rfl _) ?_
 rintro a23 w23 h23
 clear h22
 refine wpList_nil (hK19 _ _ ?_)
 refine wp_seq_k fun K24 hK24 => ?_
 refine wp_seq_k fun K25 hK25 => wp_region_lit ?_
 refine wv h23 (r_fieldB (r := 0) fl_31_0 rfl rfl rfl) rfl rfl fun a26 h26 => ?_; clear h23
 refine wv h26 (r_ldb (i := 0) ti_22 rfl rfl rfl rfl) rfl rfl fun a27 h27 => ?_; clear h26
 refine wv h27 (r_neqI (p := (checkG (pgOf code words locks regs)).code) (q := 0) rfl rfl rfl) rfl rfl fun a28 h28 => ?_; clear h27
 refine wpList_nil (hK25 _ _ ?_)
 refine x_condT h28 rfl (decide_eq_true hz) ?_
 refine wp_seq_k fun K29 hK29 => wp_region_lit ?_
 refine wv h28 (r_ldbw (i := 1) (vs := [.int .i64 ((checkG (pgOf code words locks regs)).code), .int .i64 ((checkG (pgOf code words locks regs)).thread), .int .i64 ((checkG (pgOf code words locks regs)).at_)]) ti_31 rfl rfl rfl rfl rfl) rfl rfl fun a30 h30 => ?_; clear h28
 refine wv h30 (r_ldbw (i := 0) (vs := [.int .i64 ((checkG (pgOf code words locks regs)).code), .int .i64 ((checkG (pgOf code words locks regs)).thread), .int .i64 ((checkG (pgOf code words locks regs)).at_)]) ti_31 rfl rfl rfl rfl rfl) rfl rfl fun a31 h31 => ?_; clear h30
 refine wv h31 (r_eqS rfl rfl rfl (fun w => eq_fltG _ _ ⟨(checkG (pgOf code words locks regs)).code, (checkG (pgOf code words locks regs)).thread, (checkG (pgOf code words locks regs)).at_⟩ ⟨(checkG (pgOf code words locks regs)).code, (checkG (pgOf code words locks regs)).thread, (checkG (pgOf code words locks regs)).at_⟩ w) (fun w => eq_flt ⟨(checkG (pgOf code words locks regs)).code, (checkG (pgOf code words locks regs)).thread, (checkG (pgOf code words locks regs)).at_⟩ ⟨(checkG (pgOf code words locks regs)).code, (checkG (pgOf code words locks regs)).thread, (checkG (pgOf code words locks regs)).at_⟩ w)) rfl rfl fun a32 h32 => ?_; clear h31
 refine wms 1 h32 rfl fun a33 h33 => ?_; clear h32
 refine wpList_nil (hK29 _ _ ?_)
 refine wp_ret ?_
 try simp only [Exit.then, Exit.inBlock]
 refine x_ret1 (fn := Try.f12) (t := 2) rfl h33 rfl ?_
 exact ⟨congrArg _ (decide_eq_true rfl), (h33.sh.sel [] (by decide) trivial)⟩

set_option maxRecDepth 100000 in
set_option maxHeartbeats 4000000 in
theorem fenceDrops_k (code : Ls (Ls Ins)) (words : Ls Int) (Lk R : Nat) (W : World) (hcode : code.At W) (hwords : words.At W) (hv : vastG (code.l.map (·.l)) words.l = false) (hok : OkPg (pgN code words Lk R)) :
    Rets Try.prog 12 [.agg #[code.v, words.v, .int .i64 ((Lk : Nat) : Int), .int .i64 ((R : Nat) : Int)]] W (fun v w' => v = .bool true ∧ Sh0 W w' []) := by
 have hz := checkG_ok hok
 obtain ⟨hl1, hl2, hl3, hl4', hl5, hl6, hl7⟩ := ok_lenN hok
 refine x_enter (N := 59) Try.func12 rfl Try.ntmps12 (Nat.le_of_ble_eq_true rfl) fun a1 hf1 => ?_
 have h1 : St 59 (fun _ => False) W a1 W [(0, .agg #[code.v, words.v, .int .i64 ((Lk : Nat) : Int), .int .i64 ((R : Nat) : Int)])] [.at_ code, .at_ words] := ⟨hf1.sub ⟨rfl, trivial⟩, Sh0.ext2 hcode hwords⟩
 clear hf1
 refine wp_seq_k fun K2 hK2 => wp_region_lit ?_
 refine wl_ex (x_box (cs := [code.v, words.v, .int .i64 ((Lk : Nat) : Int), .int .i64 ((R : Nat) : Int)]) h1 rfl rfl rfl rfl rfl) (wanted_none rfl _) ?_
 rintro a3 w3 ⟨b3, h3⟩; clear h1
 refine wms 1 h3 rfl fun a4 h4 => ?_; clear h3
 refine wpList_nil (hK2 _ _ ?_)
 refine wp_seq_k fun K5 hK5 => ?_
 refine wp_seq_k fun K6 hK6 => wp_region_lit ?_
 refine wv h4 (r_ldbw (i := 0) (vs := [code.v, words.v, .int .i64 ((Lk : Nat) : Int), .int .i64 ((R : Nat) : Int)]) ti_28 rfl rfl rfl rfl rfl) rfl rfl fun a7 h7 => ?_; clear h4
 refine wl_ex (x_call h7 bd_18 rfl rfl rfl rfl rfl (vast_c (code := code) (words := words) (locks := ((Lk : Nat) : Int)) (regs := ((R : Nat) : Int)) (h7.sh.at 1 rfl) (h7.sh.at 2 rfl))) (wanted_none rfl _) ?_
 rintro a8 w8 ⟨_, ⟨rfl, hs8⟩, hf8⟩
 have h8 : St 59 (fun _ => False) W a8 w8 _ _ := ⟨hf8, h7.sh.call0 hs8⟩
 clear hf8 hs8
 clear h7
 refine wpList_nil (hK6 _ _ ?_)
 refine x_condF h8 rfl hv ?_
 refine wp_skip ?_
 refine hK5 _ _ ?_
 refine wp_seq_k fun K9 hK9 => wp_region_lit ?_
 refine wv h8 (r_ldbw (i := 0) (vs := [code.v, words.v, .int .i64 ((Lk : Nat) : Int), .int .i64 ((R : Nat) : Int)]) ti_28 rfl rfl rfl rfl rfl) rfl rfl fun a10 h10 => ?_; clear h8
 refine wl_ex (x_call h10 bd_35 rfl rfl rfl rfl rfl (drop_k code words ((Lk : Nat) : Int) ((R : Nat) : Int) _ (h10.sh.at 1 rfl) (h10.sh.at 2 rfl) hok)) (wanted_none rfl _) ?_
 rintro a11 w11 ⟨_, ⟨c11, u11, rfl, hq11, hu11, hs11⟩, hf11⟩
 have hf := fence_drop hok hq11 hu11
 have hz2 := checkG_ok hf.1
 have h11 := (⟨hf11, h10.sh.call hs11 (by intro A hA b hb; first | (simp at hA; done) | (simp at hA; subst hA; first | exact Flat.noRd hb | exact (hb : False).elim) | (simp at hA; rcases hA with rfl | rfl <;> first | exact Flat.noRd hb | exact (hb : False).elim))⟩ : St 59 (fun _ => False) W a11 w11 _ _)
 clear hf11 hs11
 clear h10
 refine wms 1 h11 rfl fun a12 h12 => ?_; clear h11
 refine wv h12 (r_extract rfl rfl rfl) rfl rfl fun a13 h13 => ?_; clear h12
 refine wv h13 (r_extract rfl rfl rfl) rfl rfl fun a14 h14 => ?_; clear h13
 refine wl_ex (x_alloc h14 ti_28 rfl rfl rfl) (wanted_none rfl _) ?_
 rintro a15 w15 ⟨b15, h15⟩; clear h14
 refine wl_ex (x_alloc h15 ti_31 rfl rfl rfl) (wanted_none rfl _) ?_
 rintro a16 w16 ⟨b16, h16⟩; clear h15
 refine wl_ex (x_stb (i := 1) (vs := [c11.v, u11.v, .int .i64 ((Lk : Nat) : Int), .int .i64 ((R : Nat) : Int)]) (cs' := [c11.v, u11.v, .int .i64 ((Lk : Nat) : Int), .int .i64 ((R : Nat) : Int)]) h16 ti_28 rfl rfl rfl rfl rfl rfl rfl (allOne_cons ((h16.sh.deep 2 rfl)).one (allOne_cons ((h16.sh.own 3 rfl)).one (allOne_cons rfl (allOne_cons rfl allOne_nil)))) (Nat.le_of_ble_eq_true rfl) rfl) (wanted_none rfl _) ?_
 rintro a17 w17 h17
 clear h16
 refine wl_ex (x_stb (i := 0) (vs := [.int .i64 0, .int .i64 0, .int .i64 0]) (cs' := [.int .i64 0, .int .i64 0, .int .i64 0]) h17 ti_31 rfl rfl rfl rfl rfl rfl rfl (allOne_cons rfl (allOne_cons rfl (allOne_cons rfl allOne_nil))) (Nat.le_of_ble_eq_true rfl) rfl) (wanted_none rfl _) ?_
 rintro a18 w18 h18
 clear h17
 refine wpList_nil (hK9 _ _ ?_)
 refine wp_seq_k fun K19 hK19 => wp_region_lit ?_
 refine wv h18 (r_ldbw (i := 4) (vs := [code.v, words.v, .int .i64 ((Lk : Nat) : Int), .int .i64 ((R : Nat) : Int)]) ti_28 rfl rfl rfl rfl rfl) rfl rfl fun a20 h20 => ?_; clear h18
 refine wl_ex (x_call h20 bd_20 rfl rfl rfl rfl rfl (refCheck_c (code := code) (words := words) (locks := ((Lk : Nat) : Int)) (regs := ((R : Nat) : Int)) (h20.sh.at 5 rfl) (h20.sh.at 6 rfl))) (wanted_none rfl _) ?_
 rintro a21 w21 ⟨_, ⟨rfl, hs21⟩, hf21⟩
 have h21 : St 59 (fun _ => False) W a21 w21 _ _ := ⟨hf21, h20.sh.call0 hs21⟩
 clear hf21 hs21
 clear h20
 refine wl_ex (x_alloc h21 ti_31 rfl rfl rfl) (wanted_none rfl _) ?_
 rintro a22 w22 ⟨b22, h22⟩; clear h21
 refine wl_ex (x_stb (i := 0) (vs := [.int .i64 ((checkG (pgOf code words ((Lk : Nat) : Int) ((R : Nat) : Int))).code), .int .i64 ((checkG (pgOf code words ((Lk : Nat) : Int) ((R : Nat) : Int))).thread), .int .i64 ((checkG (pgOf code words ((Lk : Nat) : Int) ((R : Nat) : Int))).at_)]) (cs' := [.int .i64 ((checkG (pgOf code words ((Lk : Nat) : Int) ((R : Nat) : Int))).code), .int .i64 ((checkG (pgOf code words ((Lk : Nat) : Int) ((R : Nat) : Int))).thread), .int .i64 ((checkG (pgOf code words ((Lk : Nat) : Int) ((R : Nat) : Int))).at_)]) h22 ti_31 rfl rfl rfl rfl rfl rfl rfl (allOne_cons rfl (allOne_cons rfl (allOne_cons rfl allOne_nil))) (Nat.le_of_ble_eq_true rfl) rfl) (wanted_none rfl _) ?_
 rintro a23 w23 h23
 clear h22
 refine wpList_nil (hK19 _ _ ?_)
 refine wp_seq_k fun K24 hK24 => ?_
 refine wp_seq_k fun K25 hK25 => wp_region_lit ?_
 refine wv h23 (r_fieldB (r := 0) fl_31_0 rfl rfl rfl) rfl rfl fun a26 h26 => ?_; clear h23
 refine wv h26 (r_ldb (i := 0) ti_22 rfl rfl rfl rfl) rfl rfl fun a27 h27 => ?_; clear h26
 refine wv h27 (r_neqI (p := (checkG (pgOf code words ((Lk : Nat) : Int) ((R : Nat) : Int))).code) (q := 0) rfl rfl rfl) rfl rfl fun a28 h28 => ?_; clear h27
 refine wpList_nil (hK25 _ _ ?_)
 refine x_condF h28 rfl (by rw [show checkG (pgOf code words ((Lk : Nat) : Int) ((R : Nat) : Int)) = ⟨0, 0, 0⟩ from hz]; rfl) ?_
 refine wp_skip ?_
 refine hK24 _ _ ?_
 refine wp_seq_k fun K29 hK29 => wp_region_lit ?_
 refine wv h28 (r_ldbw (i := 2) (vs := [c11.v, u11.v, .int .i64 ((Lk : Nat) : Int), .int .i64 ((R : Nat) : Int)]) ti_28 rfl rfl rfl rfl rfl) rfl rfl fun a30 h30 => ?_; clear h28
 refine wl_ex (x_call h30 bd_20 rfl rfl rfl rfl rfl (refCheck_c (code := c11) (words := u11) (locks := ((Lk : Nat) : Int)) (regs := ((R : Nat) : Int)) (h30.sh.deep 3 rfl) (h30.sh.own 4 rfl))) (wanted_none rfl _) ?_
 rintro a31 w31 ⟨_, ⟨rfl, hs31⟩, hf31⟩
 have h31 : St 59 (fun _ => False) W a31 w31 _ _ := ⟨hf31, h30.sh.call0 hs31⟩
 clear hf31 hs31
 clear h30
 refine wl_ex (x_alloc h31 ti_31 rfl rfl rfl) (wanted_none rfl _) ?_
 rintro a32 w32 ⟨b32, h32⟩; clear h31
 refine wl_ex (x_stb (i := 0) (vs := [.int .i64 ((checkG (pgOf c11 u11 ((Lk : Nat) : Int) ((R : Nat) : Int))).code), .int .i64 ((checkG (pgOf c11 u11 ((Lk : Nat) : Int) ((R : Nat) : Int))).thread), .int .i64 ((checkG (pgOf c11 u11 ((Lk : Nat) : Int) ((R : Nat) : Int))).at_)]) (cs' := [.int .i64 ((checkG (pgOf c11 u11 ((Lk : Nat) : Int) ((R : Nat) : Int))).code), .int .i64 ((checkG (pgOf c11 u11 ((Lk : Nat) : Int) ((R : Nat) : Int))).thread), .int .i64 ((checkG (pgOf c11 u11 ((Lk : Nat) : Int) ((R : Nat) : Int))).at_)]) h32 ti_31 rfl rfl rfl rfl rfl rfl rfl (allOne_cons rfl (allOne_cons rfl (allOne_cons rfl allOne_nil))) (Nat.le_of_ble_eq_true rfl) rfl) (wanted_none rfl _) ?_
 rintro a33 w33 h33
 clear h32
 refine wpList_nil (hK29 _ _ ?_)
 refine wp_seq_k fun K34 hK34 => ?_
 refine wp_seq_k fun K35 hK35 => wp_region_lit ?_
 refine wv h33 (r_fieldB (r := 0) fl_31_0 rfl rfl rfl) rfl rfl fun a36 h36 => ?_; clear h33
 refine wv h36 (r_ldb (i := 2) ti_22 rfl rfl rfl rfl) rfl rfl fun a37 h37 => ?_; clear h36
 refine wv h37 (r_neqN (p := 0) (q := 0) rfl rfl rfl) rfl rfl fun a38 h38 => ?_; clear h37
 refine wms 1 h38 rfl fun a39 h39 => ?_; clear h38
 refine wl_val h39 (r_fieldB (r := 0) fl_31_0 rfl rfl rfl) (wanted_yes h39.fr rfl rfl rfl rfl (by decide)) rfl rfl fun a40 h40 => ?_; clear h39
 refine wl_val h40 (r_ldb (i := 0) ti_22 rfl rfl rfl rfl) (wanted_yes h40.fr rfl rfl rfl rfl (by decide)) rfl rfl fun a41 h41 => ?_; clear h40
 refine wl_val h41 (r_neqI (p := (checkG (pgOf c11 u11 ((Lk : Nat) : Int) ((R : Nat) : Int))).code) (q := 0) rfl rfl rfl) (wanted_yes h41.fr rfl rfl rfl rfl (by decide)) rfl rfl fun a42 h42 => ?_; clear h41
 refine wv h42 (r_pickF rfl rfl (by decide) rfl) rfl rfl fun a43 h43 => ?_; clear h42
 refine wpList_nil (hK35 _ _ ?_)
 have h44 : St 59 (fun _ => False) W a43 w33 [(1, .pointer (some ⟨b3, 0, none⟩)), (3, .pointer (some ⟨b15, 0, none⟩)), (33, .bool (decide ((checkG (pgOf c11 u11 ((Lk : Nat) : Int) ((R : Nat) : Int))).code ≠ 0)))] [.blk b32 31 [.int .i64 ((checkG (pgOf c11 u11 ((Lk : Nat) : Int) ((R : Nat) : Int))).code), .int .i64 ((checkG (pgOf c11 u11 ((Lk : Nat) : Int) ((R : Nat) : Int))).thread), .int .i64 ((checkG (pgOf c11 u11 ((Lk : Nat) : Int) ((R : Nat) : Int))).at_)], .blk b22 31 [.int .i64 ((checkG (pgOf code words ((Lk : Nat) : Int) ((R : Nat) : Int))).code), .int .i64 ((checkG (pgOf code words ((Lk : Nat) : Int) ((R : Nat) : Int))).thread), .int .i64 ((checkG (pgOf code words ((Lk : Nat) : Int) ((R : Nat) : Int))).at_)], .blk b16 31 [.int .i64 0, .int .i64 0, .int .i64 0], .blk b15 28 [c11.v, u11.v, .int .i64 ((Lk : Nat) : Int), .int .i64 ((R : Nat) : Int)], .deep 64 c11, .own 3 u11, .blk b3 28 [code.v, words.v, .int .i64 ((Lk : Nat) : Int), .int .i64 ((R : Nat) : Int)], .at_ code, .at_ words] := h43.nrm ⟨rfl, rfl, rfl, trivial⟩ [0, 1, 2, 3, 4, 5, 6, 7, 8] (by decide) ⟨rfl, rfl, rfl, rfl, rfl, rfl, rfl, rfl, rfl, trivial⟩
 clear h43
 refine x_condF h44 rfl (by rw [show checkG (pgOf c11 u11 ((Lk : Nat) : Int) ((R : Nat) : Int)) = ⟨0, 0, 0⟩ from hz2]; rfl) ?_
 refine wp_skip ?_
 refine hK34 _ _ ?_
 refine wp_seq_k fun K45 hK45 => wp_region_lit ?_
 refine wv h44 (r_ldbw (i := 6) (vs := [code.v, words.v, .int .i64 ((Lk : Nat) : Int), .int .i64 ((R : Nat) : Int)]) ti_28 rfl rfl rfl rfl rfl) rfl rfl fun a46 h46 => ?_; clear h44
 refine wl_ex (x_call h46 bd_24 rfl rfl rfl rfl rfl (make1_c code words Lk R _ (h46.sh.at 7 rfl) (h46.sh.at 8 rfl) hok)) (wanted_none rfl _) ?_
 rintro a47 w47 ⟨_, ⟨g47, fu47, sv47, kv47, hv47, bv47, en47, rfl, hby47, hnw47, hs47⟩, hf47⟩
 have h47 := (⟨hf47, h46.sh.call hs47 (by intro A hA b hb; simp only [List.mem_cons, List.not_mem_nil, or_false] at hA; rcases hA with rfl | rfl; exact (hb : False).elim; exact .inl (by obtain ⟨i9, hi9, hb9⟩ := hb; exact hnw47 _ (nth_mem _ _ hi9) b hb9))⟩ : St 59 (fun _ => False) W a47 w47 _ _)
 clear hf47 hs47
 clear h46
 refine wms 1 h47 rfl fun a48 h48 => ?_; clear h47
 refine wpList_nil (hK45 _ _ ?_)
 refine wp_seq_k fun K49 hK49 => wp_region_lit ?_
 refine wv h48 (r_ldbw (i := 5) (vs := [c11.v, u11.v, .int .i64 ((Lk : Nat) : Int), .int .i64 ((R : Nat) : Int)]) ti_28 rfl rfl rfl rfl rfl) rfl rfl fun a50 h50 => ?_; clear h48
 refine wl_ex (x_call h50 bd_24 rfl rfl rfl rfl rfl (make1_c c11 u11 Lk R _ (h50.sh.deep 6 rfl) (h50.sh.own 7 rfl) hf.1)) (wanted_none rfl _) ?_
 rintro a51 w51 ⟨_, ⟨g51, fu51, sv51, kv51, hv51, bv51, en51, rfl, hby51, hnw51, hs51⟩, hf51⟩
 have h51 := (⟨hf51, h50.sh.call hs51 (by intro A hA b hb; simp only [List.mem_cons, List.not_mem_nil, or_false] at hA; rcases hA with rfl | rfl; exact (hb : False).elim; exact .inl (by obtain ⟨i9, hi9, hb9⟩ := hb; exact hnw51 _ (nth_mem _ _ hi9) b hb9))⟩ : St 59 (fun _ => False) W a51 w51 _ _)
 clear hf51 hs51
 clear h50
 refine wms 1 h51 rfl fun a52 h52 => ?_; clear h51
 refine wpList_nil (hK49 _ _ ?_)
 refine wp_seq_k fun K53 hK53 => ?_
 refine x_quiet (by kernel_rfl) (by kernel_rfl) h52 fun Z54 hZ54 => ?_
 have hq54 := h52.fr
 refine wq_val hq54 (r_move rfl rfl) (wanted_none rfl _) rfl rfl fun a55 hq55 => ?_; clear hq54
 refine wq_val hq55 (r_nil rfl rfl) (wanted_none rfl _) rfl rfl fun a56 hq56 => ?_; clear hq55
 refine wq_val hq56 (r_fieldB (r := 5) fl_49_5 rfl rfl rfl) (wanted_none rfl _) rfl rfl fun a57 hq57 => ?_; clear hq56
 refine wq_val hq57 (r_ldb (i := 2) ti_4 rfl rfl rfl rfl) (wanted_none rfl _) rfl rfl fun a58 hq58 => ?_; clear hq57
 refine wq_val hq58 (r_move rfl rfl) (wanted_none rfl _) rfl rfl fun a59 hq59 => ?_; clear hq58
 rcases Bool.eq_false_or_eq_true fu47 with hb60 | hb60
 ·
  skip
  refine wq_skip hq59 (wanted_no hq59 rfl rfl rfl rfl hb60) rfl rfl fun a61 hq61 => ?_; clear hq59
  refine wq_skip hq61 (wanted_no hq61 rfl rfl rfl rfl hb60) rfl rfl fun a62 hq62 => ?_; clear hq61
  refine wq_skip hq62 (wanted_no hq62 rfl rfl rfl rfl hb60) rfl rfl fun a63 hq63 => ?_; clear hq62
  refine wq_skip hq63 (wanted_no hq63 rfl rfl rfl rfl hb60) rfl rfl fun a64 hq64 => ?_; clear hq63
  refine wq_val hq64 (r_pickT rfl rfl hb60 rfl) (wanted_none rfl _) rfl rfl fun a65 hq65 => ?_; clear hq64
  refine wq_val hq65 (r_move rfl rfl) (wanted_none rfl _) rfl rfl fun a66 hq66 => ?_; clear hq65
  refine wq_skip hq66 (wanted_no hq66 rfl rfl rfl rfl rfl) rfl rfl fun a67 hq67 => ?_; clear hq66
  refine wq_skip hq67 (wanted_no hq67 rfl rfl rfl rfl rfl) rfl rfl fun a68 hq68 => ?_; clear hq67
  refine wq_skip hq68 (wanted_no hq68 rfl rfl rfl rfl rfl) rfl rfl fun a69 hq69 => ?_; clear hq68
  refine wq_skip hq69 (wanted_no hq69 rfl rfl rfl rfl rfl) rfl rfl fun a70 hq70 => ?_; clear hq69
  refine wq_skip hq70 (wanted_no hq70 rfl rfl rfl rfl rfl) rfl rfl fun a71 hq71 => ?_; clear hq70
  refine wq_skip hq71 (wanted_no hq71 rfl rfl rfl rfl rfl) rfl rfl fun a72 hq72 => ?_; clear hq71
  refine wq_skip hq72 (wanted_no hq72 rfl rfl rfl rfl rfl) rfl rfl fun a73 hq73 => ?_; clear hq72
  refine wq_skip hq73 (wanted_no hq73 rfl rfl rfl rfl rfl) rfl rfl fun a74 hq74 => ?_; clear hq73
  refine wq_skip hq74 (wanted_no hq74 rfl rfl rfl rfl rfl) rfl rfl fun a75 hq75 => ?_; clear hq74
  refine wq_val hq75 (r_pickT rfl rfl rfl rfl) (wanted_none rfl _) rfl rfl fun a76 hq76 => ?_; clear hq75
  refine wq_val hq76 (r_assign rfl rfl) (wanted_none rfl _) rfl rfl fun a77 hq77 => ?_; clear hq76
  refine wpQuiet_nil (hZ54 _ fun w78 hw78 => ?_)
  have h78 : St 59 (fun _ => False) W a77 w78 _ _ := ⟨hq77, hw78⟩
  clear hq77 hw78 h52
  refine hK53 _ _ ?_
  have h79 : St 59 (fun _ => False) W a77 w78 [(2, .bool true)] [.blk g51 49 [sv51, kv51, hv51, bv51, en51.v, .bool fu51], .own 56 en51, .blk g47 49 [sv47, kv47, hv47, bv47, en47.v, .bool fu47], .own 56 en47, .blk b32 31 [.int .i64 ((checkG (pgOf c11 u11 ((Lk : Nat) : Int) ((R : Nat) : Int))).code), .int .i64 ((checkG (pgOf c11 u11 ((Lk : Nat) : Int) ((R : Nat) : Int))).thread), .int .i64 ((checkG (pgOf c11 u11 ((Lk : Nat) : Int) ((R : Nat) : Int))).at_)], .blk b22 31 [.int .i64 ((checkG (pgOf code words ((Lk : Nat) : Int) ((R : Nat) : Int))).code), .int .i64 ((checkG (pgOf code words ((Lk : Nat) : Int) ((R : Nat) : Int))).thread), .int .i64 ((checkG (pgOf code words ((Lk : Nat) : Int) ((R : Nat) : Int))).at_)], .blk b16 31 [.int .i64 0, .int .i64 0, .int .i64 0], .blk b15 28 [c11.v, u11.v, .int .i64 ((Lk : Nat) : Int), .int .i64 ((R : Nat) : Int)], .deep 64 c11, .own 3 u11, .blk b3 28 [code.v, words.v, .int .i64 ((Lk : Nat) : Int), .int .i64 ((R : Nat) : Int)], .at_ code, .at_ words] := h78.nrm ⟨rfl, trivial⟩ [0, 1, 2, 3, 4, 5, 6, 7, 8, 9, 10, 11, 12] (by decide) ⟨rfl, rfl, rfl, rfl, rfl, rfl, rfl, rfl, rfl, rfl, rfl, rfl, rfl, trivial⟩
  clear h78
  refine wp_ret ?_
  try simp only [Exit.then, Exit.inBlock]
  refine x_ret1 (fn := Try.f12) (t := 2) rfl h79 rfl ?_
  refine ⟨?_, (h79.sh.sel [] (by decide) trivial)⟩
  first | rfl | (congr 1; exact decide_eq_true (sorted_ext (hby47 (by assumption)).1 (hby51 (by assumption)).1 (fun o => ((hby47 (by assumption)).2 o).trans ((hf.2 o).trans ((hby51 (by assumption)).2 o).symm))))
 refine wq_val hq59 (r_move rfl rfl) (wanted_yes hq59 rfl rfl rfl rfl hb60) rfl rfl fun a81 hq81 => ?_; clear hq59
 refine wq_val hq81 (r_nil rfl rfl) (wanted_yes hq81 rfl rfl rfl rfl hb60) rfl rfl fun a83 hq83 => ?_; clear hq81
 refine wq_val hq83 (r_fieldB (r := 5) fl_49_5 rfl rfl rfl) (wanted_yes hq83 rfl rfl rfl rfl hb60) rfl rfl fun a85 hq85 => ?_; clear hq83
 refine wq_val hq85 (r_ldb (i := 0) ti_4 rfl rfl rfl rfl) (wanted_yes hq85 rfl rfl rfl rfl hb60) rfl rfl fun a87 hq87 => ?_; clear hq85
 refine wq_val hq87 (r_pickF rfl rfl hb60 rfl) (wanted_none rfl _) rfl rfl fun a88 hq88 => ?_; clear hq87
 refine wq_val hq88 (r_move rfl rfl) (wanted_none rfl _) rfl rfl fun a89 hq89 => ?_; clear hq88
 rcases Bool.eq_false_or_eq_true fu51 with hb90 | hb90
 ·
  skip
  refine wq_skip hq89 (wanted_no hq89 rfl rfl rfl rfl hb90) rfl rfl fun a91 hq91 => ?_; clear hq89
  refine wq_skip hq91 (wanted_no hq91 rfl rfl rfl rfl hb90) rfl rfl fun a92 hq92 => ?_; clear hq91
  refine wq_skip hq92 (wanted_no hq92 rfl rfl rfl rfl hb90) rfl rfl fun a93 hq93 => ?_; clear hq92
  refine wq_skip hq93 (wanted_no hq93 rfl rfl rfl rfl hb90) rfl rfl fun a94 hq94 => ?_; clear hq93
  refine wq_skip hq94 (wanted_no hq94 rfl rfl rfl rfl hb90) rfl rfl fun a95 hq95 => ?_; clear hq94
  refine wq_skip hq95 (wanted_no hq95 rfl rfl rfl rfl hb90) rfl rfl fun a96 hq96 => ?_; clear hq95
  refine wq_skip hq96 (wanted_no hq96 rfl rfl rfl rfl hb90) rfl rfl fun a97 hq97 => ?_; clear hq96
  refine wq_skip hq97 (wanted_no hq97 rfl rfl rfl rfl hb90) rfl rfl fun a98 hq98 => ?_; clear hq97
  refine wq_skip hq98 (wanted_no hq98 rfl rfl rfl rfl hb90) rfl rfl fun a99 hq99 => ?_; clear hq98
  refine wq_val hq99 (r_pickT rfl rfl hb90 rfl) (wanted_none rfl _) rfl rfl fun a100 hq100 => ?_; clear hq99
  refine wq_val hq100 (r_assign rfl rfl) (wanted_none rfl _) rfl rfl fun a101 hq101 => ?_; clear hq100
  refine wpQuiet_nil (hZ54 _ fun w102 hw102 => ?_)
  have h102 : St 59 (fun _ => False) W a101 w102 _ _ := ⟨hq101, hw102⟩
  clear hq101 hw102 h52
  refine hK53 _ _ ?_
  have h103 : St 59 (fun _ => False) W a101 w102 [(2, .bool true)] [.blk g51 49 [sv51, kv51, hv51, bv51, en51.v, .bool fu51], .own 56 en51, .blk g47 49 [sv47, kv47, hv47, bv47, en47.v, .bool fu47], .own 56 en47, .blk b32 31 [.int .i64 ((checkG (pgOf c11 u11 ((Lk : Nat) : Int) ((R : Nat) : Int))).code), .int .i64 ((checkG (pgOf c11 u11 ((Lk : Nat) : Int) ((R : Nat) : Int))).thread), .int .i64 ((checkG (pgOf c11 u11 ((Lk : Nat) : Int) ((R : Nat) : Int))).at_)], .blk b22 31 [.int .i64 ((checkG (pgOf code words ((Lk : Nat) : Int) ((R : Nat) : Int))).code), .int .i64 ((checkG (pgOf code words ((Lk : Nat) : Int) ((R : Nat) : Int))).thread), .int .i64 ((checkG (pgOf code words ((Lk : Nat) : Int) ((R : Nat) : Int))).at_)], .blk b16 31 [.int .i64 0, .int .i64 0, .int .i64 0], .blk b15 28 [c11.v, u11.v, .int .i64 ((Lk : Nat) : Int), .int .i64 ((R : Nat) : Int)], .deep 64 c11, .own 3 u11, .blk b3 28 [code.v, words.v, .int .i64 ((Lk : Nat) : Int), .int .i64 ((R : Nat) : Int)], .at_ code, .at_ words] := h102.nrm ⟨rfl, trivial⟩ [0, 1, 2, 3, 4, 5, 6, 7, 8, 9, 10, 11, 12] (by decide) ⟨rfl, rfl, rfl, rfl, rfl, rfl, rfl, rfl, rfl, rfl, rfl, rfl, rfl, trivial⟩
  clear h102
  refine wp_ret ?_
  try simp only [Exit.then, Exit.inBlock]
  refine x_ret1 (fn := Try.f12) (t := 2) rfl h103 rfl ?_
  refine ⟨?_, (h103.sh.sel [] (by decide) trivial)⟩
  first | rfl | (congr 1; exact decide_eq_true (sorted_ext (hby47 (by assumption)).1 (hby51 (by assumption)).1 (fun o => ((hby47 (by assumption)).2 o).trans ((hf.2 o).trans ((hby51 (by assumption)).2 o).symm))))
 refine wq_val hq89 (r_move rfl rfl) (wanted_yes hq89 rfl rfl rfl rfl hb90) rfl rfl fun a105 hq105 => ?_; clear hq89
 refine wq_val hq105 (r_nil rfl rfl) (wanted_yes hq105 rfl rfl rfl rfl hb90) rfl rfl fun a107 hq107 => ?_; clear hq105
 refine wq_val hq107 (r_fieldB (r := 4) fl_49_4 rfl rfl rfl) (wanted_yes hq107 rfl rfl rfl rfl hb90) rfl rfl fun a109 hq109 => ?_; clear hq107
 refine wq_val hq109 (r_ldb (i := 2) ti_47 rfl rfl rfl rfl) (wanted_yes hq109 rfl rfl rfl rfl hb90) rfl rfl fun a111 hq111 => ?_; clear hq109
 refine wq_val hq111 (r_move rfl rfl) (wanted_yes hq111 rfl rfl rfl rfl hb90) rfl rfl fun a113 hq113 => ?_; clear hq111
 refine wq_val hq113 (r_nil rfl rfl) (wanted_yes hq113 rfl rfl rfl rfl hb90) rfl rfl fun a115 hq115 => ?_; clear hq113
 refine wq_val hq115 (r_fieldB (r := 4) fl_49_4 rfl rfl rfl) (wanted_yes hq115 rfl rfl rfl rfl hb90) rfl rfl fun a117 hq117 => ?_; clear hq115
 refine wq_val hq117 (r_ldb (i := 0) ti_47 rfl rfl rfl rfl) (wanted_yes hq117 rfl rfl rfl rfl hb90) rfl rfl fun a119 hq119 => ?_; clear hq117
 refine wq_call hq119 bd_25 rfl rfl rfl (wanted_yes hq119 rfl rfl rfl rfl hb90) rfl rfl (fun w h => (sameO_c en47 en51 _ (h.own 3 rfl) (h.own 1 rfl))) fun a121 hq121 => ?_; clear hq119
 refine wq_val hq121 (r_pickF rfl rfl hb90 rfl) (wanted_none rfl _) rfl rfl fun a122 hq122 => ?_; clear hq121
 refine wq_val hq122 (r_assign rfl rfl) (wanted_none rfl _) rfl rfl fun a123 hq123 => ?_; clear hq122
 refine wpQuiet_nil (hZ54 _ fun w124 hw124 => ?_)
 have h124 : St 59 (fun _ => False) W a123 w124 _ _ := ⟨hq123, hw124⟩
 clear hq123 hw124 h52
 refine hK53 _ _ ?_
 have h125 : St 59 (fun _ => False) W a123 w124 [(2, .bool (decide (en47.l.map OutL.out = en51.l.map OutL.out)))] [.blk g51 49 [sv51, kv51, hv51, bv51, en51.v, .bool fu51], .own 56 en51, .blk g47 49 [sv47, kv47, hv47, bv47, en47.v, .bool fu47], .own 56 en47, .blk b32 31 [.int .i64 ((checkG (pgOf c11 u11 ((Lk : Nat) : Int) ((R : Nat) : Int))).code), .int .i64 ((checkG (pgOf c11 u11 ((Lk : Nat) : Int) ((R : Nat) : Int))).thread), .int .i64 ((checkG (pgOf c11 u11 ((Lk : Nat) : Int) ((R : Nat) : Int))).at_)], .blk b22 31 [.int .i64 ((checkG (pgOf code words ((Lk : Nat) : Int) ((R : Nat) : Int))).code), .int .i64 ((checkG (pgOf code words ((Lk : Nat) : Int) ((R : Nat) : Int))).thread), .int .i64 ((checkG (pgOf code words ((Lk : Nat) : Int) ((R : Nat) : Int))).at_)], .blk b16 31 [.int .i64 0, .int .i64 0, .int .i64 0], .blk b15 28 [c11.v, u11.v, .int .i64 ((Lk : Nat) : Int), .int .i64 ((R : Nat) : Int)], .deep 64 c11, .own 3 u11, .blk b3 28 [code.v, words.v, .int .i64 ((Lk : Nat) : Int), .int .i64 ((R : Nat) : Int)], .at_ code, .at_ words] := h124.nrm ⟨rfl, trivial⟩ [0, 1, 2, 3, 4, 5, 6, 7, 8, 9, 10, 11, 12] (by decide) ⟨rfl, rfl, rfl, rfl, rfl, rfl, rfl, rfl, rfl, rfl, rfl, rfl, rfl, trivial⟩
 clear h124
 refine wp_ret ?_
 try simp only [Exit.then, Exit.inBlock]
 refine x_ret1 (fn := Try.f12) (t := 2) rfl h125 rfl ?_
 refine ⟨?_, (h125.sh.sel [] (by decide) trivial)⟩
 first | rfl | (congr 1; exact decide_eq_true (sorted_ext (hby47 (by assumption)).1 (hby51 (by assumption)).1 (fun o => ((hby47 (by assumption)).2 o).trans ((hf.2 o).trans ((hby51 (by assumption)).2 o).symm))))

theorem fenceDrops_any (code : Ls (Ls Ins)) (words : Ls Int) (locks regs : Int) (W : World) (hcode : code.At W) (hwords : words.At W) : Rets Try.prog 12 [.agg #[code.v, words.v, .int .i64 locks, .int .i64 regs]] W (fun v w' => v = .bool true ∧ Sh0 W w' []) := by
  cases hv : vastG (code.l.map (·.l)) words.l with
  | true => exact fenceDrops_v code words locks regs W hcode hwords hv
  | false =>
    by_cases hok : OkPg (pgOf code words locks regs)
    · obtain ⟨Lk, rfl⟩ := Int.eq_ofNat_of_zero_le hok.locks.1
      obtain ⟨R, rfl⟩ := Int.eq_ofNat_of_zero_le (show 0 ≤ regs by have := hok.regs.1; have e : (pgOf code words (Lk : Int) regs).regs = regs := rfl; omega)
      exact fenceDrops_k code words Lk R W hcode hwords hv hok
    · exact fenceDrops_b code words locks regs W hcode hwords hv (fun h => hok (checkG_code_pos.1 h))
end Go.Proofs.Ytanhbpofhebbaaa
