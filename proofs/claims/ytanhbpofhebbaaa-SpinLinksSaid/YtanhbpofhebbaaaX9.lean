/-
  Contracts of functions of this program and of the references, each walked once.
-/
import Derived.Test.YtanhbpofhebbaaaX8
namespace Go.Proofs.Ytanhbpofhebbaaa
open Go.RowKit
set_option linter.unusedSimpArgs false
set_option linter.unusedVariables false


theorem longIs_k {C : List (List Ins)} {n : Int} (h : LongIs C n) (hs : ∀ j, j < C.length → (nth C j).length ≤ 400) : n = -1 := by
  rcases h with ⟨k, _, h1, h2, _⟩ | ⟨h, _⟩
  · have := hs k h1; omega
  · exact h
theorem longIs_l {C : List (List Ins)} {n : Int} (h : LongIs C n) (k : Nat) (hk : k < C.length) (h4 : 400 < (nth C k).length) (hb : ∀ j, j < k → (nth C j).length ≤ 400) : n = k := by
  rcases h with ⟨q, rfl, h1, h2, h3⟩ | ⟨_, h⟩
  · rcases Nat.lt_trichotomy q k with hl | rfl | hl
    · have := hb q hl; omega
    · rfl
    · have := h3 k hl; omega
  · have := h k hk; omega
theorem linkC_nth {code : Ls (Ls Ins)} {nw : Nat} {C : List (List Ins)} (hC : C = (code.l.map (·.l)).map (linkL nw)) (j : Nat) (hj : j < code.l.length) : nth C j = linkL nw (nth code.l j).l := by
  rw [hC, nth_map' _ _ _ (by simpa using hj), nth_map' _ _ _ hj]
theorem linkC_len {code : Ls (Ls Ins)} {nw : Nat} {C : List (List Ins)} (hC : C = (code.l.map (·.l)).map (linkL nw)) : C.length = code.l.length := by rw [hC]; simp

set_option maxRecDepth 100000 in
set_option maxHeartbeats 4000000 in
theorem spinLinks_v (code : Ls (Ls Ins)) (words : Ls Int) (locks regs : Int) (W : World) (hcode : code.At W) (hwords : words.At W) (hv : vastG (code.l.map (·.l)) words.l = true) :
    Rets Try.prog 10 [.agg #[code.v, words.v, .int .i64 locks, .int .i64 regs]] W (fun v w' => v = .bool true ∧ Sh0 W w' []) := by
  refine x_enter (N := 70) Try.func10 rfl Try.ntmps10 (Nat.le_of_ble_eq_true rfl) fun a1 hf1 => ?_
  have h1 : St 70 (fun _ => False) W a1 W [(0, .agg #[code.v, words.v, .int .i64 locks, .int .i64 regs])] [.at_ code, .at_ words] := ⟨hf1.sub ⟨rfl, trivial⟩, Sh0.ext2 hcode hwords⟩
  clear hf1
  refine wp_seq_k fun K2 hK2 => ?_
  refine wp_region_lit ?_
  refine wl_ex (x_box (cs := [code.v, words.v, .int .i64 locks, .int .i64 regs]) h1 rfl rfl rfl rfl rfl) (wanted_none rfl _) ?_
  rintro a3 w3 ⟨b3, h3⟩
  clear h1
  refine wms 1 h3 rfl fun a4 h4 => ?_
  clear h3
  refine wpList_nil ?_
  refine hK2 _ _ ?_
  refine wp_seq_k fun K5 hK5 => ?_
  refine wp_seq_k fun K6 hK6 => ?_
  refine wp_region_lit ?_
  refine wv h4 (r_ldbw (i := 0) (vs := [code.v, words.v, .int .i64 locks, .int .i64 regs]) ti_28 rfl rfl rfl rfl rfl) rfl rfl fun a7 h7 => ?_
  clear h4
  refine wl_ex (x_call h7 bd_18 rfl rfl rfl rfl rfl (vast_c (code := code) (words := words) (locks := locks) (regs := regs) (h7.sh.at 1 rfl) (h7.sh.at 2 rfl))) (wanted_none rfl _) ?_
  rintro a8 w8 ⟨_, ⟨rfl, hs8⟩, hf8⟩
  have h8 : St 70 (fun _ => False) W a8 w8 _ _ := ⟨hf8, h7.sh.call0 hs8⟩
  clear hf8 hs8
  clear h7
  refine wpList_nil ?_
  refine hK6 _ _ ?_
  refine x_condT h8 rfl hv ?_
  refine wp_seq_k fun K9 hK9 => ?_
  refine wp_region_lit ?_
  refine wms 1 h8 rfl fun a10 h10 => ?_
  clear h8
  refine wpList_nil ?_
  refine hK9 _ _ ?_
  refine wp_ret ?_
  try simp only [Exit.then, Exit.inBlock]
  refine x_ret1 (fn := Try.f10) (t := 2) rfl h10 rfl ?_
  exact ⟨rfl, (h10.sh.sel [] (by decide) trivial)⟩

set_option maxRecDepth 100000 in
set_option maxHeartbeats 4000000 in
theorem spinLinks_b (code : Ls (Ls Ins)) (words : Ls Int) (locks regs : Int) (W : World) (hcode : code.At W) (hwords : words.At W) (hv : vastG (code.l.map (·.l)) words.l = false) (hz : (checkG (pgOf code words locks regs)).code ≠ 0) :
    Rets Try.prog 10 [.agg #[code.v, words.v, .int .i64 locks, .int .i64 regs]] W (fun v w' => v = .bool true ∧ Sh0 W w' []) := by
  refine x_enter (N := 70) Try.func10 rfl Try.ntmps10 (Nat.le_of_ble_eq_true rfl) fun a1 hf1 => ?_
  have h1 : St 70 (fun _ => False) W a1 W [(0, .agg #[code.v, words.v, .int .i64 locks, .int .i64 regs])] [.at_ code, .at_ words] := ⟨hf1.sub ⟨rfl, trivial⟩, Sh0.ext2 hcode hwords⟩
  clear hf1
  refine wp_seq_k fun K2 hK2 => ?_
  refine wp_region_lit ?_
  refine wl_ex (x_box (cs := [code.v, words.v, .int .i64 locks, .int .i64 regs]) h1 rfl rfl rfl rfl rfl) (wanted_none rfl _) ?_
  rintro a3 w3 ⟨b3, h3⟩
  clear h1
  refine wms 1 h3 rfl fun a4 h4 => ?_
  clear h3
  refine wpList_nil ?_
  refine hK2 _ _ ?_
  refine wp_seq_k fun K5 hK5 => ?_
  refine wp_seq_k fun K6 hK6 => ?_
  refine wp_region_lit ?_
  refine wv h4 (r_ldbw (i := 0) (vs := [code.v, words.v, .int .i64 locks, .int .i64 regs]) ti_28 rfl rfl rfl rfl rfl) rfl rfl fun a7 h7 => ?_
  clear h4
  refine wl_ex (x_call h7 bd_18 rfl rfl rfl rfl rfl (vast_c (code := code) (words := words) (locks := locks) (regs := regs) (h7.sh.at 1 rfl) (h7.sh.at 2 rfl))) (wanted_none rfl _) ?_
  rintro a8 w8 ⟨_, ⟨rfl, hs8⟩, hf8⟩
  have h8 : St 70 (fun _ => False) W a8 w8 _ _ := ⟨hf8, h7.sh.call0 hs8⟩
  clear hf8 hs8
  clear h7
  refine wpList_nil ?_
  refine hK6 _ _ ?_
  refine x_condF h8 rfl hv ?_
  refine wp_skip ?_
  refine hK5 _ _ ?_
  refine wp_seq_k fun K9 hK9 => ?_
  refine wp_region_lit ?_
  refine wv h8 (r_ldbw (i := 0) (vs := [code.v, words.v, .int .i64 locks, .int .i64 regs]) ti_28 rfl rfl rfl rfl rfl) rfl rfl fun a10 h10 => ?_
  clear h8
  refine wl_ex (x_call h10 bd_31 rfl rfl rfl rfl rfl (link_b code words locks regs _ (h10.sh.at 1 rfl) (h10.sh.at 2 rfl) hz)) (wanted_none rfl _) ?_
  rintro a11 w11 ⟨_, ⟨rfl, hs11⟩, hf11⟩
  have h11 : St 70 (fun _ => False) W a11 w11 _ _ := ⟨hf11, h10.sh.call0 hs11⟩
  clear hf11 hs11
  clear h10
  refine wms 1 h11 rfl fun a12 h12 => ?_
  clear h11
  refine wv h12 (r_extract rfl rfl rfl) rfl rfl fun a13 h13 => ?_
  clear h12
  refine wv h13 (r_extract rfl rfl rfl) rfl rfl fun a14 h14 => ?_
  clear h13
  refine wl_ex (x_alloc h14 ti_28 rfl rfl rfl) (wanted_none rfl _) ?_
  rintro a15 w15 ⟨b15, h15⟩
  clear h14
  refine wl_ex (x_alloc h15 ti_31 rfl rfl rfl) (wanted_none rfl _) ?_
  rintro a16 w16 ⟨b16, h16⟩
  clear h15
  refine wl_ex (x_stb (i := 1) (vs := [(.slice none 0 0), (.slice none 0 0), .int .i64 0, .int .i64 0]) (cs' := [(.slice none 0 0), (.slice none 0 0), .int .i64 0, .int .i64 0]) h16 ti_28 rfl rfl rfl rfl rfl rfl rfl (allOne_cons ((Sh.nilAt (α := Ls Ins) h16.sh)).one (allOne_cons ((Sh.nilAt (α := Int) h16.sh)).one (allOne_cons rfl (allOne_cons rfl allOne_nil)))) (Nat.le_of_ble_eq_true rfl) rfl) (wanted_none rfl _) ?_
  rintro a17 w17 h17
  clear h16
  refine wl_ex (x_stb (i := 0) (vs := [.int .i64 ((checkG (pgOf code words locks regs)).code), .int .i64 ((checkG (pgOf code words locks regs)).thread), .int .i64 ((checkG (pgOf code words locks regs)).at_)]) (cs' := [.int .i64 ((checkG (pgOf code words locks regs)).code), .int .i64 ((checkG (pgOf code words locks regs)).thread), .int .i64 ((checkG (pgOf code words locks regs)).at_)]) h17 ti_31 rfl rfl rfl rfl rfl rfl rfl (allOne_cons rfl (allOne_cons rfl (allOne_cons rfl allOne_nil))) (Nat.le_of_ble_eq_true rfl) rfl) (wanted_none rfl _) ?_
  rintro a18 w18 h18
  clear h17
  refine wpList_nil ?_
  refine hK9 _ _ ?_
  refine wp_seq_k fun K19 hK19 => ?_
  refine wp_region_lit ?_
  refine wv h18 (r_ldbw (i := 2) (vs := [code.v, words.v, .int .i64 locks, .int .i64 regs]) ti_28 rfl rfl rfl rfl rfl) rfl rfl fun a20 h20 => ?_
  clear h18
  refine wl_ex (x_call h20 bd_20 rfl rfl rfl rfl rfl (refCheck_c (code := code) (words := words) (locks := locks) (regs := regs) (h20.sh.at 3 rfl) (h20.sh.at 4 rfl))) (wanted_none rfl _) ?_
  rintro a21 w21 ⟨_, ⟨rfl, hs21⟩, hf21⟩
  have h21 : St 70 (fun _ => False) W a21 w21 _ _ := ⟨hf21, h20.sh.call0 hs21⟩
  clear hf21 hs21
  clear h20
  refine wl_ex (x_alloc h21 ti_31 rfl rfl rfl) (wanted_none rfl _) ?_
  rintro a22 w22 ⟨b22, h22⟩
  clear h21
  refine wl_ex (x_stb (i := 0) (vs := [.int .i64 ((checkG (pgOf code words locks regs)).code), .int .i64 ((checkG (pgOf code words locks regs)).thread), .int .i64 ((checkG (pgOf code words locks regs)).at_)]) (cs' := [.int .i64 ((checkG (pgOf code words locks regs)).code), .int .i64 ((checkG (pgOf code words locks regs)).thread), .int .i64 ((checkG (pgOf code words locks regs)).at_)]) h22 ti_31 rfl rfl rfl rfl rfl rfl rfl (allOne_cons rfl (allOne_cons rfl (allOne_cons rfl allOne_nil))) (Nat.le_of_ble_eq_true rfl) rfl) (wanted_none rfl _) ?_
  rintro a23 w23 h23
  clear h22
  refine wpList_nil ?_
  refine hK19 _ _ ?_
  refine wp_seq_k fun K24 hK24 => ?_
  refine wp_seq_k fun K25 hK25 => ?_
  refine wp_region_lit ?_
  refine wv h23 (r_fieldB (r := 0) fl_31_0 rfl rfl rfl) rfl rfl fun a26 h26 => ?_
  clear h23
  refine wv h26 (r_ldb (i := 0) ti_22 rfl rfl rfl rfl) rfl rfl fun a27 h27 => ?_
  clear h26
  refine wv h27 (r_eqlI (p := (checkG (pgOf code words locks regs)).code) (q := 0) rfl rfl rfl) rfl rfl fun a28 h28 => ?_
  clear h27
  refine wms 1 h28 rfl fun a29 h29 => ?_
  clear h28
  refine wl_skip h29 (wanted_no h29.fr rfl rfl rfl rfl (decide_eq_false hz)) rfl rfl fun a30 h30 => ?_
  clear h29
  refine wl_skip h30 (wanted_no h30.fr rfl rfl rfl rfl (decide_eq_false hz)) rfl rfl fun a31 h31 => ?_
  clear h30
  refine wl_skip h31 (wanted_no h31.fr rfl rfl rfl rfl (decide_eq_false hz)) rfl rfl fun a32 h32 => ?_
  clear h31
  refine wv h32 (r_pickF rfl rfl (decide_eq_false hz) rfl) rfl rfl fun a33 h33 => ?_
  clear h32
  refine wpList_nil ?_
  refine hK25 _ _ ?_
  refine x_condF h33 rfl rfl ?_
  refine wp_skip ?_
  refine hK24 _ _ ?_
  refine wp_seq_k fun K34 hK34 => ?_
  refine wp_seq_k fun K35 hK35 => ?_
  refine wp_region_lit ?_
  refine wv h33 (r_fieldB (r := 0) fl_31_0 rfl rfl rfl) rfl rfl fun a36 h36 => ?_
  clear h33
  refine wv h36 (r_ldb (i := 0) ti_22 rfl rfl rfl rfl) rfl rfl fun a37 h37 => ?_
  clear h36
  refine wv h37 (r_eqlI (p := (checkG (pgOf code words locks regs)).code) (q := 0) rfl rfl rfl) rfl rfl fun a38 h38 => ?_
  clear h37
  refine wms 1 h38 rfl fun a39 h39 => ?_
  clear h38
  refine wl_skip h39 (wanted_no h39.fr rfl rfl rfl rfl (decide_eq_false hz)) rfl rfl fun a40 h40 => ?_
  clear h39
  refine wl_skip h40 (wanted_no h40.fr rfl rfl rfl rfl (decide_eq_false hz)) rfl rfl fun a41 h41 => ?_
  clear h40
  refine wl_skip h41 (wanted_no h41.fr rfl rfl rfl rfl (decide_eq_false hz)) rfl rfl fun a42 h42 => ?_
  clear h41
  refine wl_skip h42 (wanted_no h42.fr rfl rfl rfl rfl (decide_eq_false hz)) rfl rfl fun a43 h43 => ?_
  clear h42
  refine wl_skip h43 (wanted_no h43.fr rfl rfl rfl rfl (decide_eq_false hz)) rfl rfl fun a44 h44 => ?_
  clear h43
  refine wl_skip h44 (wanted_no h44.fr rfl rfl rfl rfl (decide_eq_false hz)) rfl rfl fun a45 h45 => ?_
  clear h44
  refine wl_skip h45 (wanted_no h45.fr rfl rfl rfl rfl (decide_eq_false hz)) rfl rfl fun a46 h46 => ?_
  clear h45
  refine wv h46 (r_pickF rfl rfl (decide_eq_false hz) rfl) rfl rfl fun a47 h47 => ?_
  clear h46
  refine wpList_nil ?_
  refine hK35 _ _ ?_
  have h48 : St 70 (fun _ => False) W a47 w23 [(1, .pointer (some ⟨b3, 0, none⟩)), (3, .pointer (some ⟨b15, 0, none⟩)), (4, .pointer (some ⟨b16, 0, none⟩)), (5, .pointer (some ⟨b22, 0, none⟩)), (39, .bool false)] [.blk b22 31 [.int .i64 ((checkG (pgOf code words locks regs)).code), .int .i64 ((checkG (pgOf code words locks regs)).thread), .int .i64 ((checkG (pgOf code words locks regs)).at_)], .blk b16 31 [.int .i64 ((checkG (pgOf code words locks regs)).code), .int .i64 ((checkG (pgOf code words locks regs)).thread), .int .i64 ((checkG (pgOf code words locks regs)).at_)], .blk b15 28 [(.slice none 0 0), (.slice none 0 0), .int .i64 0, .int .i64 0], .blk b3 28 [code.v, words.v, .int .i64 locks, .int .i64 regs], .at_ code, .at_ words] := h47.nrm ⟨rfl, rfl, rfl, rfl, rfl, trivial⟩ [0, 1, 2, 3, 4, 5] (by decide) ⟨rfl, rfl, rfl, rfl, rfl, rfl, trivial⟩
  clear h47
  refine x_condF h48 rfl rfl ?_
  refine wp_skip ?_
  refine hK34 _ _ ?_
  refine wp_seq_k fun K49 hK49 => ?_
  refine wp_seq_k fun K50 hK50 => ?_
  refine wp_region_lit ?_
  refine wv h48 (r_fieldB (r := 0) fl_31_0 rfl rfl rfl) rfl rfl fun a51 h51 => ?_
  clear h48
  refine wv h51 (r_ldb (i := 0) ti_22 rfl rfl rfl rfl) rfl rfl fun a52 h52 => ?_
  clear h51
  refine wv h52 (r_eqlI (p := (checkG (pgOf code words locks regs)).code) (q := 0) rfl rfl rfl) rfl rfl fun a53 h53 => ?_
  clear h52
  refine wpList_nil ?_
  refine hK50 _ _ ?_
  refine x_condF h53 rfl (decide_eq_false hz) ?_
  refine wp_skip ?_
  refine hK49 _ _ ?_
  refine wp_seq_k fun K54 hK54 => ?_
  refine wp_region_lit ?_
  refine wv h53 (r_ldbw (i := 2) (vs := [(.slice none 0 0), (.slice none 0 0), .int .i64 0, .int .i64 0]) ti_28 rfl rfl rfl rfl rfl) rfl rfl fun a55 h55 => ?_
  clear h53
  refine wl_ex (x_call h55 bd_27 rfl rfl rfl rfl rfl (none_c (⟨.slice none 0 0, []⟩ : Ls (Ls Ins)) (⟨.slice none 0 0, []⟩ : Ls Int) 0 0 _ (Sh.nilAt (α := Ls Ins) h55.sh) (Sh.nilAt (α := Int) h55.sh))) (wanted_none rfl _) ?_
  rintro a56 w56 ⟨_, ⟨rfl, hs56⟩, hf56⟩
  have h56 : St 70 (fun _ => False) W a56 w56 _ _ := ⟨hf56, h55.sh.call0 hs56⟩
  clear hf56 hs56
  clear h55
  refine wms 1 h56 rfl fun a57 h57 => ?_
  clear h56
  refine wpList_nil ?_
  refine hK54 _ _ ?_
  refine wp_seq_k fun K58 hK58 => ?_
  refine wp_region_lit ?_
  refine wv h57 (r_ldbw (i := 1) (vs := [.int .i64 ((checkG (pgOf code words locks regs)).code), .int .i64 ((checkG (pgOf code words locks regs)).thread), .int .i64 ((checkG (pgOf code words locks regs)).at_)]) ti_31 rfl rfl rfl rfl rfl) rfl rfl fun a59 h59 => ?_
  clear h57
  refine wv h59 (r_ldbw (i := 0) (vs := [.int .i64 ((checkG (pgOf code words locks regs)).code), .int .i64 ((checkG (pgOf code words locks regs)).thread), .int .i64 ((checkG (pgOf code words locks regs)).at_)]) ti_31 rfl rfl rfl rfl rfl) rfl rfl fun a60 h60 => ?_
  clear h59
  refine wv h60 (r_eqS rfl rfl rfl (fun w => eq_fltG _ _ ⟨(checkG (pgOf code words locks regs)).code, (checkG (pgOf code words locks regs)).thread, (checkG (pgOf code words locks regs)).at_⟩ ⟨(checkG (pgOf code words locks regs)).code, (checkG (pgOf code words locks regs)).thread, (checkG (pgOf code words locks regs)).at_⟩ w) (fun w => eq_flt ⟨(checkG (pgOf code words locks regs)).code, (checkG (pgOf code words locks regs)).thread, (checkG (pgOf code words locks regs)).at_⟩ ⟨(checkG (pgOf code words locks regs)).code, (checkG (pgOf code words locks regs)).thread, (checkG (pgOf code words locks regs)).at_⟩ w)) rfl rfl fun a61 h61 => ?_
  clear h60
  refine wms 1 h61 rfl fun a62 h62 => ?_
  clear h61
  refine wl_val h62 (r_move rfl rfl) (wanted_yes h62.fr rfl rfl rfl rfl (decide_eq_true rfl)) rfl rfl fun a63 h63 => ?_
  clear h62
  refine wv h63 (r_pickT rfl rfl (decide_eq_true rfl) rfl) rfl rfl fun a64 h64 => ?_
  clear h63
  refine wms 1 h64 rfl fun a65 h65 => ?_
  clear h64
  refine wpList_nil ?_
  refine hK58 _ _ ?_
  refine wp_ret ?_
  try simp only [Exit.then, Exit.inBlock]
  refine x_ret1 (fn := Try.f10) (t := 2) rfl h65 rfl ?_
  exact ⟨rfl, (h65.sh.sel [] (by decide) trivial)⟩

set_option maxRecDepth 100000 in
set_option maxHeartbeats 4000000 in
theorem spinLinks_k (code : Ls (Ls Ins)) (words : Ls Int) (locks regs : Int) (W : World) (hcode : code.At W) (hwords : words.At W) (hv : vastG (code.l.map (·.l)) words.l = false) (hok : OkPg (pgOf code words locks regs)) (hr : regs ≤ 6) (hs : (words.l.length : Int) + locks ≤ 64) (hshort : ∀ j, j < code.l.length → (linkL words.l.length (nth code.l j).l).length ≤ 400) :
    Rets Try.prog 10 [.agg #[code.v, words.v, .int .i64 locks, .int .i64 regs]] W (fun v w' => v = .bool true ∧ Sh0 W w' []) := by
  have hz := checkG_ok hok
  obtain ⟨hl1, hl2, hl3, hl4', hl5, hl6, hl7⟩ := ok_len hok
  refine x_enter (N := 70) Try.func10 rfl Try.ntmps10 (Nat.le_of_ble_eq_true rfl) fun a1 hf1 => ?_
  have h1 : St 70 (fun _ => False) W a1 W [(0, .agg #[code.v, words.v, .int .i64 locks, .int .i64 regs])] [.at_ code, .at_ words] := ⟨hf1.sub ⟨rfl, trivial⟩, Sh0.ext2 hcode hwords⟩
  clear hf1
  refine wp_seq_k fun K2 hK2 => ?_
  refine wp_region_lit ?_
  refine wl_ex (x_box (cs := [code.v, words.v, .int .i64 locks, .int .i64 regs]) h1 rfl rfl rfl rfl rfl) (wanted_none rfl _) ?_
  rintro a3 w3 ⟨b3, h3⟩
  clear h1
  refine wms 1 h3 rfl fun a4 h4 => ?_
  clear h3
  refine wpList_nil ?_
  refine hK2 _ _ ?_
  refine wp_seq_k fun K5 hK5 => ?_
  refine wp_seq_k fun K6 hK6 => ?_
  refine wp_region_lit ?_
  refine wv h4 (r_ldbw (i := 0) (vs := [code.v, words.v, .int .i64 locks, .int .i64 regs]) ti_28 rfl rfl rfl rfl rfl) rfl rfl fun a7 h7 => ?_
  clear h4
  refine wl_ex (x_call h7 bd_18 rfl rfl rfl rfl rfl (vast_c (code := code) (words := words) (locks := locks) (regs := regs) (h7.sh.at 1 rfl) (h7.sh.at 2 rfl))) (wanted_none rfl _) ?_
  rintro a8 w8 ⟨_, ⟨rfl, hs8⟩, hf8⟩
  have h8 : St 70 (fun _ => False) W a8 w8 _ _ := ⟨hf8, h7.sh.call0 hs8⟩
  clear hf8 hs8
  clear h7
  refine wpList_nil ?_
  refine hK6 _ _ ?_
  refine x_condF h8 rfl hv ?_
  refine wp_skip ?_
  refine hK5 _ _ ?_
  refine wp_seq_k fun K9 hK9 => ?_
  refine wp_region_lit ?_
  refine wv h8 (r_ldbw (i := 0) (vs := [code.v, words.v, .int .i64 locks, .int .i64 regs]) ti_28 rfl rfl rfl rfl rfl) rfl rfl fun a10 h10 => ?_
  clear h8
  refine wl_ex (x_call h10 bd_31 rfl rfl rfl rfl rfl (link_k code words locks regs _ (h10.sh.at 1 rfl) (h10.sh.at 2 rfl) hok hr hs hshort)) (wanted_none rfl _) ?_
  rintro a11 w11 ⟨_, ⟨c11, u11, rfl, hq11, hu11, hs11⟩, hf11⟩
  have h11 := (⟨hf11, h10.sh.call hs11 (by intro A hA b hb; first | (simp at hA; done) | (simp at hA; subst hA; first | exact Flat.noRd hb | exact (hb : False).elim) | (simp at hA; rcases hA with rfl | rfl <;> first | exact Flat.noRd hb | exact (hb : False).elim))⟩ : St 70 (fun _ => False) W a11 w11 _ _)
  clear hf11 hs11
  clear h10
  refine wms 1 h11 rfl fun a12 h12 => ?_
  clear h11
  refine wv h12 (r_extract rfl rfl rfl) rfl rfl fun a13 h13 => ?_
  clear h12
  refine wv h13 (r_extract rfl rfl rfl) rfl rfl fun a14 h14 => ?_
  clear h13
  refine wl_ex (x_alloc h14 ti_28 rfl rfl rfl) (wanted_none rfl _) ?_
  rintro a15 w15 ⟨b15, h15⟩
  clear h14
  refine wl_ex (x_alloc h15 ti_31 rfl rfl rfl) (wanted_none rfl _) ?_
  rintro a16 w16 ⟨b16, h16⟩
  clear h15
  refine wl_ex (x_stb (i := 1) (vs := [c11.v, u11.v, .int .i64 0, .int .i64 8]) (cs' := [c11.v, u11.v, .int .i64 0, .int .i64 8]) h16 ti_28 rfl rfl rfl rfl rfl rfl rfl (allOne_cons ((h16.sh.deep 2 rfl)).one (allOne_cons ((h16.sh.own 3 rfl)).one (allOne_cons rfl (allOne_cons rfl allOne_nil)))) (Nat.le_of_ble_eq_true rfl) rfl) (wanted_none rfl _) ?_
  rintro a17 w17 h17
  clear h16
  refine wl_ex (x_stb (i := 0) (vs := [.int .i64 0, .int .i64 0, .int .i64 0]) (cs' := [.int .i64 0, .int .i64 0, .int .i64 0]) h17 ti_31 rfl rfl rfl rfl rfl rfl rfl (allOne_cons rfl (allOne_cons rfl (allOne_cons rfl allOne_nil))) (Nat.le_of_ble_eq_true rfl) rfl) (wanted_none rfl _) ?_
  rintro a18 w18 h18
  clear h17
  refine wpList_nil ?_
  refine hK9 _ _ ?_
  refine wp_seq_k fun K19 hK19 => ?_
  refine wp_region_lit ?_
  refine wv h18 (r_ldbw (i := 4) (vs := [code.v, words.v, .int .i64 locks, .int .i64 regs]) ti_28 rfl rfl rfl rfl rfl) rfl rfl fun a20 h20 => ?_
  clear h18
  refine wl_ex (x_call h20 bd_20 rfl rfl rfl rfl rfl (refCheck_c (code := code) (words := words) (locks := locks) (regs := regs) (h20.sh.at 5 rfl) (h20.sh.at 6 rfl))) (wanted_none rfl _) ?_
  rintro a21 w21 ⟨_, ⟨rfl, hs21⟩, hf21⟩
  have h21 : St 70 (fun _ => False) W a21 w21 _ _ := ⟨hf21, h20.sh.call0 hs21⟩
  clear hf21 hs21
  clear h20
  refine wl_ex (x_alloc h21 ti_31 rfl rfl rfl) (wanted_none rfl _) ?_
  rintro a22 w22 ⟨b22, h22⟩
  clear h21
  refine wl_ex (x_stb (i := 0) (vs := [.int .i64 ((checkG (pgOf code words locks regs)).code), .int .i64 ((checkG (pgOf code words locks regs)).thread), .int .i64 ((checkG (pgOf code words locks regs)).at_)]) (cs' := [.int .i64 ((checkG (pgOf code words locks regs)).code), .int .i64 ((checkG (pgOf code words locks regs)).thread), .int .i64 ((checkG (pgOf code words locks regs)).at_)]) h22 ti_31 rfl rfl rfl rfl rfl rfl rfl (allOne_cons rfl (allOne_cons rfl (allOne_cons rfl allOne_nil))) (Nat.le_of_ble_eq_true rfl) rfl) (wanted_none rfl _) ?_
  rintro a23 w23 h23
  clear h22
  refine wpList_nil ?_
  refine hK19 _ _ ?_
  refine wp_seq_k fun K24 hK24 => ?_
  refine wp_seq_k fun K25 hK25 => ?_
  refine wp_region_lit ?_
  refine wv h23 (r_fieldB (r := 0) fl_31_0 rfl rfl rfl) rfl rfl fun a26 h26 => ?_
  clear h23
  refine wv h26 (r_ldb (i := 0) ti_22 rfl rfl rfl rfl) rfl rfl fun a27 h27 => ?_
  clear h26
  refine wv h27 (r_eqlI (p := (checkG (pgOf code words locks regs)).code) (q := 0) rfl rfl rfl) rfl rfl fun a28 h28 => ?_
  clear h27
  refine wms 1 h28 rfl fun a29 h29 => ?_
  clear h28
  refine wl_val h29 (r_fieldB (r := 3) fl_28_3 rfl rfl rfl) (wanted_yes h29.fr rfl rfl rfl rfl (by rw [hz]; rfl)) rfl rfl fun a30 h30 => ?_
  clear h29
  refine wl_val h30 (r_ldb (i := 5) ti_3 rfl rfl rfl rfl) (wanted_yes h30.fr rfl rfl rfl rfl (by rw [hz]; rfl)) rfl rfl fun a31 h31 => ?_
  clear h30
  refine wl_val h31 (r_gtrI (p := regs) (q := 6) rfl rfl rfl) (wanted_yes h31.fr rfl rfl rfl rfl (by rw [hz]; rfl)) rfl rfl fun a32 h32 => ?_
  clear h31
  refine wv h32 (r_pickT rfl rfl (by rw [hz]; rfl) rfl) rfl rfl fun a33 h33 => ?_
  clear h32
  refine wpList_nil ?_
  refine hK25 _ _ ?_
  refine x_condF h33 rfl (decide_eq_false (by omega)) ?_
  refine wp_skip ?_
  refine hK24 _ _ ?_
  refine wp_seq_k fun K34 hK34 => ?_
  refine wp_seq_k fun K35 hK35 => ?_
  refine wp_region_lit ?_
  refine wv h33 (r_fieldB (r := 0) fl_31_0 rfl rfl rfl) rfl rfl fun a36 h36 => ?_
  clear h33
  refine wv h36 (r_ldb (i := 0) ti_22 rfl rfl rfl rfl) rfl rfl fun a37 h37 => ?_
  clear h36
  refine wv h37 (r_eqlI (p := (checkG (pgOf code words locks regs)).code) (q := 0) rfl rfl rfl) rfl rfl fun a38 h38 => ?_
  clear h37
  refine wms 1 h38 rfl fun a39 h39 => ?_
  clear h38
  refine wl_val h39 (r_fieldB (r := 1) fl_28_1 rfl rfl rfl) (wanted_yes h39.fr rfl rfl rfl rfl (by rw [hz]; rfl)) rfl rfl fun a40 h40 => ?_
  clear h39
  refine wl_val h40 (r_ldb (i := 5) ti_24 rfl rfl rfl rfl) (wanted_yes h40.fr rfl rfl rfl rfl (by rw [hz]; rfl)) rfl rfl fun a41 h41 => ?_
  clear h40
  have hl42 : words.l.length ≤ 140737488355328 := (h41.sh.at 7 rfl).len
  refine wl_val h41 (r_len (s := words) (n := words.l.length) sl_24 rfl rfl (fun w h => (h.at 7 rfl)) rfl) (wanted_yes h41.fr rfl rfl rfl rfl (by rw [hz]; rfl)) rfl rfl fun a43 h43 => ?_
  clear h41
  refine wl_val h43 (r_fieldB (r := 2) fl_28_2 rfl rfl rfl) (wanted_yes h43.fr rfl rfl rfl rfl (by rw [hz]; rfl)) rfl rfl fun a44 h44 => ?_
  clear h43
  refine wl_val h44 (r_ldb (i := 5) ti_3 rfl rfl rfl rfl) (wanted_yes h44.fr rfl rfl rfl rfl (by rw [hz]; rfl)) rfl rfl fun a45 h45 => ?_
  clear h44
  refine wl_val h45 (r_addI (p := ((words.l.length : Nat) : Int)) (q := locks) rfl rfl rfl (show -9223372036854775808 ≤ ((words.l.length : Nat) : Int) + locks ∧ ((words.l.length : Nat) : Int) + locks < 9223372036854775808 from (by first | omega | (simp only [List.length_append, List.length_cons, List.length_nil, List.length_set, List.length_replicate, List.length_map, List.length_range]; omega)))) (wanted_yes h45.fr rfl rfl rfl rfl (by rw [hz]; rfl)) rfl rfl fun a46 h46 => ?_
  clear h45
  refine wl_val h46 (r_gtrI (p := ((words.l.length : Nat) : Int) + locks) (q := 64) rfl rfl rfl) (wanted_yes h46.fr rfl rfl rfl rfl (by rw [hz]; rfl)) rfl rfl fun a47 h47 => ?_
  clear h46
  refine wv h47 (r_pickT rfl rfl (by rw [hz]; rfl) rfl) rfl rfl fun a48 h48 => ?_
  clear h47
  refine wpList_nil ?_
  refine hK35 _ _ ?_
  have h49 : St 70 (fun _ => False) W a48 w23 [(1, .pointer (some ⟨b3, 0, none⟩)), (3, .pointer (some ⟨b15, 0, none⟩)), (4, .pointer (some ⟨b16, 0, none⟩)), (5, .pointer (some ⟨b22, 0, none⟩)), (39, .bool (decide (64 < ((words.l.length : Nat) : Int) + locks)))] [.blk b22 31 [.int .i64 ((checkG (pgOf code words locks regs)).code), .int .i64 ((checkG (pgOf code words locks regs)).thread), .int .i64 ((checkG (pgOf code words locks regs)).at_)], .blk b16 31 [.int .i64 0, .int .i64 0, .int .i64 0], .blk b15 28 [c11.v, u11.v, .int .i64 0, .int .i64 8], .deep 64 c11, .own 3 u11, .blk b3 28 [code.v, words.v, .int .i64 locks, .int .i64 regs], .at_ code, .at_ words] := h48.nrm ⟨rfl, rfl, rfl, rfl, rfl, trivial⟩ [0, 1, 2, 3, 4, 5, 6, 7] (by decide) ⟨rfl, rfl, rfl, rfl, rfl, rfl, rfl, rfl, trivial⟩
  clear h48
  refine x_condF h49 rfl (decide_eq_false (by omega)) ?_
  refine wp_skip ?_
  refine hK34 _ _ ?_
  refine wp_seq_k fun K50 hK50 => ?_
  refine wp_seq_k fun K51 hK51 => ?_
  refine wp_region_lit ?_
  refine wv h49 (r_fieldB (r := 0) fl_31_0 rfl rfl rfl) rfl rfl fun a52 h52 => ?_
  clear h49
  refine wv h52 (r_ldb (i := 0) ti_22 rfl rfl rfl rfl) rfl rfl fun a53 h53 => ?_
  clear h52
  refine wv h53 (r_eqlI (p := (checkG (pgOf code words locks regs)).code) (q := 0) rfl rfl rfl) rfl rfl fun a54 h54 => ?_
  clear h53
  refine wpList_nil ?_
  refine hK51 _ _ ?_
  refine x_condT h54 rfl (by rw [hz]; rfl) ?_
  refine wp_seq_k fun K55 hK55 => ?_
  refine wp_region_lit ?_
  refine wv h54 (r_ldbw (i := 5) (vs := [code.v, words.v, .int .i64 locks, .int .i64 regs]) ti_28 rfl rfl rfl rfl rfl) rfl rfl fun a56 h56 => ?_
  clear h54
  refine wl_ex (x_call h56 bd_32 rfl rfl rfl rfl rfl (rLink_c code words locks regs _ (h56.sh.at 6 rfl) (h56.sh.at 7 rfl) hok)) (wanted_none rfl _) ?_
  rintro a57 w57 ⟨_, ⟨c57, u57, n57, rfl, hq57, hu57, hlong, hs57⟩, hf57⟩
  have h57 := (⟨hf57, h56.sh.call hs57 (by intro A hA b hb; first | (simp at hA; done) | (simp at hA; subst hA; first | exact Flat.noRd hb | exact (hb : False).elim) | (simp at hA; rcases hA with rfl | rfl <;> first | exact Flat.noRd hb | exact (hb : False).elim))⟩ : St 70 (fun _ => False) W a57 w57 _ _)
  clear hf57 hs57
  clear h56
  refine wms 1 h57 rfl fun a58 h58 => ?_
  clear h57
  refine wv h58 (r_extract rfl rfl rfl) rfl rfl fun a59 h59 => ?_
  clear h58
  refine wv h59 (r_extract rfl rfl rfl) rfl rfl fun a60 h60 => ?_
  clear h59
  refine wl_ex (x_alloc h60 ti_28 rfl rfl rfl) (wanted_none rfl _) ?_
  rintro a61 w61 ⟨b61, h61⟩
  clear h60
  refine wl_ex (x_stb (i := 0) (vs := [c57.v, u57.v, .int .i64 0, .int .i64 8]) (cs' := [c57.v, u57.v, .int .i64 0, .int .i64 8]) h61 ti_28 rfl rfl rfl rfl rfl rfl rfl (allOne_cons ((h61.sh.deep 1 rfl)).one (allOne_cons ((h61.sh.own 2 rfl)).one (allOne_cons rfl (allOne_cons rfl allOne_nil)))) (Nat.le_of_ble_eq_true rfl) rfl) (wanted_none rfl _) ?_
  rintro a62 w62 h62
  clear h61
  refine wms 1 h62 rfl fun a63 h63 => ?_
  clear h62
  refine wpList_nil ?_
  refine hK55 _ _ ?_
  refine wp_seq_k fun K64 hK64 => ?_
  refine wp_seq_k fun K65 hK65 => ?_
  refine wp_region_lit ?_
  refine wms 1 h63 rfl fun a66 h66 => ?_
  clear h63
  refine wv h66 (r_lssI (p := n57) (q := 0) rfl rfl rfl) rfl rfl fun a67 h67 => ?_
  clear h66
  refine wpList_nil ?_
  refine hK65 _ _ ?_
  refine x_cond h67 rfl (fun hb68 => ?_) (fun hb68 => ?_)
  ·
    have hp68 : n57 < 0 := of_decide_eq_true hb68
    refine wp_seq_k fun K69 hK69 => ?_
    refine wp_region_lit ?_
    refine wv h67 (r_ldbw (i := 5) (vs := [c11.v, u11.v, .int .i64 0, .int .i64 8]) ti_28 rfl rfl rfl rfl rfl) rfl rfl fun a70 h70 => ?_
    clear h67
    refine wv h70 (r_ldbw (i := 0) (vs := [c57.v, u57.v, .int .i64 0, .int .i64 8]) ti_28 rfl rfl rfl rfl rfl) rfl rfl fun a71 h71 => ?_
    clear h70
    refine wl_ex (x_call h71 bd_29 rfl rfl rfl rfl rfl (same_c c11 u11 0 8 c57 u57 0 8 _ (h71.sh.deep 6 rfl) (h71.sh.own 7 rfl) (h71.sh.deep 1 rfl) (h71.sh.own 2 rfl))) (wanted_none rfl _) ?_
    rintro a72 w72 ⟨_, ⟨rfl, hs72⟩, hf72⟩
    have h72 : St 70 (fun _ => False) W a72 w72 _ _ := ⟨hf72, h71.sh.call0 hs72⟩
    clear hf72 hs72
    clear h71
    refine wms 1 h72 rfl fun a73 h73 => ?_
    clear h72
    refine wpList_nil ?_
    refine hK69 _ _ ?_
    refine wp_seq_k fun K74 hK74 => ?_
    refine wp_region_lit ?_
    refine wv h73 (r_fieldB (r := 0) fl_31_0 rfl rfl rfl) rfl rfl fun a75 h75 => ?_
    clear h73
    refine wv h75 (r_ldb (i := 4) ti_22 rfl rfl rfl rfl) rfl rfl fun a76 h76 => ?_
    clear h75
    refine wv h76 (r_eqlN (p := 0) (q := 0) rfl rfl rfl) rfl rfl fun a77 h77 => ?_
    clear h76
    refine wms 1 h77 rfl fun a78 h78 => ?_
    clear h77
    refine wl_val h78 (r_move rfl rfl) (wanted_yes h78.fr rfl rfl rfl rfl (by decide)) rfl rfl fun a79 h79 => ?_
    clear h78
    refine wv h79 (r_pickT rfl rfl (by decide) rfl) rfl rfl fun a80 h80 => ?_
    clear h79
    refine wms 1 h80 rfl fun a81 h81 => ?_
    clear h80
    refine wpList_nil ?_
    refine hK74 _ _ ?_
    have h82 : St 70 (fun _ => False) W a81 w72 [(2, .bool (decide (pgOf c11 u11 0 8 = pgOf c57 u57 0 8)))] [.blk b61 28 [c57.v, u57.v, .int .i64 0, .int .i64 8], .deep 64 c57, .own 3 u57, .blk b22 31 [.int .i64 ((checkG (pgOf code words locks regs)).code), .int .i64 ((checkG (pgOf code words locks regs)).thread), .int .i64 ((checkG (pgOf code words locks regs)).at_)], .blk b16 31 [.int .i64 0, .int .i64 0, .int .i64 0], .blk b15 28 [c11.v, u11.v, .int .i64 0, .int .i64 8], .deep 64 c11, .own 3 u11, .blk b3 28 [code.v, words.v, .int .i64 locks, .int .i64 regs], .at_ code, .at_ words] := h81.nrm ⟨rfl, trivial⟩ [0, 1, 2, 3, 4, 5, 6, 7, 8, 9, 10] (by decide) ⟨rfl, rfl, rfl, rfl, rfl, rfl, rfl, rfl, rfl, rfl, rfl, trivial⟩
    clear h81
    refine wp_ret ?_
    try simp only [Exit.then, Exit.inBlock]
    refine x_ret1 (fn := Try.f10) (t := 2) rfl h82 rfl ?_
    refine ⟨?_, (h82.sh.sel [] (by decide) trivial)⟩
    congr 1
    refine decide_eq_true (pg_eq2 ?_ ?_)
    · simp only [*]
    · simp only [*]
  ·
    have hp68 : ¬ (n57 < 0) := of_decide_eq_false hb68
    exfalso
    have h9 := longIs_k hlong (fun j hj => by rw [linkC_len (by assumption)] at hj; rw [linkC_nth (by assumption) _ hj]; exact hshort j hj); omega

set_option maxRecDepth 100000 in
set_option maxHeartbeats 4000000 in
theorem spinLinks_l (code : Ls (Ls Ins)) (words : Ls Int) (locks regs : Int) (k : Nat) (W : World) (hcode : code.At W) (hwords : words.At W) (hv : vastG (code.l.map (·.l)) words.l = false) (hok : OkPg (pgOf code words locks regs)) (hr : regs ≤ 6) (hs : (words.l.length : Int) + locks ≤ 64) (hk : k < code.l.length) (h400 : 400 < (linkL words.l.length (nth code.l k).l).length) (hbef : ∀ j, j < k → (linkL words.l.length (nth code.l j).l).length ≤ 400) :
    Rets Try.prog 10 [.agg #[code.v, words.v, .int .i64 locks, .int .i64 regs]] W (fun v w' => v = .bool true ∧ Sh0 W w' []) := by
  have hz := checkG_ok hok
  obtain ⟨hl1, hl2, hl3, hl4', hl5, hl6, hl7⟩ := ok_len hok
  refine x_enter (N := 70) Try.func10 rfl Try.ntmps10 (Nat.le_of_ble_eq_true rfl) fun a1 hf1 => ?_
  have h1 : St 70 (fun _ => False) W a1 W [(0, .agg #[code.v, words.v, .int .i64 locks, .int .i64 regs])] [.at_ code, .at_ words] := ⟨hf1.sub ⟨rfl, trivial⟩, Sh0.ext2 hcode hwords⟩
  clear hf1
  refine wp_seq_k fun K2 hK2 => ?_
  refine wp_region_lit ?_
  refine wl_ex (x_box (cs := [code.v, words.v, .int .i64 locks, .int .i64 regs]) h1 rfl rfl rfl rfl rfl) (wanted_none rfl _) ?_
  rintro a3 w3 ⟨b3, h3⟩
  clear h1
  refine wms 1 h3 rfl fun a4 h4 => ?_
  clear h3
  refine wpList_nil ?_
  refine hK2 _ _ ?_
  refine wp_seq_k fun K5 hK5 => ?_
  refine wp_seq_k fun K6 hK6 => ?_
  refine wp_region_lit ?_
  refine wv h4 (r_ldbw (i := 0) (vs := [code.v, words.v, .int .i64 locks, .int .i64 regs]) ti_28 rfl rfl rfl rfl rfl) rfl rfl fun a7 h7 => ?_
  clear h4
  refine wl_ex (x_call h7 bd_18 rfl rfl rfl rfl rfl (vast_c (code := code) (words := words) (locks := locks) (regs := regs) (h7.sh.at 1 rfl) (h7.sh.at 2 rfl))) (wanted_none rfl _) ?_
  rintro a8 w8 ⟨_, ⟨rfl, hs8⟩, hf8⟩
  have h8 : St 70 (fun _ => False) W a8 w8 _ _ := ⟨hf8, h7.sh.call0 hs8⟩
  clear hf8 hs8
  clear h7
  refine wpList_nil ?_
  refine hK6 _ _ ?_
  refine x_condF h8 rfl hv ?_
  refine wp_skip ?_
  refine hK5 _ _ ?_
  refine wp_seq_k fun K9 hK9 => ?_
  refine wp_region_lit ?_
  refine wv h8 (r_ldbw (i := 0) (vs := [code.v, words.v, .int .i64 locks, .int .i64 regs]) ti_28 rfl rfl rfl rfl rfl) rfl rfl fun a10 h10 => ?_
  clear h8
  refine wl_ex (x_call h10 bd_31 rfl rfl rfl rfl rfl (link_l code words locks regs k _ (h10.sh.at 1 rfl) (h10.sh.at 2 rfl) hok hr hs hk h400 hbef)) (wanted_none rfl _) ?_
  rintro a11 w11 ⟨_, ⟨rfl, hs11⟩, hf11⟩
  have h11 : St 70 (fun _ => False) W a11 w11 _ _ := ⟨hf11, h10.sh.call0 hs11⟩
  clear hf11 hs11
  clear h10
  refine wms 1 h11 rfl fun a12 h12 => ?_
  clear h11
  refine wv h12 (r_extract rfl rfl rfl) rfl rfl fun a13 h13 => ?_
  clear h12
  refine wv h13 (r_extract rfl rfl rfl) rfl rfl fun a14 h14 => ?_
  clear h13
  refine wl_ex (x_alloc h14 ti_28 rfl rfl rfl) (wanted_none rfl _) ?_
  rintro a15 w15 ⟨b15, h15⟩
  clear h14
  refine wl_ex (x_alloc h15 ti_31 rfl rfl rfl) (wanted_none rfl _) ?_
  rintro a16 w16 ⟨b16, h16⟩
  clear h15
  refine wl_ex (x_stb (i := 1) (vs := [(.slice none 0 0), (.slice none 0 0), .int .i64 0, .int .i64 0]) (cs' := [(.slice none 0 0), (.slice none 0 0), .int .i64 0, .int .i64 0]) h16 ti_28 rfl rfl rfl rfl rfl rfl rfl (allOne_cons ((Sh.nilAt (α := Ls Ins) h16.sh)).one (allOne_cons ((Sh.nilAt (α := Int) h16.sh)).one (allOne_cons rfl (allOne_cons rfl allOne_nil)))) (Nat.le_of_ble_eq_true rfl) rfl) (wanted_none rfl _) ?_
  rintro a17 w17 h17
  clear h16
  refine wl_ex (x_stb (i := 0) (vs := [.int .i64 1, .int .i64 ((k : Nat) : Int), .int .i64 0]) (cs' := [.int .i64 1, .int .i64 ((k : Nat) : Int), .int .i64 0]) h17 ti_31 rfl rfl rfl rfl rfl rfl rfl (allOne_cons rfl (allOne_cons rfl (allOne_cons rfl allOne_nil))) (Nat.le_of_ble_eq_true rfl) rfl) (wanted_none rfl _) ?_
  rintro a18 w18 h18
  clear h17
  refine wpList_nil ?_
  refine hK9 _ _ ?_
  refine wp_seq_k fun K19 hK19 => ?_
  refine wp_region_lit ?_
  refine wv h18 (r_ldbw (i := 2) (vs := [code.v, words.v, .int .i64 locks, .int .i64 regs]) ti_28 rfl rfl rfl rfl rfl) rfl rfl fun a20 h20 => ?_
  clear h18
  refine wl_ex (x_call h20 bd_20 rfl rfl rfl rfl rfl (refCheck_c (code := code) (words := words) (locks := locks) (regs := regs) (h20.sh.at 3 rfl) (h20.sh.at 4 rfl))) (wanted_none rfl _) ?_
  rintro a21 w21 ⟨_, ⟨rfl, hs21⟩, hf21⟩
  have h21 : St 70 (fun _ => False) W a21 w21 _ _ := ⟨hf21, h20.sh.call0 hs21⟩
  clear hf21 hs21
  clear h20
  refine wl_ex (x_alloc h21 ti_31 rfl rfl rfl) (wanted_none rfl _) ?_
  rintro a22 w22 ⟨b22, h22⟩
  clear h21
  refine wl_ex (x_stb (i := 0) (vs := [.int .i64 ((checkG (pgOf code words locks regs)).code), .int .i64 ((checkG (pgOf code words locks regs)).thread), .int .i64 ((checkG (pgOf code words locks regs)).at_)]) (cs' := [.int .i64 ((checkG (pgOf code words locks regs)).code), .int .i64 ((checkG (pgOf code words locks regs)).thread), .int .i64 ((checkG (pgOf code words locks regs)).at_)]) h22 ti_31 rfl rfl rfl rfl rfl rfl rfl (allOne_cons rfl (allOne_cons rfl (allOne_cons rfl allOne_nil))) (Nat.le_of_ble_eq_true rfl) rfl) (wanted_none rfl _) ?_
  rintro a23 w23 h23
  clear h22
  refine wpList_nil ?_
  refine hK19 _ _ ?_
  refine wp_seq_k fun K24 hK24 => ?_
  refine wp_seq_k fun K25 hK25 => ?_
  refine wp_region_lit ?_
  refine wv h23 (r_fieldB (r := 0) fl_31_0 rfl rfl rfl) rfl rfl fun a26 h26 => ?_
  clear h23
  refine wv h26 (r_ldb (i := 0) ti_22 rfl rfl rfl rfl) rfl rfl fun a27 h27 => ?_
  clear h26
  refine wv h27 (r_eqlI (p := (checkG (pgOf code words locks regs)).code) (q := 0) rfl rfl rfl) rfl rfl fun a28 h28 => ?_
  clear h27
  refine wms 1 h28 rfl fun a29 h29 => ?_
  clear h28
  refine wl_val h29 (r_fieldB (r := 3) fl_28_3 rfl rfl rfl) (wanted_yes h29.fr rfl rfl rfl rfl (by rw [hz]; rfl)) rfl rfl fun a30 h30 => ?_
  clear h29
  refine wl_val h30 (r_ldb (i := 3) ti_3 rfl rfl rfl rfl) (wanted_yes h30.fr rfl rfl rfl rfl (by rw [hz]; rfl)) rfl rfl fun a31 h31 => ?_
  clear h30
  refine wl_val h31 (r_gtrI (p := regs) (q := 6) rfl rfl rfl) (wanted_yes h31.fr rfl rfl rfl rfl (by rw [hz]; rfl)) rfl rfl fun a32 h32 => ?_
  clear h31
  refine wv h32 (r_pickT rfl rfl (by rw [hz]; rfl) rfl) rfl rfl fun a33 h33 => ?_
  clear h32
  refine wpList_nil ?_
  refine hK25 _ _ ?_
  refine x_condF h33 rfl (decide_eq_false (by omega)) ?_
  refine wp_skip ?_
  refine hK24 _ _ ?_
  refine wp_seq_k fun K34 hK34 => ?_
  refine wp_seq_k fun K35 hK35 => ?_
  refine wp_region_lit ?_
  refine wv h33 (r_fieldB (r := 0) fl_31_0 rfl rfl rfl) rfl rfl fun a36 h36 => ?_
  clear h33
  refine wv h36 (r_ldb (i := 0) ti_22 rfl rfl rfl rfl) rfl rfl fun a37 h37 => ?_
  clear h36
  refine wv h37 (r_eqlI (p := (checkG (pgOf code words locks regs)).code) (q := 0) rfl rfl rfl) rfl rfl fun a38 h38 => ?_
  clear h37
  refine wms 1 h38 rfl fun a39 h39 => ?_
  clear h38
  refine wl_val h39 (r_fieldB (r := 1) fl_28_1 rfl rfl rfl) (wanted_yes h39.fr rfl rfl rfl rfl (by rw [hz]; rfl)) rfl rfl fun a40 h40 => ?_
  clear h39
  refine wl_val h40 (r_ldb (i := 3) ti_24 rfl rfl rfl rfl) (wanted_yes h40.fr rfl rfl rfl rfl (by rw [hz]; rfl)) rfl rfl fun a41 h41 => ?_
  clear h40
  have hl42 : words.l.length ≤ 140737488355328 := (h41.sh.at 5 rfl).len
  refine wl_val h41 (r_len (s := words) (n := words.l.length) sl_24 rfl rfl (fun w h => (h.at 5 rfl)) rfl) (wanted_yes h41.fr rfl rfl rfl rfl (by rw [hz]; rfl)) rfl rfl fun a43 h43 => ?_
  clear h41
  refine wl_val h43 (r_fieldB (r := 2) fl_28_2 rfl rfl rfl) (wanted_yes h43.fr rfl rfl rfl rfl (by rw [hz]; rfl)) rfl rfl fun a44 h44 => ?_
  clear h43
  refine wl_val h44 (r_ldb (i := 3) ti_3 rfl rfl rfl rfl) (wanted_yes h44.fr rfl rfl rfl rfl (by rw [hz]; rfl)) rfl rfl fun a45 h45 => ?_
  clear h44
  refine wl_val h45 (r_addI (p := ((words.l.length : Nat) : Int)) (q := locks) rfl rfl rfl (show -9223372036854775808 ≤ ((words.l.length : Nat) : Int) + locks ∧ ((words.l.length : Nat) : Int) + locks < 9223372036854775808 from (by first | omega | (simp only [List.length_append, List.length_cons, List.length_nil, List.length_set, List.length_replicate, List.length_map, List.length_range]; omega)))) (wanted_yes h45.fr rfl rfl rfl rfl (by rw [hz]; rfl)) rfl rfl fun a46 h46 => ?_
  clear h45
  refine wl_val h46 (r_gtrI (p := ((words.l.length : Nat) : Int) + locks) (q := 64) rfl rfl rfl) (wanted_yes h46.fr rfl rfl rfl rfl (by rw [hz]; rfl)) rfl rfl fun a47 h47 => ?_
  clear h46
  refine wv h47 (r_pickT rfl rfl (by rw [hz]; rfl) rfl) rfl rfl fun a48 h48 => ?_
  clear h47
  refine wpList_nil ?_
  refine hK35 _ _ ?_
  have h49 : St 70 (fun _ => False) W a48 w23 [(1, .pointer (some ⟨b3, 0, none⟩)), (3, .pointer (some ⟨b15, 0, none⟩)), (4, .pointer (some ⟨b16, 0, none⟩)), (5, .pointer (some ⟨b22, 0, none⟩)), (39, .bool (decide (64 < ((words.l.length : Nat) : Int) + locks)))] [.blk b22 31 [.int .i64 ((checkG (pgOf code words locks regs)).code), .int .i64 ((checkG (pgOf code words locks regs)).thread), .int .i64 ((checkG (pgOf code words locks regs)).at_)], .blk b16 31 [.int .i64 1, .int .i64 ((k : Nat) : Int), .int .i64 0], .blk b15 28 [(.slice none 0 0), (.slice none 0 0), .int .i64 0, .int .i64 0], .blk b3 28 [code.v, words.v, .int .i64 locks, .int .i64 regs], .at_ code, .at_ words] := h48.nrm ⟨rfl, rfl, rfl, rfl, rfl, trivial⟩ [0, 1, 2, 3, 4, 5] (by decide) ⟨rfl, rfl, rfl, rfl, rfl, rfl, trivial⟩
  clear h48
  refine x_condF h49 rfl (decide_eq_false (by omega)) ?_
  refine wp_skip ?_
  refine hK34 _ _ ?_
  refine wp_seq_k fun K50 hK50 => ?_
  refine wp_seq_k fun K51 hK51 => ?_
  refine wp_region_lit ?_
  refine wv h49 (r_fieldB (r := 0) fl_31_0 rfl rfl rfl) rfl rfl fun a52 h52 => ?_
  clear h49
  refine wv h52 (r_ldb (i := 0) ti_22 rfl rfl rfl rfl) rfl rfl fun a53 h53 => ?_
  clear h52
  refine wv h53 (r_eqlI (p := (checkG (pgOf code words locks regs)).code) (q := 0) rfl rfl rfl) rfl rfl fun a54 h54 => ?_
  clear h53
  refine wpList_nil ?_
  refine hK51 _ _ ?_
  refine x_condT h54 rfl (by rw [hz]; rfl) ?_
  refine wp_seq_k fun K55 hK55 => ?_
  refine wp_region_lit ?_
  refine wv h54 (r_ldbw (i := 3) (vs := [code.v, words.v, .int .i64 locks, .int .i64 regs]) ti_28 rfl rfl rfl rfl rfl) rfl rfl fun a56 h56 => ?_
  clear h54
  refine wl_ex (x_call h56 bd_32 rfl rfl rfl rfl rfl (rLink_c code words locks regs _ (h56.sh.at 4 rfl) (h56.sh.at 5 rfl) hok)) (wanted_none rfl _) ?_
  rintro a57 w57 ⟨_, ⟨c57, u57, n57, rfl, hq57, hu57, hlong, hs57⟩, hf57⟩
  have h57 := (⟨hf57, h56.sh.call hs57 (by intro A hA b hb; first | (simp at hA; done) | (simp at hA; subst hA; first | exact Flat.noRd hb | exact (hb : False).elim) | (simp at hA; rcases hA with rfl | rfl <;> first | exact Flat.noRd hb | exact (hb : False).elim))⟩ : St 70 (fun _ => False) W a57 w57 _ _)
  clear hf57 hs57
  clear h56
  refine wms 1 h57 rfl fun a58 h58 => ?_
  clear h57
  refine wv h58 (r_extract rfl rfl rfl) rfl rfl fun a59 h59 => ?_
  clear h58
  refine wv h59 (r_extract rfl rfl rfl) rfl rfl fun a60 h60 => ?_
  clear h59
  refine wl_ex (x_alloc h60 ti_28 rfl rfl rfl) (wanted_none rfl _) ?_
  rintro a61 w61 ⟨b61, h61⟩
  clear h60
  refine wl_ex (x_stb (i := 0) (vs := [c57.v, u57.v, .int .i64 0, .int .i64 8]) (cs' := [c57.v, u57.v, .int .i64 0, .int .i64 8]) h61 ti_28 rfl rfl rfl rfl rfl rfl rfl (allOne_cons ((h61.sh.deep 1 rfl)).one (allOne_cons ((h61.sh.own 2 rfl)).one (allOne_cons rfl (allOne_cons rfl allOne_nil)))) (Nat.le_of_ble_eq_true rfl) rfl) (wanted_none rfl _) ?_
  rintro a62 w62 h62
  clear h61
  refine wms 1 h62 rfl fun a63 h63 => ?_
  clear h62
  refine wpList_nil ?_
  refine hK55 _ _ ?_
  refine wp_seq_k fun K64 hK64 => ?_
  refine wp_seq_k fun K65 hK65 => ?_
  refine wp_region_lit ?_
  refine wms 1 h63 rfl fun a66 h66 => ?_
  clear h63
  refine wv h66 (r_lssI (p := n57) (q := 0) rfl rfl rfl) rfl rfl fun a67 h67 => ?_
  clear h66
  refine wpList_nil ?_
  refine hK65 _ _ ?_
  refine x_cond h67 rfl (fun hb68 => ?_) (fun hb68 => ?_)
  ·
    have hp68 : n57 < 0 := of_decide_eq_true hb68
    exfalso
    have h9 := longIs_l hlong k (by rw [linkC_len (by assumption)]; exact hk) (by rw [linkC_nth (by assumption) _ hk]; exact h400) (fun j hj => by rw [linkC_nth (by assumption) _ (by omega)]; exact hbef j hj); omega
  ·
    have hp68 : ¬ (n57 < 0) := of_decide_eq_false hb68
    refine wp_skip ?_
    refine hK64 _ _ ?_
    refine wp_region_lit ?_
    refine wms 1 h67 rfl fun a69 h69 => ?_
    clear h67
    refine wv h69 (r_build (cs := [.int .i64 1, .int .i64 n57, .int .i64 0]) rfl rfl (by kernel_rfl)) rfl rfl fun a70 h70 => ?_
    clear h69
    refine wl_ex (x_stb (i := 3) (vs := [.int .i64 1, .int .i64 n57, .int .i64 0]) (cs' := [.int .i64 1, .int .i64 n57, .int .i64 0]) h70 ti_31 rfl rfl rfl rfl rfl rfl rfl (allOne_cons rfl (allOne_cons rfl (allOne_cons rfl allOne_nil))) (Nat.le_of_ble_eq_true rfl) rfl) (wanted_none rfl _) ?_
    rintro a71 w71 h71
    clear h70
    refine wpList_nil ?_
    refine hK50 _ _ ?_
    refine wp_seq_k fun K72 hK72 => ?_
    refine wp_region_lit ?_
    refine wv h71 (r_ldbw (i := 5) (vs := [(.slice none 0 0), (.slice none 0 0), .int .i64 0, .int .i64 0]) ti_28 rfl rfl rfl rfl rfl) rfl rfl fun a73 h73 => ?_
    clear h71
    refine wl_ex (x_call h73 bd_27 rfl rfl rfl rfl rfl (none_c (⟨.slice none 0 0, []⟩ : Ls (Ls Ins)) (⟨.slice none 0 0, []⟩ : Ls Int) 0 0 _ (Sh.nilAt (α := Ls Ins) h73.sh) (Sh.nilAt (α := Int) h73.sh))) (wanted_none rfl _) ?_
    rintro a74 w74 ⟨_, ⟨rfl, hs74⟩, hf74⟩
    have h74 : St 70 (fun _ => False) W a74 w74 _ _ := ⟨hf74, h73.sh.call0 hs74⟩
    clear hf74 hs74
    clear h73
    refine wms 1 h74 rfl fun a75 h75 => ?_
    clear h74
    refine wpList_nil ?_
    refine hK72 _ _ ?_
    refine wp_seq_k fun K76 hK76 => ?_
    refine wp_region_lit ?_
    refine wv h75 (r_ldbw (i := 4) (vs := [.int .i64 1, .int .i64 ((k : Nat) : Int), .int .i64 0]) ti_31 rfl rfl rfl rfl rfl) rfl rfl fun a77 h77 => ?_
    clear h75
    refine wv h77 (r_ldbw (i := 3) (vs := [.int .i64 1, .int .i64 n57, .int .i64 0]) ti_31 rfl rfl rfl rfl rfl) rfl rfl fun a78 h78 => ?_
    clear h77
    refine wv h78 (r_eqS rfl rfl rfl (fun w => eq_fltG _ _ ⟨1, ((k : Nat) : Int), 0⟩ ⟨1, n57, 0⟩ w) (fun w => eq_flt ⟨1, ((k : Nat) : Int), 0⟩ ⟨1, n57, 0⟩ w)) rfl rfl fun a79 h79 => ?_
    clear h78
    refine wms 1 h79 rfl fun a80 h80 => ?_
    clear h79
    rcases Bool.eq_false_or_eq_true (decide ((⟨1, ((k : Nat) : Int), 0⟩ : Flt) = ⟨1, n57, 0⟩)) with hb81 | hb81
    ·
      have hp81 : (⟨1, ((k : Nat) : Int), 0⟩ : Flt) = ⟨1, n57, 0⟩ := of_decide_eq_true hb81
      refine wl_val h80 (r_move rfl rfl) (wanted_yes h80.fr rfl rfl rfl rfl hb81) rfl rfl fun a82 h82 => ?_
      clear h80
      refine wv h82 (r_pickT rfl rfl hb81 rfl) rfl rfl fun a83 h83 => ?_
      clear h82
      refine wms 1 h83 rfl fun a84 h84 => ?_
      clear h83
      refine wpList_nil ?_
      refine hK76 _ _ ?_
      have h85 : St 70 (fun _ => False) W a84 w74 [(2, .bool (noneP (pgOf (⟨.slice none 0 0, []⟩ : Ls (Ls Ins)) (⟨.slice none 0 0, []⟩ : Ls Int) 0 0)))] [.blk b61 28 [c57.v, u57.v, .int .i64 0, .int .i64 8], .deep 64 c57, .own 3 u57, .blk b22 31 [.int .i64 1, .int .i64 n57, .int .i64 0], .blk b16 31 [.int .i64 1, .int .i64 ((k : Nat) : Int), .int .i64 0], .blk b15 28 [(.slice none 0 0), (.slice none 0 0), .int .i64 0, .int .i64 0], .blk b3 28 [code.v, words.v, .int .i64 locks, .int .i64 regs], .at_ code, .at_ words] := h84.nrm ⟨rfl, trivial⟩ [0, 1, 2, 3, 4, 5, 6, 7, 8] (by decide) ⟨rfl, rfl, rfl, rfl, rfl, rfl, rfl, rfl, rfl, trivial⟩
      clear h84
      refine wp_ret ?_
      try simp only [Exit.then, Exit.inBlock]
      refine x_ret1 (fn := Try.f10) (t := 2) rfl h85 rfl ?_
      exact ⟨rfl, (h85.sh.sel [] (by decide) trivial)⟩
    ·
      have hp81 : ¬ ((⟨1, ((k : Nat) : Int), 0⟩ : Flt) = ⟨1, n57, 0⟩) := of_decide_eq_false hb81
      exfalso
      have h9 := longIs_l hlong k (by rw [linkC_len (by assumption)]; exact hk) (by rw [linkC_nth (by assumption) _ hk]; exact h400) (fun j hj => by rw [linkC_nth (by assumption) _ (by omega)]; exact hbef j hj); simp_all

set_option maxRecDepth 100000 in
set_option maxHeartbeats 4000000 in
theorem spinLinks_r (code : Ls (Ls Ins)) (words : Ls Int) (locks regs : Int) (W : World) (hcode : code.At W) (hwords : words.At W) (hv : vastG (code.l.map (·.l)) words.l = false) (hok : OkPg (pgOf code words locks regs)) (hr : 6 < regs) :
    Rets Try.prog 10 [.agg #[code.v, words.v, .int .i64 locks, .int .i64 regs]] W (fun v w' => v = .bool true ∧ Sh0 W w' []) := by
  have hz := checkG_ok hok
  obtain ⟨hl1, hl2, hl3, hl4', hl5, hl6, hl7⟩ := ok_len hok
  refine x_enter (N := 70) Try.func10 rfl Try.ntmps10 (Nat.le_of_ble_eq_true rfl) fun a1 hf1 => ?_
  have h1 : St 70 (fun _ => False) W a1 W [(0, .agg #[code.v, words.v, .int .i64 locks, .int .i64 regs])] [.at_ code, .at_ words] := ⟨hf1.sub ⟨rfl, trivial⟩, Sh0.ext2 hcode hwords⟩
  clear hf1
  refine wp_seq_k fun K2 hK2 => ?_
  refine wp_region_lit ?_
  refine wl_ex (x_box (cs := [code.v, words.v, .int .i64 locks, .int .i64 regs]) h1 rfl rfl rfl rfl rfl) (wanted_none rfl _) ?_
  rintro a3 w3 ⟨b3, h3⟩
  clear h1
  refine wms 1 h3 rfl fun a4 h4 => ?_
  clear h3
  refine wpList_nil ?_
  refine hK2 _ _ ?_
  refine wp_seq_k fun K5 hK5 => ?_
  refine wp_seq_k fun K6 hK6 => ?_
  refine wp_region_lit ?_
  refine wv h4 (r_ldbw (i := 0) (vs := [code.v, words.v, .int .i64 locks, .int .i64 regs]) ti_28 rfl rfl rfl rfl rfl) rfl rfl fun a7 h7 => ?_
  clear h4
  refine wl_ex (x_call h7 bd_18 rfl rfl rfl rfl rfl (vast_c (code := code) (words := words) (locks := locks) (regs := regs) (h7.sh.at 1 rfl) (h7.sh.at 2 rfl))) (wanted_none rfl _) ?_
  rintro a8 w8 ⟨_, ⟨rfl, hs8⟩, hf8⟩
  have h8 : St 70 (fun _ => False) W a8 w8 _ _ := ⟨hf8, h7.sh.call0 hs8⟩
  clear hf8 hs8
  clear h7
  refine wpList_nil ?_
  refine hK6 _ _ ?_
  refine x_condF h8 rfl hv ?_
  refine wp_skip ?_
  refine hK5 _ _ ?_
  refine wp_seq_k fun K9 hK9 => ?_
  refine wp_region_lit ?_
  refine wv h8 (r_ldbw (i := 0) (vs := [code.v, words.v, .int .i64 locks, .int .i64 regs]) ti_28 rfl rfl rfl rfl rfl) rfl rfl fun a10 h10 => ?_
  clear h8
  refine wl_ex (x_call h10 bd_31 rfl rfl rfl rfl rfl (link_r code words locks regs _ (h10.sh.at 1 rfl) (h10.sh.at 2 rfl) hok hr)) (wanted_none rfl _) ?_
  rintro a11 w11 ⟨_, ⟨rfl, hs11⟩, hf11⟩
  have h11 : St 70 (fun _ => False) W a11 w11 _ _ := ⟨hf11, h10.sh.call0 hs11⟩
  clear hf11 hs11
  clear h10
  refine wms 1 h11 rfl fun a12 h12 => ?_
  clear h11
  refine wv h12 (r_extract rfl rfl rfl) rfl rfl fun a13 h13 => ?_
  clear h12
  refine wv h13 (r_extract rfl rfl rfl) rfl rfl fun a14 h14 => ?_
  clear h13
  refine wl_ex (x_alloc h14 ti_28 rfl rfl rfl) (wanted_none rfl _) ?_
  rintro a15 w15 ⟨b15, h15⟩
  clear h14
  refine wl_ex (x_alloc h15 ti_31 rfl rfl rfl) (wanted_none rfl _) ?_
  rintro a16 w16 ⟨b16, h16⟩
  clear h15
  refine wl_ex (x_stb (i := 1) (vs := [(.slice none 0 0), (.slice none 0 0), .int .i64 0, .int .i64 0]) (cs' := [(.slice none 0 0), (.slice none 0 0), .int .i64 0, .int .i64 0]) h16 ti_28 rfl rfl rfl rfl rfl rfl rfl (allOne_cons ((Sh.nilAt (α := Ls Ins) h16.sh)).one (allOne_cons ((Sh.nilAt (α := Int) h16.sh)).one (allOne_cons rfl (allOne_cons rfl allOne_nil)))) (Nat.le_of_ble_eq_true rfl) rfl) (wanted_none rfl _) ?_
  rintro a17 w17 h17
  clear h16
  refine wl_ex (x_stb (i := 0) (vs := [.int .i64 3, .int .i64 0, .int .i64 0]) (cs' := [.int .i64 3, .int .i64 0, .int .i64 0]) h17 ti_31 rfl rfl rfl rfl rfl rfl rfl (allOne_cons rfl (allOne_cons rfl (allOne_cons rfl allOne_nil))) (Nat.le_of_ble_eq_true rfl) rfl) (wanted_none rfl _) ?_
  rintro a18 w18 h18
  clear h17
  refine wpList_nil ?_
  refine hK9 _ _ ?_
  refine wp_seq_k fun K19 hK19 => ?_
  refine wp_region_lit ?_
  refine wv h18 (r_ldbw (i := 2) (vs := [code.v, words.v, .int .i64 locks, .int .i64 regs]) ti_28 rfl rfl rfl rfl rfl) rfl rfl fun a20 h20 => ?_
  clear h18
  refine wl_ex (x_call h20 bd_20 rfl rfl rfl rfl rfl (refCheck_c (code := code) (words := words) (locks := locks) (regs := regs) (h20.sh.at 3 rfl) (h20.sh.at 4 rfl))) (wanted_none rfl _) ?_
  rintro a21 w21 ⟨_, ⟨rfl, hs21⟩, hf21⟩
  have h21 : St 70 (fun _ => False) W a21 w21 _ _ := ⟨hf21, h20.sh.call0 hs21⟩
  clear hf21 hs21
  clear h20
  refine wl_ex (x_alloc h21 ti_31 rfl rfl rfl) (wanted_none rfl _) ?_
  rintro a22 w22 ⟨b22, h22⟩
  clear h21
  refine wl_ex (x_stb (i := 0) (vs := [.int .i64 ((checkG (pgOf code words locks regs)).code), .int .i64 ((checkG (pgOf code words locks regs)).thread), .int .i64 ((checkG (pgOf code words locks regs)).at_)]) (cs' := [.int .i64 ((checkG (pgOf code words locks regs)).code), .int .i64 ((checkG (pgOf code words locks regs)).thread), .int .i64 ((checkG (pgOf code words locks regs)).at_)]) h22 ti_31 rfl rfl rfl rfl rfl rfl rfl (allOne_cons rfl (allOne_cons rfl (allOne_cons rfl allOne_nil))) (Nat.le_of_ble_eq_true rfl) rfl) (wanted_none rfl _) ?_
  rintro a23 w23 h23
  clear h22
  refine wpList_nil ?_
  refine hK19 _ _ ?_
  refine wp_seq_k fun K24 hK24 => ?_
  refine wp_seq_k fun K25 hK25 => ?_
  refine wp_region_lit ?_
  refine wv h23 (r_fieldB (r := 0) fl_31_0 rfl rfl rfl) rfl rfl fun a26 h26 => ?_
  clear h23
  refine wv h26 (r_ldb (i := 0) ti_22 rfl rfl rfl rfl) rfl rfl fun a27 h27 => ?_
  clear h26
  refine wv h27 (r_eqlI (p := (checkG (pgOf code words locks regs)).code) (q := 0) rfl rfl rfl) rfl rfl fun a28 h28 => ?_
  clear h27
  refine wms 1 h28 rfl fun a29 h29 => ?_
  clear h28
  refine wl_val h29 (r_fieldB (r := 3) fl_28_3 rfl rfl rfl) (wanted_yes h29.fr rfl rfl rfl rfl (by rw [hz]; rfl)) rfl rfl fun a30 h30 => ?_
  clear h29
  refine wl_val h30 (r_ldb (i := 3) ti_3 rfl rfl rfl rfl) (wanted_yes h30.fr rfl rfl rfl rfl (by rw [hz]; rfl)) rfl rfl fun a31 h31 => ?_
  clear h30
  refine wl_val h31 (r_gtrI (p := regs) (q := 6) rfl rfl rfl) (wanted_yes h31.fr rfl rfl rfl rfl (by rw [hz]; rfl)) rfl rfl fun a32 h32 => ?_
  clear h31
  refine wv h32 (r_pickT rfl rfl (by rw [hz]; rfl) rfl) rfl rfl fun a33 h33 => ?_
  clear h32
  refine wpList_nil ?_
  refine hK25 _ _ ?_
  refine x_condT h33 rfl (decide_eq_true hr) ?_
  refine wp_region_lit ?_
  refine wv h33 (r_build (cs := [.int .i64 3, .int .i64 0, .int .i64 0]) rfl rfl (by kernel_rfl)) rfl rfl fun a34 h34 => ?_
  clear h33
  refine wl_ex (x_stb (i := 0) (vs := [.int .i64 3, .int .i64 0, .int .i64 0]) (cs' := [.int .i64 3, .int .i64 0, .int .i64 0]) h34 ti_31 rfl rfl rfl rfl rfl rfl rfl (allOne_cons rfl (allOne_cons rfl (allOne_cons rfl allOne_nil))) (Nat.le_of_ble_eq_true rfl) rfl) (wanted_none rfl _) ?_
  rintro a35 w35 h35
  clear h34
  refine wpList_nil ?_
  refine hK24 _ _ ?_
  refine wp_seq_k fun K36 hK36 => ?_
  refine wp_seq_k fun K37 hK37 => ?_
  refine wp_region_lit ?_
  refine wv h35 (r_fieldB (r := 0) fl_31_0 rfl rfl rfl) rfl rfl fun a38 h38 => ?_
  clear h35
  refine wv h38 (r_ldb (i := 0) ti_22 rfl rfl rfl rfl) rfl rfl fun a39 h39 => ?_
  clear h38
  refine wv h39 (r_eqlN (p := 3) (q := 0) rfl rfl rfl) rfl rfl fun a40 h40 => ?_
  clear h39
  refine wms 1 h40 rfl fun a41 h41 => ?_
  clear h40
  refine wl_skip h41 (wanted_no h41.fr rfl rfl rfl rfl (by decide)) rfl rfl fun a42 h42 => ?_
  clear h41
  refine wl_skip h42 (wanted_no h42.fr rfl rfl rfl rfl (by decide)) rfl rfl fun a43 h43 => ?_
  clear h42
  refine wl_skip h43 (wanted_no h43.fr rfl rfl rfl rfl (by decide)) rfl rfl fun a44 h44 => ?_
  clear h43
  refine wl_skip h44 (wanted_no h44.fr rfl rfl rfl rfl (by decide)) rfl rfl fun a45 h45 => ?_
  clear h44
  refine wl_skip h45 (wanted_no h45.fr rfl rfl rfl rfl (by decide)) rfl rfl fun a46 h46 => ?_
  clear h45
  refine wl_skip h46 (wanted_no h46.fr rfl rfl rfl rfl (by decide)) rfl rfl fun a47 h47 => ?_
  clear h46
  refine wl_skip h47 (wanted_no h47.fr rfl rfl rfl rfl (by decide)) rfl rfl fun a48 h48 => ?_
  clear h47
  refine wv h48 (r_pickF rfl rfl (by decide) rfl) rfl rfl fun a49 h49 => ?_
  clear h48
  refine wpList_nil ?_
  refine hK37 _ _ ?_
  have h50 : St 70 (fun _ => False) W a49 w35 [(1, .pointer (some ⟨b3, 0, none⟩)), (3, .pointer (some ⟨b15, 0, none⟩)), (4, .pointer (some ⟨b16, 0, none⟩)), (5, .pointer (some ⟨b22, 0, none⟩)), (39, .bool false)] [.blk b22 31 [.int .i64 3, .int .i64 0, .int .i64 0], .blk b16 31 [.int .i64 3, .int .i64 0, .int .i64 0], .blk b15 28 [(.slice none 0 0), (.slice none 0 0), .int .i64 0, .int .i64 0], .blk b3 28 [code.v, words.v, .int .i64 locks, .int .i64 regs], .at_ code, .at_ words] := h49.nrm ⟨rfl, rfl, rfl, rfl, rfl, trivial⟩ [0, 1, 2, 3, 4, 5] (by decide) ⟨rfl, rfl, rfl, rfl, rfl, rfl, trivial⟩
  clear h49
  refine x_condF h50 rfl rfl ?_
  refine wp_skip ?_
  refine hK36 _ _ ?_
  refine wp_seq_k fun K51 hK51 => ?_
  refine wp_seq_k fun K52 hK52 => ?_
  refine wp_region_lit ?_
  refine wv h50 (r_fieldB (r := 0) fl_31_0 rfl rfl rfl) rfl rfl fun a53 h53 => ?_
  clear h50
  refine wv h53 (r_ldb (i := 0) ti_22 rfl rfl rfl rfl) rfl rfl fun a54 h54 => ?_
  clear h53
  refine wv h54 (r_eqlN (p := 3) (q := 0) rfl rfl rfl) rfl rfl fun a55 h55 => ?_
  clear h54
  refine wpList_nil ?_
  refine hK52 _ _ ?_
  refine x_condF h55 rfl (by decide) ?_
  refine wp_skip ?_
  refine hK51 _ _ ?_
  refine wp_seq_k fun K56 hK56 => ?_
  refine wp_region_lit ?_
  refine wv h55 (r_ldbw (i := 2) (vs := [(.slice none 0 0), (.slice none 0 0), .int .i64 0, .int .i64 0]) ti_28 rfl rfl rfl rfl rfl) rfl rfl fun a57 h57 => ?_
  clear h55
  refine wl_ex (x_call h57 bd_27 rfl rfl rfl rfl rfl (none_c (⟨.slice none 0 0, []⟩ : Ls (Ls Ins)) (⟨.slice none 0 0, []⟩ : Ls Int) 0 0 _ (Sh.nilAt (α := Ls Ins) h57.sh) (Sh.nilAt (α := Int) h57.sh))) (wanted_none rfl _) ?_
  rintro a58 w58 ⟨_, ⟨rfl, hs58⟩, hf58⟩
  have h58 : St 70 (fun _ => False) W a58 w58 _ _ := ⟨hf58, h57.sh.call0 hs58⟩
  clear hf58 hs58
  clear h57
  refine wms 1 h58 rfl fun a59 h59 => ?_
  clear h58
  refine wpList_nil ?_
  refine hK56 _ _ ?_
  refine wp_seq_k fun K60 hK60 => ?_
  refine wp_region_lit ?_
  refine wv h59 (r_ldbw (i := 1) (vs := [.int .i64 3, .int .i64 0, .int .i64 0]) ti_31 rfl rfl rfl rfl rfl) rfl rfl fun a61 h61 => ?_
  clear h59
  refine wv h61 (r_ldbw (i := 0) (vs := [.int .i64 3, .int .i64 0, .int .i64 0]) ti_31 rfl rfl rfl rfl rfl) rfl rfl fun a62 h62 => ?_
  clear h61
  refine wv h62 (r_eqS rfl rfl rfl (fun w => eq_fltG _ _ ⟨3, 0, 0⟩ ⟨3, 0, 0⟩ w) (fun w => eq_flt ⟨3, 0, 0⟩ ⟨3, 0, 0⟩ w)) rfl rfl fun a63 h63 => ?_
  clear h62
  refine wms 1 h63 rfl fun a64 h64 => ?_
  clear h63
  refine wl_val h64 (r_move rfl rfl) (wanted_yes h64.fr rfl rfl rfl rfl (decide_eq_true rfl)) rfl rfl fun a65 h65 => ?_
  clear h64
  refine wv h65 (r_pickT rfl rfl (decide_eq_true rfl) rfl) rfl rfl fun a66 h66 => ?_
  clear h65
  refine wms 1 h66 rfl fun a67 h67 => ?_
  clear h66
  refine wpList_nil ?_
  refine hK60 _ _ ?_
  refine wp_ret ?_
  try simp only [Exit.then, Exit.inBlock]
  refine x_ret1 (fn := Try.f10) (t := 2) rfl h67 rfl ?_
  exact ⟨rfl, (h67.sh.sel [] (by decide) trivial)⟩

set_option maxRecDepth 100000 in
set_option maxHeartbeats 4000000 in
theorem spinLinks_s (code : Ls (Ls Ins)) (words : Ls Int) (locks regs : Int) (W : World) (hcode : code.At W) (hwords : words.At W) (hv : vastG (code.l.map (·.l)) words.l = false) (hok : OkPg (pgOf code words locks regs)) (hr : regs ≤ 6) (hs : 64 < (words.l.length : Int) + locks) :
    Rets Try.prog 10 [.agg #[code.v, words.v, .int .i64 locks, .int .i64 regs]] W (fun v w' => v = .bool true ∧ Sh0 W w' []) := by
  have hz := checkG_ok hok
  obtain ⟨hl1, hl2, hl3, hl4', hl5, hl6, hl7⟩ := ok_len hok
  refine x_enter (N := 70) Try.func10 rfl Try.ntmps10 (Nat.le_of_ble_eq_true rfl) fun a1 hf1 => ?_
  have h1 : St 70 (fun _ => False) W a1 W [(0, .agg #[code.v, words.v, .int .i64 locks, .int .i64 regs])] [.at_ code, .at_ words] := ⟨hf1.sub ⟨rfl, trivial⟩, Sh0.ext2 hcode hwords⟩
  clear hf1
  refine wp_seq_k fun K2 hK2 => ?_
  refine wp_region_lit ?_
  refine wl_ex (x_box (cs := [code.v, words.v, .int .i64 locks, .int .i64 regs]) h1 rfl rfl rfl rfl rfl) (wanted_none rfl _) ?_
  rintro a3 w3 ⟨b3, h3⟩
  clear h1
  refine wms 1 h3 rfl fun a4 h4 => ?_
  clear h3
  refine wpList_nil ?_
  refine hK2 _ _ ?_
  refine wp_seq_k fun K5 hK5 => ?_
  refine wp_seq_k fun K6 hK6 => ?_
  refine wp_region_lit ?_
  refine wv h4 (r_ldbw (i := 0) (vs := [code.v, words.v, .int .i64 locks, .int .i64 regs]) ti_28 rfl rfl rfl rfl rfl) rfl rfl fun a7 h7 => ?_
  clear h4
  refine wl_ex (x_call h7 bd_18 rfl rfl rfl rfl rfl (vast_c (code := code) (words := words) (locks := locks) (regs := regs) (h7.sh.at 1 rfl) (h7.sh.at 2 rfl))) (wanted_none rfl _) ?_
  rintro a8 w8 ⟨_, ⟨rfl, hs8⟩, hf8⟩
  have h8 : St 70 (fun _ => False) W a8 w8 _ _ := ⟨hf8, h7.sh.call0 hs8⟩
  clear hf8 hs8
  clear h7
  refine wpList_nil ?_
  refine hK6 _ _ ?_
  refine x_condF h8 rfl hv ?_
  refine wp_skip ?_
  refine hK5 _ _ ?_
  refine wp_seq_k fun K9 hK9 => ?_
  refine wp_region_lit ?_
  refine wv h8 (r_ldbw (i := 0) (vs := [code.v, words.v, .int .i64 locks, .int .i64 regs]) ti_28 rfl rfl rfl rfl rfl) rfl rfl fun a10 h10 => ?_
  clear h8
  refine wl_ex (x_call h10 bd_31 rfl rfl rfl rfl rfl (link_s code words locks regs _ (h10.sh.at 1 rfl) (h10.sh.at 2 rfl) hok hr hs)) (wanted_none rfl _) ?_
  rintro a11 w11 ⟨_, ⟨rfl, hs11⟩, hf11⟩
  have h11 : St 70 (fun _ => False) W a11 w11 _ _ := ⟨hf11, h10.sh.call0 hs11⟩
  clear hf11 hs11
  clear h10
  refine wms 1 h11 rfl fun a12 h12 => ?_
  clear h11
  refine wv h12 (r_extract rfl rfl rfl) rfl rfl fun a13 h13 => ?_
  clear h12
  refine wv h13 (r_extract rfl rfl rfl) rfl rfl fun a14 h14 => ?_
  clear h13
  refine wl_ex (x_alloc h14 ti_28 rfl rfl rfl) (wanted_none rfl _) ?_
  rintro a15 w15 ⟨b15, h15⟩
  clear h14
  refine wl_ex (x_alloc h15 ti_31 rfl rfl rfl) (wanted_none rfl _) ?_
  rintro a16 w16 ⟨b16, h16⟩
  clear h15
  refine wl_ex (x_stb (i := 1) (vs := [(.slice none 0 0), (.slice none 0 0), .int .i64 0, .int .i64 0]) (cs' := [(.slice none 0 0), (.slice none 0 0), .int .i64 0, .int .i64 0]) h16 ti_28 rfl rfl rfl rfl rfl rfl rfl (allOne_cons ((Sh.nilAt (α := Ls Ins) h16.sh)).one (allOne_cons ((Sh.nilAt (α := Int) h16.sh)).one (allOne_cons rfl (allOne_cons rfl allOne_nil)))) (Nat.le_of_ble_eq_true rfl) rfl) (wanted_none rfl _) ?_
  rintro a17 w17 h17
  clear h16
  refine wl_ex (x_stb (i := 0) (vs := [.int .i64 1, .int .i64 0, .int .i64 0]) (cs' := [.int .i64 1, .int .i64 0, .int .i64 0]) h17 ti_31 rfl rfl rfl rfl rfl rfl rfl (allOne_cons rfl (allOne_cons rfl (allOne_cons rfl allOne_nil))) (Nat.le_of_ble_eq_true rfl) rfl) (wanted_none rfl _) ?_
  rintro a18 w18 h18
  clear h17
  refine wpList_nil ?_
  refine hK9 _ _ ?_
  refine wp_seq_k fun K19 hK19 => ?_
  refine wp_region_lit ?_
  refine wv h18 (r_ldbw (i := 2) (vs := [code.v, words.v, .int .i64 locks, .int .i64 regs]) ti_28 rfl rfl rfl rfl rfl) rfl rfl fun a20 h20 => ?_
  clear h18
  refine wl_ex (x_call h20 bd_20 rfl rfl rfl rfl rfl (refCheck_c (code := code) (words := words) (locks := locks) (regs := regs) (h20.sh.at 3 rfl) (h20.sh.at 4 rfl))) (wanted_none rfl _) ?_
  rintro a21 w21 ⟨_, ⟨rfl, hs21⟩, hf21⟩
  have h21 : St 70 (fun _ => False) W a21 w21 _ _ := ⟨hf21, h20.sh.call0 hs21⟩
  clear hf21 hs21
  clear h20
  refine wl_ex (x_alloc h21 ti_31 rfl rfl rfl) (wanted_none rfl _) ?_
  rintro a22 w22 ⟨b22, h22⟩
  clear h21
  refine wl_ex (x_stb (i := 0) (vs := [.int .i64 ((checkG (pgOf code words locks regs)).code), .int .i64 ((checkG (pgOf code words locks regs)).thread), .int .i64 ((checkG (pgOf code words locks regs)).at_)]) (cs' := [.int .i64 ((checkG (pgOf code words locks regs)).code), .int .i64 ((checkG (pgOf code words locks regs)).thread), .int .i64 ((checkG (pgOf code words locks regs)).at_)]) h22 ti_31 rfl rfl rfl rfl rfl rfl rfl (allOne_cons rfl (allOne_cons rfl (allOne_cons rfl allOne_nil))) (Nat.le_of_ble_eq_true rfl) rfl) (wanted_none rfl _) ?_
  rintro a23 w23 h23
  clear h22
  refine wpList_nil ?_
  refine hK19 _ _ ?_
  refine wp_seq_k fun K24 hK24 => ?_
  refine wp_seq_k fun K25 hK25 => ?_
  refine wp_region_lit ?_
  refine wv h23 (r_fieldB (r := 0) fl_31_0 rfl rfl rfl) rfl rfl fun a26 h26 => ?_
  clear h23
  refine wv h26 (r_ldb (i := 0) ti_22 rfl rfl rfl rfl) rfl rfl fun a27 h27 => ?_
  clear h26
  refine wv h27 (r_eqlI (p := (checkG (pgOf code words locks regs)).code) (q := 0) rfl rfl rfl) rfl rfl fun a28 h28 => ?_
  clear h27
  refine wms 1 h28 rfl fun a29 h29 => ?_
  clear h28
  refine wl_val h29 (r_fieldB (r := 3) fl_28_3 rfl rfl rfl) (wanted_yes h29.fr rfl rfl rfl rfl (by rw [hz]; rfl)) rfl rfl fun a30 h30 => ?_
  clear h29
  refine wl_val h30 (r_ldb (i := 3) ti_3 rfl rfl rfl rfl) (wanted_yes h30.fr rfl rfl rfl rfl (by rw [hz]; rfl)) rfl rfl fun a31 h31 => ?_
  clear h30
  refine wl_val h31 (r_gtrI (p := regs) (q := 6) rfl rfl rfl) (wanted_yes h31.fr rfl rfl rfl rfl (by rw [hz]; rfl)) rfl rfl fun a32 h32 => ?_
  clear h31
  refine wv h32 (r_pickT rfl rfl (by rw [hz]; rfl) rfl) rfl rfl fun a33 h33 => ?_
  clear h32
  refine wpList_nil ?_
  refine hK25 _ _ ?_
  refine x_condF h33 rfl (decide_eq_false (by omega)) ?_
  refine wp_skip ?_
  refine hK24 _ _ ?_
  refine wp_seq_k fun K34 hK34 => ?_
  refine wp_seq_k fun K35 hK35 => ?_
  refine wp_region_lit ?_
  refine wv h33 (r_fieldB (r := 0) fl_31_0 rfl rfl rfl) rfl rfl fun a36 h36 => ?_
  clear h33
  refine wv h36 (r_ldb (i := 0) ti_22 rfl rfl rfl rfl) rfl rfl fun a37 h37 => ?_
  clear h36
  refine wv h37 (r_eqlI (p := (checkG (pgOf code words locks regs)).code) (q := 0) rfl rfl rfl) rfl rfl fun a38 h38 => ?_
  clear h37
  refine wms 1 h38 rfl fun a39 h39 => ?_
  clear h38
  refine wl_val h39 (r_fieldB (r := 1) fl_28_1 rfl rfl rfl) (wanted_yes h39.fr rfl rfl rfl rfl (by rw [hz]; rfl)) rfl rfl fun a40 h40 => ?_
  clear h39
  refine wl_val h40 (r_ldb (i := 3) ti_24 rfl rfl rfl rfl) (wanted_yes h40.fr rfl rfl rfl rfl (by rw [hz]; rfl)) rfl rfl fun a41 h41 => ?_
  clear h40
  have hl42 : words.l.length ≤ 140737488355328 := (h41.sh.at 5 rfl).len
  refine wl_val h41 (r_len (s := words) (n := words.l.length) sl_24 rfl rfl (fun w h => (h.at 5 rfl)) rfl) (wanted_yes h41.fr rfl rfl rfl rfl (by rw [hz]; rfl)) rfl rfl fun a43 h43 => ?_
  clear h41
  refine wl_val h43 (r_fieldB (r := 2) fl_28_2 rfl rfl rfl) (wanted_yes h43.fr rfl rfl rfl rfl (by rw [hz]; rfl)) rfl rfl fun a44 h44 => ?_
  clear h43
  refine wl_val h44 (r_ldb (i := 3) ti_3 rfl rfl rfl rfl) (wanted_yes h44.fr rfl rfl rfl rfl (by rw [hz]; rfl)) rfl rfl fun a45 h45 => ?_
  clear h44
  refine wl_val h45 (r_addI (p := ((words.l.length : Nat) : Int)) (q := locks) rfl rfl rfl (show -9223372036854775808 ≤ ((words.l.length : Nat) : Int) + locks ∧ ((words.l.length : Nat) : Int) + locks < 9223372036854775808 from (by first | omega | (simp only [List.length_append, List.length_cons, List.length_nil, List.length_set, List.length_replicate, List.length_map, List.length_range]; omega)))) (wanted_yes h45.fr rfl rfl rfl rfl (by rw [hz]; rfl)) rfl rfl fun a46 h46 => ?_
  clear h45
  refine wl_val h46 (r_gtrI (p := ((words.l.length : Nat) : Int) + locks) (q := 64) rfl rfl rfl) (wanted_yes h46.fr rfl rfl rfl rfl (by rw [hz]; rfl)) rfl rfl fun a47 h47 => ?_
  clear h46
  refine wv h47 (r_pickT rfl rfl (by rw [hz]; rfl) rfl) rfl rfl fun a48 h48 => ?_
  clear h47
  refine wpList_nil ?_
  refine hK35 _ _ ?_
  have h49 : St 70 (fun _ => False) W a48 w23 [(1, .pointer (some ⟨b3, 0, none⟩)), (3, .pointer (some ⟨b15, 0, none⟩)), (4, .pointer (some ⟨b16, 0, none⟩)), (5, .pointer (some ⟨b22, 0, none⟩)), (39, .bool (decide (64 < ((words.l.length : Nat) : Int) + locks)))] [.blk b22 31 [.int .i64 ((checkG (pgOf code words locks regs)).code), .int .i64 ((checkG (pgOf code words locks regs)).thread), .int .i64 ((checkG (pgOf code words locks regs)).at_)], .blk b16 31 [.int .i64 1, .int .i64 0, .int .i64 0], .blk b15 28 [(.slice none 0 0), (.slice none 0 0), .int .i64 0, .int .i64 0], .blk b3 28 [code.v, words.v, .int .i64 locks, .int .i64 regs], .at_ code, .at_ words] := h48.nrm ⟨rfl, rfl, rfl, rfl, rfl, trivial⟩ [0, 1, 2, 3, 4, 5] (by decide) ⟨rfl, rfl, rfl, rfl, rfl, rfl, trivial⟩
  clear h48
  refine x_condT h49 rfl (decide_eq_true (by omega)) ?_
  refine wp_region_lit ?_
  refine wv h49 (r_build (cs := [.int .i64 1, .int .i64 0, .int .i64 0]) rfl rfl (by kernel_rfl)) rfl rfl fun a50 h50 => ?_
  clear h49
  refine wl_ex (x_stb (i := 0) (vs := [.int .i64 1, .int .i64 0, .int .i64 0]) (cs' := [.int .i64 1, .int .i64 0, .int .i64 0]) h50 ti_31 rfl rfl rfl rfl rfl rfl rfl (allOne_cons rfl (allOne_cons rfl (allOne_cons rfl allOne_nil))) (Nat.le_of_ble_eq_true rfl) rfl) (wanted_none rfl _) ?_
  rintro a51 w51 h51
  clear h50
  refine wpList_nil ?_
  refine hK34 _ _ ?_
  refine wp_seq_k fun K52 hK52 => ?_
  refine wp_seq_k fun K53 hK53 => ?_
  refine wp_region_lit ?_
  refine wv h51 (r_fieldB (r := 0) fl_31_0 rfl rfl rfl) rfl rfl fun a54 h54 => ?_
  clear h51
  refine wv h54 (r_ldb (i := 0) ti_22 rfl rfl rfl rfl) rfl rfl fun a55 h55 => ?_
  clear h54
  refine wv h55 (r_eqlN (p := 1) (q := 0) rfl rfl rfl) rfl rfl fun a56 h56 => ?_
  clear h55
  refine wpList_nil ?_
  refine hK53 _ _ ?_
  refine x_condF h56 rfl (by decide) ?_
  refine wp_skip ?_
  refine hK52 _ _ ?_
  refine wp_seq_k fun K57 hK57 => ?_
  refine wp_region_lit ?_
  refine wv h56 (r_ldbw (i := 2) (vs := [(.slice none 0 0), (.slice none 0 0), .int .i64 0, .int .i64 0]) ti_28 rfl rfl rfl rfl rfl) rfl rfl fun a58 h58 => ?_
  clear h56
  refine wl_ex (x_call h58 bd_27 rfl rfl rfl rfl rfl (none_c (⟨.slice none 0 0, []⟩ : Ls (Ls Ins)) (⟨.slice none 0 0, []⟩ : Ls Int) 0 0 _ (Sh.nilAt (α := Ls Ins) h58.sh) (Sh.nilAt (α := Int) h58.sh))) (wanted_none rfl _) ?_
  rintro a59 w59 ⟨_, ⟨rfl, hs59⟩, hf59⟩
  have h59 : St 70 (fun _ => False) W a59 w59 _ _ := ⟨hf59, h58.sh.call0 hs59⟩
  clear hf59 hs59
  clear h58
  refine wms 1 h59 rfl fun a60 h60 => ?_
  clear h59
  refine wpList_nil ?_
  refine hK57 _ _ ?_
  refine wp_seq_k fun K61 hK61 => ?_
  refine wp_region_lit ?_
  refine wv h60 (r_ldbw (i := 1) (vs := [.int .i64 1, .int .i64 0, .int .i64 0]) ti_31 rfl rfl rfl rfl rfl) rfl rfl fun a62 h62 => ?_
  clear h60
  refine wv h62 (r_ldbw (i := 0) (vs := [.int .i64 1, .int .i64 0, .int .i64 0]) ti_31 rfl rfl rfl rfl rfl) rfl rfl fun a63 h63 => ?_
  clear h62
  refine wv h63 (r_eqS rfl rfl rfl (fun w => eq_fltG _ _ ⟨1, 0, 0⟩ ⟨1, 0, 0⟩ w) (fun w => eq_flt ⟨1, 0, 0⟩ ⟨1, 0, 0⟩ w)) rfl rfl fun a64 h64 => ?_
  clear h63
  refine wms 1 h64 rfl fun a65 h65 => ?_
  clear h64
  refine wl_val h65 (r_move rfl rfl) (wanted_yes h65.fr rfl rfl rfl rfl (decide_eq_true rfl)) rfl rfl fun a66 h66 => ?_
  clear h65
  refine wv h66 (r_pickT rfl rfl (decide_eq_true rfl) rfl) rfl rfl fun a67 h67 => ?_
  clear h66
  refine wms 1 h67 rfl fun a68 h68 => ?_
  clear h67
  refine wpList_nil ?_
  refine hK61 _ _ ?_
  refine wp_ret ?_
  try simp only [Exit.then, Exit.inBlock]
  refine x_ret1 (fn := Try.f10) (t := 2) rfl h68 rfl ?_
  exact ⟨rfl, (h68.sh.sel [] (by decide) trivial)⟩

theorem spinLinks_any (code : Ls (Ls Ins)) (words : Ls Int) (locks regs : Int) (W : World) (hcode : code.At W) (hwords : words.At W) : Rets Try.prog 10 [.agg #[code.v, words.v, .int .i64 locks, .int .i64 regs]] W (fun v w' => v = .bool true ∧ Sh0 W w' []) := by
  cases hv : vastG (code.l.map (·.l)) words.l with
  | true => exact spinLinks_v code words locks regs W hcode hwords hv
  | false =>
    by_cases hok : OkPg (pgOf code words locks regs)
    · by_cases hr : regs ≤ 6
      · by_cases hs : (words.l.length : Int) + locks ≤ 64
        · by_cases hsh : ∀ j, j < code.l.length → (linkL words.l.length (nth code.l j).l).length ≤ 400
          · exact spinLinks_k code words locks regs W hcode hwords hv hok hr hs hsh
          · have hex : ∃ k, k < code.l.length ∧ 400 < (linkL words.l.length (nth code.l k).l).length := by
              apply Classical.byContradiction
              intro hn
              exact hsh fun j hj => Nat.le_of_not_lt fun h4 => hn ⟨j, hj, h4⟩
            have least : ∀ n, (∃ k, k < n ∧ k < code.l.length ∧ 400 < (linkL words.l.length (nth code.l k).l).length) → ∃ k, k < code.l.length ∧ 400 < (linkL words.l.length (nth code.l k).l).length ∧ ∀ j, j < k → (linkL words.l.length (nth code.l j).l).length ≤ 400 := by
              intro n
              induction n with
              | zero => rintro ⟨k, hk, _⟩; omega
              | succ n ih =>
                rintro ⟨k, hk, h1, h2⟩
                by_cases hb : ∃ j, j < k ∧ j < code.l.length ∧ 400 < (linkL words.l.length (nth code.l j).l).length
                · obtain ⟨j, hj, hj2⟩ := hb
                  exact ih ⟨j, by omega, hj2⟩
                · exact ⟨k, h1, h2, fun j hj => Nat.le_of_not_lt fun h4 => hb ⟨j, hj, by omega, h4⟩⟩
            obtain ⟨k0, hk0⟩ := hex
            obtain ⟨k, hk, h4, hb⟩ := least (k0 + 1) ⟨k0, by omega, hk0⟩
            exact spinLinks_l code words locks regs k W hcode hwords hv hok hr hs hk h4 hb
        · exact spinLinks_s code words locks regs W hcode hwords hv hok hr (by omega)
      · exact spinLinks_r code words locks regs W hcode hwords hv hok (by omega)
    · exact spinLinks_b code words locks regs W hcode hwords hv (fun h => hok (checkG_code_pos.1 h))
end Go.Proofs.Ytanhbpofhebbaaa
