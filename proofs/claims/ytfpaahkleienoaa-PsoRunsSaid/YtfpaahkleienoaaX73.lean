/-
  The law PsoRuns, walked.
-/
import Derived.Test.YtfpaahkleienoaaX72
import Derived.Test.YtfpaahkleienoaaX65
import Derived.Test.YtfpaahkleienoaaC2
namespace Go.Proofs.Ytfpaahkleienoaa
open Go.RowKit
set_option linter.unusedSimpArgs false
set_option linter.unusedVariables false

set_option maxRecDepth 100000 in
set_option maxHeartbeats 2000000 in
theorem traces_c (p1 w1 p2 w2 : Ls Int) (s1 s2 : Int) (n1 n2 : Nat) (W : World) (h1 : p1.At W) (h2 : w1.At W) (h3 : p2.At W) (h4 : w2.At W) (e1 : p1.l = p2.l) (e2 : w1.l = w2.l) (e3 : s1 = s2) (e4 : n1 = n2) :
    Rets Try.prog 34 [.agg #[p1.v, .int .i64 s1, w1.v, .int .i64 ((n1 : Nat) : Int)], .agg #[p2.v, .int .i64 s2, w2.v, .int .i64 ((n2 : Nat) : Int)]] W (fun v w' => v = .bool true ∧ Sh0 W w' []) := by
 refine x_enter (N := 35) Try.func34 rfl Try.ntmps34 (Nat.le_of_ble_eq_true rfl) fun a1 hf1 => ?_
 have h1 : St 35 (fun _ => False) W a1 W [(0, .agg #[p1.v, .int .i64 s1, w1.v, .int .i64 ((n1 : Nat) : Int)]), (1, .agg #[p2.v, .int .i64 s2, w2.v, .int .i64 ((n2 : Nat) : Int)])] [.at_ p1, .at_ w1, .at_ p2, .at_ w2] := ⟨hf1.sub ⟨rfl, rfl, trivial⟩, Sh0.ext4 h1 h2 h3 h4⟩
 clear hf1
 refine wp_seq_k fun K2 hK2 => wp_region_lit <| wl_ex (x_box (cs := [p1.v, .int .i64 s1, w1.v, .int .i64 ((n1 : Nat) : Int)]) h1 rfl rfl rfl rfl rfl) (wanted_none rfl _) ?_
 rintro a3 w3 ⟨b3, h3⟩; clear h1
 refine wl_ex (x_box (cs := [p2.v, .int .i64 s2, w2.v, .int .i64 ((n2 : Nat) : Int)]) h3 rfl rfl rfl rfl rfl) (wanted_none rfl _) ?_
 rintro a4 w4 ⟨b4, h4⟩; clear h3
 refine wms 1 h4 rfl fun a5 h5 => wpList_nil <| hK2 _ _ <| wp_seq_k fun K6 hK6 => wp_region_lit <| wv h5 (r_fieldB (r := 0) fl_49_0 rfl rfl rfl) rfl rfl fun a7 h7 => wv h7 (r_ldb (i := 1) ti_23 rfl rfl rfl rfl) rfl rfl fun a8 h8 => wv h8 (r_fieldB (r := 0) fl_49_0 rfl rfl rfl) rfl rfl fun a9 h9 => wv h9 (r_ldb (i := 0) ti_23 rfl rfl rfl rfl) rfl rfl fun a10 h10 => wl_ex (x_call h10 bd_62 rfl rfl rfl rfl rfl (ints_c p1 p2 _ (h10.sh.at 2 rfl) (h10.sh.at 4 rfl))) (wanted_none rfl _) ?_; clear h4 h5 h7 h8 h9
 rintro a11 w11 ⟨_, ⟨rfl, hs11⟩, hf11⟩
 have h11 : St 35 (fun _ => False) W a11 w11 _ _ := ⟨hf11, h10.sh.call0 hs11⟩
 clear hf11 hs11
 clear h10
 refine wms 1 h11 rfl fun a12 h12 => wpList_nil <| hK6 _ _ <| wp_seq_k fun K13 hK13 => wp_region_lit <| wv h12 (r_fieldB (r := 2) fl_49_2 rfl rfl rfl) rfl rfl fun a14 h14 => wv h14 (r_ldb (i := 1) ti_23 rfl rfl rfl rfl) rfl rfl fun a15 h15 => wv h15 (r_fieldB (r := 2) fl_49_2 rfl rfl rfl) rfl rfl fun a16 h16 => wv h16 (r_ldb (i := 0) ti_23 rfl rfl rfl rfl) rfl rfl fun a17 h17 => wl_ex (x_call h17 bd_62 rfl rfl rfl rfl rfl (ints_c w1 w2 _ (h17.sh.at 3 rfl) (h17.sh.at 5 rfl))) (wanted_none rfl _) ?_; clear h11 h12 h14 h15 h16
 rintro a18 w18 ⟨_, ⟨rfl, hs18⟩, hf18⟩
 have h18 : St 35 (fun _ => False) W a18 w18 _ _ := ⟨hf18, h17.sh.call0 hs18⟩
 clear hf18 hs18
 clear h17
 refine wms 1 h18 rfl fun a19 h19 => wpList_nil <| hK13 _ _ <| wp_seq_k fun K20 hK20 => wp_region_lit <| wms 2 h19 rfl fun a21 h21 => wl_val h21 (r_move rfl rfl) (wanted_yes h21.fr rfl rfl rfl rfl (decide_eq_true e1)) rfl rfl fun a22 h22 => wv h22 (r_pickT rfl rfl (decide_eq_true e1) rfl) rfl rfl fun a23 h23 => wms 1 h23 rfl fun a24 h24 => wl_val h24 (r_fieldB (r := 1) fl_49_1 rfl rfl rfl) (wanted_yes h24.fr rfl rfl rfl rfl (decide_eq_true e2)) rfl rfl fun a25 h25 => wl_val h25 (r_ldb (i := 1) ti_3 rfl rfl rfl rfl) (wanted_yes h25.fr rfl rfl rfl rfl (decide_eq_true e2)) rfl rfl fun a26 h26 => wl_val h26 (r_fieldB (r := 1) fl_49_1 rfl rfl rfl) (wanted_yes h26.fr rfl rfl rfl rfl (decide_eq_true e2)) rfl rfl fun a27 h27 => wl_val h27 (r_ldb (i := 0) ti_3 rfl rfl rfl rfl) (wanted_yes h27.fr rfl rfl rfl rfl (decide_eq_true e2)) rfl rfl fun a28 h28 => wl_val h28 (r_eqlI (p := s1) (q := s2) rfl rfl rfl) (wanted_yes h28.fr rfl rfl rfl rfl (decide_eq_true e2)) rfl rfl fun a29 h29 => ?_; clear h18 h19 h21 h22 h23 h24 h25 h26 h27 h28
 refine wv h29 (r_pickT rfl rfl (decide_eq_true e2) rfl) rfl rfl fun a30 h30 => wms 1 h30 rfl fun a31 h31 => wl_val h31 (r_fieldB (r := 3) fl_49_3 rfl rfl rfl) (wanted_yes h31.fr rfl rfl rfl rfl (decide_eq_true e3)) rfl rfl fun a32 h32 => wl_val h32 (r_ldb (i := 1) ti_3 rfl rfl rfl rfl) (wanted_yes h32.fr rfl rfl rfl rfl (decide_eq_true e3)) rfl rfl fun a33 h33 => wl_val h33 (r_fieldB (r := 3) fl_49_3 rfl rfl rfl) (wanted_yes h33.fr rfl rfl rfl rfl (decide_eq_true e3)) rfl rfl fun a34 h34 => wl_val h34 (r_ldb (i := 0) ti_3 rfl rfl rfl rfl) (wanted_yes h34.fr rfl rfl rfl rfl (decide_eq_true e3)) rfl rfl fun a35 h35 => wl_val h35 (r_eqlN (p := n1) (q := n2) rfl rfl rfl) (wanted_yes h35.fr rfl rfl rfl rfl (decide_eq_true e3)) rfl rfl fun a36 h36 => wv h36 (r_pickT rfl rfl (decide_eq_true e3) rfl) rfl rfl fun a37 h37 => wms 1 h37 rfl fun a38 h38 => wpList_nil <| hK20 _ _ ?_; clear h29 h30 h31 h32 h33 h34 h35 h36 h37
 have h39 : St 35 (fun _ => False) W a38 w18 [(4, .bool (decide (n1 = n2)))] [.blk b4 49 [p2.v, .int .i64 s2, w2.v, .int .i64 ((n2 : Nat) : Int)], .blk b3 49 [p1.v, .int .i64 s1, w1.v, .int .i64 ((n1 : Nat) : Int)], .at_ p1, .at_ w1, .at_ p2, .at_ w2] := h38.nrm ⟨rfl, trivial⟩ [0, 1, 2, 3, 4, 5] (by decide) ⟨rfl, rfl, rfl, rfl, rfl, rfl, trivial⟩
 clear h38
 refine wp_ret ?_
 try simp only [Exit.then, Exit.inBlock]
 refine x_ret1 (fn := Try.f34) (t := 4) rfl h39 rfl <| ⟨?_, (h39.sh.sel [] (by decide) trivial)⟩
 first | rfl | (congr 1; assumption) | (congr 1; exact decide_eq_true e4)

set_option maxRecDepth 100000 in
set_option maxHeartbeats 1000000 in
theorem tnone_c (W : World) :
    Rets Try.prog 32 [.agg #[(.slice none 0 0), .int .i64 0, (.slice none 0 0), .int .i64 0]] W (fun v w' => v = .bool true ∧ Sh0 W w' []) := by
 refine x_enter (N := 21) Try.func32 rfl Try.ntmps32 (Nat.le_of_ble_eq_true rfl) fun a1 hf1 => ?_
 have h1 : St 21 (fun _ => False) W a1 W [(0, .agg #[(.slice none 0 0), .int .i64 0, (.slice none 0 0), .int .i64 0])] [] := ⟨hf1.sub ⟨rfl, trivial⟩, Sh0.start _⟩
 clear hf1
 refine wp_seq_k fun K2 hK2 => wp_region_lit <| wl_ex (x_box (cs := [(.slice none 0 0), .int .i64 0, (.slice none 0 0), .int .i64 0]) h1 rfl rfl rfl rfl rfl) (wanted_none rfl _) ?_
 rintro a3 w3 ⟨b3, h3⟩; clear h1
 refine wms 1 h3 rfl fun a4 h4 => wpList_nil <| hK2 _ _ <| wp_seq_k fun K5 hK5 => wp_region_lit <| wv h4 (r_fieldB (r := 0) fl_49_0 rfl rfl rfl) rfl rfl fun a6 h6 => wv h6 (r_ldb (i := 0) ti_23 rfl rfl rfl rfl) rfl rfl fun a7 h7 => ?_; clear h3 h4 h6
 have hl8 : ([]).length ≤ 140737488355328 := (Sh.nilAt (α := Int) h7.sh).len
 refine wv h7 (r_len (s := (⟨.slice none 0 0, []⟩ : Ls Int)) (n := ([]).length) sl_23 rfl rfl (fun w h => (Sh.nilAt (α := Int) h)) rfl) rfl rfl fun a9 h9 => wv h9 (r_fieldB (r := 2) fl_49_2 rfl rfl rfl) rfl rfl fun a10 h10 => wv h10 (r_ldb (i := 0) ti_23 rfl rfl rfl rfl) rfl rfl fun a11 h11 => wv h11 (r_len (s := (⟨.slice none 0 0, []⟩ : Ls Int)) (n := ([]).length) sl_23 rfl rfl (fun w h => (Sh.nilAt (α := Int) h)) rfl) rfl rfl fun a12 h12 => wv h12 (r_addN (p := ([]).length) (q := ([]).length) rfl rfl rfl (show (([]).length) + (([]).length) < 9223372036854775808 from (by first | omega | (simp only [lens9]; omega)))) rfl rfl fun a13 h13 => wv h13 (r_eqlN (p := (([]).length) + (([]).length)) (q := 0) rfl rfl rfl) rfl rfl fun a14 h14 => wms 1 h14 rfl fun a15 h15 => wl_val h15 (r_fieldB (r := 1) fl_49_1 rfl rfl rfl) (wanted_yes h15.fr rfl rfl rfl rfl (decide_eq_true rfl)) rfl rfl fun a16 h16 => wl_val h16 (r_ldb (i := 0) ti_3 rfl rfl rfl rfl) (wanted_yes h16.fr rfl rfl rfl rfl (decide_eq_true rfl)) rfl rfl fun a17 h17 => wl_val h17 (r_eqlN (p := 0) (q := 0) rfl rfl rfl) (wanted_yes h17.fr rfl rfl rfl rfl (decide_eq_true rfl)) rfl rfl fun a18 h18 => wv h18 (r_pickT rfl rfl (decide_eq_true rfl) rfl) rfl rfl fun a19 h19 => wms 1 h19 rfl fun a20 h20 => wl_val h20 (r_fieldB (r := 3) fl_49_3 rfl rfl rfl) (wanted_yes h20.fr rfl rfl rfl rfl (by decide)) rfl rfl fun a21 h21 => wl_val h21 (r_ldb (i := 0) ti_3 rfl rfl rfl rfl) (wanted_yes h21.fr rfl rfl rfl rfl (by decide)) rfl rfl fun a22 h22 => ?_; clear h7 h9 h10 h11 h12 h13 h14 h15 h16 h17 h18 h19 h20 h21
 refine wl_val h22 (r_eqlN (p := 0) (q := 0) rfl rfl rfl) (wanted_yes h22.fr rfl rfl rfl rfl (by decide)) rfl rfl fun a23 h23 => wv h23 (r_pickT rfl rfl (by decide) rfl) rfl rfl fun a24 h24 => wms 1 h24 rfl fun a25 h25 => wpList_nil <| hK5 _ _ <| wp_ret ?_; clear h22 h23 h24
 try simp only [Exit.then, Exit.inBlock]
 refine x_ret1 (fn := Try.f32) (t := 2) rfl h25 rfl <| ⟨?_, (h25.sh.sel [] (by decide) trivial)⟩
 first | rfl | (congr 1; exact decide_eq_true rfl)

set_option maxRecDepth 100000 in
set_option maxHeartbeats 8000000 in
theorem psoRuns_v (code : Ls (Ls Ins)) (words script : Ls Int) (locks regs : Int) (W : World) (hcode : code.At W) (hwords : words.At W) (hscript : script.At W) (hv : vastG (code.l.map (·.l)) words.l = true) :
    Rets Try.prog 11 [.agg #[code.v, words.v, .int .i64 locks, .int .i64 regs], script.v] W (fun v w' => v = .bool true ∧ Sh0 W w' []) := by
 refine x_enter (N := 44) Try.func11 rfl Try.ntmps11 (Nat.le_of_ble_eq_true rfl) fun a1 hf1 => ?_
 have h1 : St 44 (fun _ => False) W a1 W [(0, .agg #[code.v, words.v, .int .i64 locks, .int .i64 regs]), (1, script.v)] [.at_ code, .at_ words, .at_ script] := ⟨hf1.sub ⟨rfl, rfl, trivial⟩, Sh0.ext3 hcode hwords hscript⟩
 clear hf1
 refine wp_seq_k fun K2 hK2 => wp_region_lit <| wl_ex (x_box (cs := [code.v, words.v, .int .i64 locks, .int .i64 regs]) h1 rfl rfl rfl rfl rfl) (wanted_none rfl _) ?_
 rintro a3 w3 ⟨b3, h3⟩; clear h1
 refine wms 1 h3 rfl fun a4 h4 => wpList_nil <| hK2 _ _ <| wp_seq_k fun K5 hK5 => wp_seq_k fun K6 hK6 => wp_region_lit <| wv h4 (r_ldbw (i := 0) (vs := [code.v, words.v, .int .i64 locks, .int .i64 regs]) ti_25 rfl rfl rfl rfl rfl) rfl rfl fun a7 h7 => wl_ex (x_call h7 bd_18 rfl rfl rfl rfl rfl (vast_c (code := code) (words := words) (locks := locks) (regs := regs) (h7.sh.at 1 rfl) (h7.sh.at 2 rfl))) (wanted_none rfl _) ?_; clear h3 h4
 rintro a8 w8 ⟨_, ⟨rfl, hs8⟩, hf8⟩
 have h8 : St 44 (fun _ => False) W a8 w8 _ _ := ⟨hf8, h7.sh.call0 hs8⟩
 clear hf8 hs8
 clear h7
 refine wpList_nil <| hK6 _ _ <| x_condT h8 rfl hv <| wp_seq_k fun K9 hK9 => wp_region_lit <| wms 1 h8 rfl fun a10 h10 => wpList_nil <| hK9 _ _ <| wp_ret ?_; clear h8
 try simp only [Exit.then, Exit.inBlock]
 refine x_ret1 (fn := Try.f11) (t := 4) rfl h10 rfl ?_
 exact ⟨rfl, (h10.sh.sel [] (by decide) trivial)⟩

set_option maxRecDepth 100000 in
set_option maxHeartbeats 8000000 in
theorem psoRuns_b (code : Ls (Ls Ins)) (words script : Ls Int) (locks regs : Int) (W : World) (hcode : code.At W) (hwords : words.At W) (hscript : script.At W) (hv : vastG (code.l.map (·.l)) words.l = false) (hz : (checkG (pgOf code words locks regs)).code ≠ 0) :
    Rets Try.prog 11 [.agg #[code.v, words.v, .int .i64 locks, .int .i64 regs], script.v] W (fun v w' => v = .bool true ∧ Sh0 W w' []) := by
 refine x_enter (N := 44) Try.func11 rfl Try.ntmps11 (Nat.le_of_ble_eq_true rfl) fun a1 hf1 => ?_
 have h1 : St 44 (fun _ => False) W a1 W [(0, .agg #[code.v, words.v, .int .i64 locks, .int .i64 regs]), (1, script.v)] [.at_ code, .at_ words, .at_ script] := ⟨hf1.sub ⟨rfl, rfl, trivial⟩, Sh0.ext3 hcode hwords hscript⟩
 clear hf1
 refine wp_seq_k fun K2 hK2 => wp_region_lit <| wl_ex (x_box (cs := [code.v, words.v, .int .i64 locks, .int .i64 regs]) h1 rfl rfl rfl rfl rfl) (wanted_none rfl _) ?_
 rintro a3 w3 ⟨b3, h3⟩; clear h1
 refine wms 1 h3 rfl fun a4 h4 => wpList_nil <| hK2 _ _ <| wp_seq_k fun K5 hK5 => wp_seq_k fun K6 hK6 => wp_region_lit <| wv h4 (r_ldbw (i := 0) (vs := [code.v, words.v, .int .i64 locks, .int .i64 regs]) ti_25 rfl rfl rfl rfl rfl) rfl rfl fun a7 h7 => wl_ex (x_call h7 bd_18 rfl rfl rfl rfl rfl (vast_c (code := code) (words := words) (locks := locks) (regs := regs) (h7.sh.at 1 rfl) (h7.sh.at 2 rfl))) (wanted_none rfl _) ?_; clear h3 h4
 rintro a8 w8 ⟨_, ⟨rfl, hs8⟩, hf8⟩
 have h8 : St 44 (fun _ => False) W a8 w8 _ _ := ⟨hf8, h7.sh.call0 hs8⟩
 clear hf8 hs8
 clear h7
 refine wpList_nil <| hK6 _ _ <| x_condF h8 rfl hv <| wp_skip <| hK5 _ _ <| wp_seq_k fun K9 hK9 => wp_region_lit <| wv h8 (r_ldbw (i := 0) (vs := [code.v, words.v, .int .i64 locks, .int .i64 regs]) ti_25 rfl rfl rfl rfl rfl) rfl rfl fun a10 h10 => wms 1 h10 rfl fun a11 h11 => wl_ex (x_call h11 bd_38 rfl rfl rfl rfl rfl (psoRun_b code words script locks regs _ (h11.sh.at 1 rfl) (h11.sh.at 2 rfl) (h11.sh.at 3 rfl) hz)) (wanted_none rfl _) ?_; clear h8 h10
 rintro a12 w12 ⟨_, ⟨rfl, hs12⟩, hf12⟩
 have h12 : St 44 (fun _ => False) W a12 w12 _ _ := ⟨hf12, h11.sh.call0 hs12⟩
 clear hf12 hs12
 clear h11
 refine wms 1 h12 rfl fun a13 h13 => wv h13 (r_extract rfl rfl rfl) rfl rfl fun a14 h14 => wv h14 (r_extract rfl rfl rfl) rfl rfl fun a15 h15 => wl_ex (x_alloc h15 ti_49 rfl rfl rfl) (wanted_none rfl _) ?_; clear h12 h13 h14
 rintro a16 w16 ⟨b16, h16⟩; clear h15
 refine wl_ex (x_alloc h16 ti_28 rfl rfl rfl) (wanted_none rfl _) ?_
 rintro a17 w17 ⟨b17, h17⟩; clear h16
 refine wl_ex (x_stb (i := 1) (vs := [(.slice none 0 0), .int .i64 0, (.slice none 0 0), .int .i64 0]) (cs' := [(.slice none 0 0), .int .i64 0, (.slice none 0 0), .int .i64 0]) h17 ti_49 rfl rfl rfl rfl rfl rfl rfl (allOne_cons ((Sh.nilAt (α := Int) h17.sh)).one (allOne_cons rfl (allOne_cons ((Sh.nilAt (α := Int) h17.sh)).one (allOne_cons rfl allOne_nil)))) (Nat.le_of_ble_eq_true rfl) rfl) (wanted_none rfl _) ?_
 rintro a18 w18 h18
 clear h17
 refine wl_ex (x_stb (i := 0) (vs := [.int .i64 ((checkG (pgOf code words locks regs)).code), .int .i64 ((checkG (pgOf code words locks regs)).thread), .int .i64 ((checkG (pgOf code words locks regs)).at_)]) (cs' := [.int .i64 ((checkG (pgOf code words locks regs)).code), .int .i64 ((checkG (pgOf code words locks regs)).thread), .int .i64 ((checkG (pgOf code words locks regs)).at_)]) h18 ti_28 rfl rfl rfl rfl rfl rfl rfl (allOne_cons rfl (allOne_cons rfl (allOne_cons rfl allOne_nil))) (Nat.le_of_ble_eq_true rfl) rfl) (wanted_none rfl _) ?_
 rintro a19 w19 h19
 clear h18
 refine wpList_nil <| hK9 _ _ <| wp_seq_k fun K20 hK20 => wp_region_lit <| wv h19 (r_ldbw (i := 2) (vs := [code.v, words.v, .int .i64 locks, .int .i64 regs]) ti_25 rfl rfl rfl rfl rfl) rfl rfl fun a21 h21 => wl_ex (x_call h21 bd_20 rfl rfl rfl rfl rfl (refCheck_c (code := code) (words := words) (locks := locks) (regs := regs) (h21.sh.at 3 rfl) (h21.sh.at 4 rfl))) (wanted_none rfl _) ?_; clear h19
 rintro a22 w22 ⟨_, ⟨rfl, hs22⟩, hf22⟩
 have h22 : St 44 (fun _ => False) W a22 w22 _ _ := ⟨hf22, h21.sh.call0 hs22⟩
 clear hf22 hs22
 clear h21
 refine wl_ex (x_alloc h22 ti_28 rfl rfl rfl) (wanted_none rfl _) ?_
 rintro a23 w23 ⟨b23, h23⟩; clear h22
 refine wl_ex (x_stb (i := 0) (vs := [.int .i64 ((checkG (pgOf code words locks regs)).code), .int .i64 ((checkG (pgOf code words locks regs)).thread), .int .i64 ((checkG (pgOf code words locks regs)).at_)]) (cs' := [.int .i64 ((checkG (pgOf code words locks regs)).code), .int .i64 ((checkG (pgOf code words locks regs)).thread), .int .i64 ((checkG (pgOf code words locks regs)).at_)]) h23 ti_28 rfl rfl rfl rfl rfl rfl rfl (allOne_cons rfl (allOne_cons rfl (allOne_cons rfl allOne_nil))) (Nat.le_of_ble_eq_true rfl) rfl) (wanted_none rfl _) ?_
 rintro a24 w24 h24
 clear h23
 refine wpList_nil <| hK20 _ _ <| wp_seq_k fun K25 hK25 => wp_seq_k fun K26 hK26 => wp_region_lit <| wv h24 (r_fieldB (r := 0) fl_28_0 rfl rfl rfl) rfl rfl fun a27 h27 => wv h27 (r_ldb (i := 0) ti_26 rfl rfl rfl rfl) rfl rfl fun a28 h28 => wv h28 (r_neqI (p := (checkG (pgOf code words locks regs)).code) (q := 0) rfl rfl rfl) rfl rfl fun a29 h29 => wpList_nil <| hK26 _ _ <| x_condT h29 rfl (decide_eq_true hz) <| wp_seq_k fun K30 hK30 => wp_region_lit <| wv h29 (r_ldbw (i := 2) (vs := [(.slice none 0 0), .int .i64 0, (.slice none 0 0), .int .i64 0]) ti_49 rfl rfl rfl rfl rfl) rfl rfl fun a31 h31 => ?_; clear h24 h27 h28 h29
 refine wl_ex (x_call h31 bd_32 rfl rfl rfl rfl rfl (tnone_c _)) (wanted_none rfl _) ?_
 rintro a32 w32 ⟨_, ⟨rfl, hs32⟩, hf32⟩
 have h32 : St 44 (fun _ => False) W a32 w32 _ _ := ⟨hf32, h31.sh.call0 hs32⟩
 clear hf32 hs32
 clear h31
 refine wms 1 h32 rfl fun a33 h33 => wpList_nil <| hK30 _ _ <| wp_seq_k fun K34 hK34 => wp_region_lit <| wv h33 (r_ldbw (i := 1) (vs := [.int .i64 ((checkG (pgOf code words locks regs)).code), .int .i64 ((checkG (pgOf code words locks regs)).thread), .int .i64 ((checkG (pgOf code words locks regs)).at_)]) ti_28 rfl rfl rfl rfl rfl) rfl rfl fun a35 h35 => wv h35 (r_ldbw (i := 0) (vs := [.int .i64 ((checkG (pgOf code words locks regs)).code), .int .i64 ((checkG (pgOf code words locks regs)).thread), .int .i64 ((checkG (pgOf code words locks regs)).at_)]) ti_28 rfl rfl rfl rfl rfl) rfl rfl fun a36 h36 => wv h36 (r_eqS rfl rfl rfl (fun w => eq_fltG _ _ ⟨(checkG (pgOf code words locks regs)).code, (checkG (pgOf code words locks regs)).thread, (checkG (pgOf code words locks regs)).at_⟩ ⟨(checkG (pgOf code words locks regs)).code, (checkG (pgOf code words locks regs)).thread, (checkG (pgOf code words locks regs)).at_⟩ w) (fun w => eq_flt ⟨(checkG (pgOf code words locks regs)).code, (checkG (pgOf code words locks regs)).thread, (checkG (pgOf code words locks regs)).at_⟩ ⟨(checkG (pgOf code words locks regs)).code, (checkG (pgOf code words locks regs)).thread, (checkG (pgOf code words locks regs)).at_⟩ w)) rfl rfl fun a37 h37 => wms 1 h37 rfl fun a38 h38 => wl_val h38 (r_move rfl rfl) (wanted_yes h38.fr rfl rfl rfl rfl (decide_eq_true rfl)) rfl rfl fun a39 h39 => wv h39 (r_pickT rfl rfl (decide_eq_true rfl) rfl) rfl rfl fun a40 h40 => wms 1 h40 rfl fun a41 h41 => wpList_nil <| hK34 _ _ ?_; clear h32 h33 h35 h36 h37 h38 h39 h40
 have h42 : St 44 (fun _ => False) W a41 w32 [(4, .bool true)] [.blk b23 28 [.int .i64 ((checkG (pgOf code words locks regs)).code), .int .i64 ((checkG (pgOf code words locks regs)).thread), .int .i64 ((checkG (pgOf code words locks regs)).at_)], .blk b17 28 [.int .i64 ((checkG (pgOf code words locks regs)).code), .int .i64 ((checkG (pgOf code words locks regs)).thread), .int .i64 ((checkG (pgOf code words locks regs)).at_)], .blk b16 49 [(.slice none 0 0), .int .i64 0, (.slice none 0 0), .int .i64 0], .blk b3 25 [code.v, words.v, .int .i64 locks, .int .i64 regs], .at_ code, .at_ words, .at_ script] := h41.nrm ⟨rfl, trivial⟩ [0, 1, 2, 3, 4, 5, 6] (by decide) ⟨rfl, rfl, rfl, rfl, rfl, rfl, rfl, trivial⟩
 clear h41
 refine wp_ret ?_
 try simp only [Exit.then, Exit.inBlock]
 refine x_ret1 (fn := Try.f11) (t := 4) rfl h42 rfl ?_
 exact ⟨rfl, (h42.sh.sel [] (by decide) trivial)⟩

set_option maxRecDepth 100000 in
set_option maxHeartbeats 8000000 in
theorem psoRuns_k (code : Ls (Ls Ins)) (words script : Ls Int) (Lk R : Nat) (W : World) (hcode : code.At W) (hwords : words.At W) (hscript : script.At W) (hv : vastG (code.l.map (·.l)) words.l = false) (hok : OkPg (pgN code words Lk R)) :
    Rets Try.prog 11 [.agg #[code.v, words.v, .int .i64 ((Lk : Nat) : Int), .int .i64 ((R : Nat) : Int)], script.v] W (fun v w' => v = .bool true ∧ Sh0 W w' []) := by
 have hz : checkG (pgOf code words ((Lk : Nat) : Int) ((R : Nat) : Int)) = ⟨0, 0, 0⟩ := checkG_ok hok
 refine x_enter (N := 44) Try.func11 rfl Try.ntmps11 (Nat.le_of_ble_eq_true rfl) fun a1 hf1 => ?_
 have h1 : St 44 (fun _ => False) W a1 W [(0, .agg #[code.v, words.v, .int .i64 ((Lk : Nat) : Int), .int .i64 ((R : Nat) : Int)]), (1, script.v)] [.at_ code, .at_ words, .at_ script] := ⟨hf1.sub ⟨rfl, rfl, trivial⟩, Sh0.ext3 hcode hwords hscript⟩
 clear hf1
 refine wp_seq_k fun K2 hK2 => wp_region_lit <| wl_ex (x_box (cs := [code.v, words.v, .int .i64 ((Lk : Nat) : Int), .int .i64 ((R : Nat) : Int)]) h1 rfl rfl rfl rfl rfl) (wanted_none rfl _) ?_
 rintro a3 w3 ⟨b3, h3⟩; clear h1
 refine wms 1 h3 rfl fun a4 h4 => wpList_nil <| hK2 _ _ <| wp_seq_k fun K5 hK5 => wp_seq_k fun K6 hK6 => wp_region_lit <| wv h4 (r_ldbw (i := 0) (vs := [code.v, words.v, .int .i64 ((Lk : Nat) : Int), .int .i64 ((R : Nat) : Int)]) ti_25 rfl rfl rfl rfl rfl) rfl rfl fun a7 h7 => wl_ex (x_call h7 bd_18 rfl rfl rfl rfl rfl (vast_c (code := code) (words := words) (locks := ((Lk : Nat) : Int)) (regs := ((R : Nat) : Int)) (h7.sh.at 1 rfl) (h7.sh.at 2 rfl))) (wanted_none rfl _) ?_; clear h3 h4
 rintro a8 w8 ⟨_, ⟨rfl, hs8⟩, hf8⟩
 have h8 : St 44 (fun _ => False) W a8 w8 _ _ := ⟨hf8, h7.sh.call0 hs8⟩
 clear hf8 hs8
 clear h7
 refine wpList_nil <| hK6 _ _ <| x_condF h8 rfl hv <| wp_skip <| hK5 _ _ <| wp_seq_k fun K9 hK9 => wp_region_lit <| wv h8 (r_ldbw (i := 0) (vs := [code.v, words.v, .int .i64 ((Lk : Nat) : Int), .int .i64 ((R : Nat) : Int)]) ti_25 rfl rfl rfl rfl rfl) rfl rfl fun a10 h10 => wms 1 h10 rfl fun a11 h11 => wl_ex (x_call h11 bd_38 rfl rfl rfl rfl rfl (psoRun_k code words script Lk R _ (h11.sh.at 1 rfl) (h11.sh.at 2 rfl) (h11.sh.at 3 rfl) hok)) (wanted_none rfl _) ?_; clear h8 h10
 rintro a12 w12 ⟨_, ⟨pr12, wd12, st12, sn12, rfl, hrun12, hs12⟩, hf12⟩
 have h12 := (⟨hf12, h11.sh.call hs12 (by intro A hA b hb; first | (simp at hA; done) | (simp at hA; subst hA; first | exact Flat.noRd hb | exact (hb : False).elim) | (simp at hA; rcases hA with rfl | rfl <;> first | exact Flat.noRd hb | exact (hb : False).elim))⟩ : St 44 (fun _ => False) W a12 w12 _ _)
 clear hf12 hs12
 clear h11
 refine wms 1 h12 rfl fun a13 h13 => wv h13 (r_extract rfl rfl rfl) rfl rfl fun a14 h14 => wv h14 (r_extract rfl rfl rfl) rfl rfl fun a15 h15 => wl_ex (x_alloc h15 ti_49 rfl rfl rfl) (wanted_none rfl _) ?_; clear h12 h13 h14
 rintro a16 w16 ⟨b16, h16⟩; clear h15
 refine wl_ex (x_alloc h16 ti_28 rfl rfl rfl) (wanted_none rfl _) ?_
 rintro a17 w17 ⟨b17, h17⟩; clear h16
 refine wl_ex (x_stb (i := 1) (vs := [pr12.v, .int .i64 st12, wd12.v, .int .i64 ((sn12 : Nat) : Int)]) (cs' := [pr12.v, .int .i64 st12, wd12.v, .int .i64 ((sn12 : Nat) : Int)]) h17 ti_49 rfl rfl rfl rfl rfl rfl rfl (allOne_cons ((h17.sh.own 2 rfl)).one (allOne_cons rfl (allOne_cons ((h17.sh.own 3 rfl)).one (allOne_cons rfl allOne_nil)))) (Nat.le_of_ble_eq_true rfl) rfl) (wanted_none rfl _) ?_
 rintro a18 w18 h18
 clear h17
 refine wl_ex (x_stb (i := 0) (vs := [.int .i64 0, .int .i64 0, .int .i64 0]) (cs' := [.int .i64 0, .int .i64 0, .int .i64 0]) h18 ti_28 rfl rfl rfl rfl rfl rfl rfl (allOne_cons rfl (allOne_cons rfl (allOne_cons rfl allOne_nil))) (Nat.le_of_ble_eq_true rfl) rfl) (wanted_none rfl _) ?_
 rintro a19 w19 h19
 clear h18
 refine wpList_nil <| hK9 _ _ <| wp_seq_k fun K20 hK20 => wp_region_lit <| wv h19 (r_ldbw (i := 4) (vs := [code.v, words.v, .int .i64 ((Lk : Nat) : Int), .int .i64 ((R : Nat) : Int)]) ti_25 rfl rfl rfl rfl rfl) rfl rfl fun a21 h21 => wl_ex (x_call h21 bd_20 rfl rfl rfl rfl rfl (refCheck_c (code := code) (words := words) (locks := ((Lk : Nat) : Int)) (regs := ((R : Nat) : Int)) (h21.sh.at 5 rfl) (h21.sh.at 6 rfl))) (wanted_none rfl _) ?_; clear h19
 rintro a22 w22 ⟨_, ⟨rfl, hs22⟩, hf22⟩
 have h22 : St 44 (fun _ => False) W a22 w22 _ _ := ⟨hf22, h21.sh.call0 hs22⟩
 clear hf22 hs22
 clear h21
 refine wl_ex (x_alloc h22 ti_28 rfl rfl rfl) (wanted_none rfl _) ?_
 rintro a23 w23 ⟨b23, h23⟩; clear h22
 refine wl_ex (x_stb (i := 0) (vs := [.int .i64 ((checkG (pgOf code words ((Lk : Nat) : Int) ((R : Nat) : Int))).code), .int .i64 ((checkG (pgOf code words ((Lk : Nat) : Int) ((R : Nat) : Int))).thread), .int .i64 ((checkG (pgOf code words ((Lk : Nat) : Int) ((R : Nat) : Int))).at_)]) (cs' := [.int .i64 ((checkG (pgOf code words ((Lk : Nat) : Int) ((R : Nat) : Int))).code), .int .i64 ((checkG (pgOf code words ((Lk : Nat) : Int) ((R : Nat) : Int))).thread), .int .i64 ((checkG (pgOf code words ((Lk : Nat) : Int) ((R : Nat) : Int))).at_)]) h23 ti_28 rfl rfl rfl rfl rfl rfl rfl (allOne_cons rfl (allOne_cons rfl (allOne_cons rfl allOne_nil))) (Nat.le_of_ble_eq_true rfl) rfl) (wanted_none rfl _) ?_
 rintro a24 w24 h24
 clear h23
 refine wpList_nil <| hK20 _ _ <| wp_seq_k fun K25 hK25 => wp_seq_k fun K26 hK26 => wp_region_lit <| wv h24 (r_fieldB (r := 0) fl_28_0 rfl rfl rfl) rfl rfl fun a27 h27 => wv h27 (r_ldb (i := 0) ti_26 rfl rfl rfl rfl) rfl rfl fun a28 h28 => wv h28 (r_neqI (p := (checkG (pgOf code words ((Lk : Nat) : Int) ((R : Nat) : Int))).code) (q := 0) rfl rfl rfl) rfl rfl fun a29 h29 => wpList_nil <| hK26 _ _ <| x_condF h29 rfl (by rw [hz]; rfl) ?_; clear h24 h27 h28
 refine wp_skip <| hK25 _ _ <| wp_seq_k fun K30 hK30 => wp_region_lit <| wv h29 (r_ldbw (i := 5) (vs := [code.v, words.v, .int .i64 ((Lk : Nat) : Int), .int .i64 ((R : Nat) : Int)]) ti_25 rfl rfl rfl rfl rfl) rfl rfl fun a31 h31 => wms 1 h31 rfl fun a32 h32 => wl_ex (x_call h32 bd_33 rfl rfl rfl rfl rfl (run_c code words script Lk R 2 _ (h32.sh.at 6 rfl) (h32.sh.at 7 rfl) (h32.sh.at 8 rfl) hok)) (wanted_none rfl _) ?_; clear h29 h31
 rintro a33 w33 ⟨_, ⟨pr33, wd33, st33, sn33, rfl, hrun33, hs33⟩, hf33⟩
 have h33 := (⟨hf33, h32.sh.call hs33 (by intro A hA b hb; first | (simp at hA; done) | (simp at hA; subst hA; first | exact Flat.noRd hb | exact (hb : False).elim) | (simp at hA; rcases hA with rfl | rfl <;> first | exact Flat.noRd hb | exact (hb : False).elim))⟩ : St 44 (fun _ => False) W a33 w33 _ _)
 clear hf33 hs33
 clear h32
 refine wl_ex (x_alloc h33 ti_49 rfl rfl rfl) (wanted_none rfl _) ?_
 rintro a34 w34 ⟨b34, h34⟩; clear h33
 refine wl_ex (x_stb (i := 0) (vs := [pr33.v, .int .i64 st33, wd33.v, .int .i64 ((sn33 : Nat) : Int)]) (cs' := [pr33.v, .int .i64 st33, wd33.v, .int .i64 ((sn33 : Nat) : Int)]) h34 ti_49 rfl rfl rfl rfl rfl rfl rfl (allOne_cons ((h34.sh.own 1 rfl)).one (allOne_cons rfl (allOne_cons ((h34.sh.own 2 rfl)).one (allOne_cons rfl allOne_nil)))) (Nat.le_of_ble_eq_true rfl) rfl) (wanted_none rfl _) ?_
 rintro a35 w35 h35
 clear h34
 refine wpList_nil <| hK30 _ _ <| wp_seq_k fun K36 hK36 => wp_region_lit <| wv h35 (r_ldbw (i := 5) (vs := [pr12.v, .int .i64 st12, wd12.v, .int .i64 ((sn12 : Nat) : Int)]) ti_49 rfl rfl rfl rfl rfl) rfl rfl fun a37 h37 => wv h37 (r_ldbw (i := 0) (vs := [pr33.v, .int .i64 st33, wd33.v, .int .i64 ((sn33 : Nat) : Int)]) ti_49 rfl rfl rfl rfl rfl) rfl rfl fun a38 h38 => ?_; clear h35 h37
 have htr := (hrun12).symm.trans hrun33
 simp only [TrM.mk.injEq] at htr
 refine wl_ex (x_call h38 bd_34 rfl rfl rfl rfl rfl (traces_c pr12 wd12 pr33 wd33 st12 st33 sn12 sn33 _ (h38.sh.own 6 rfl) (h38.sh.own 7 rfl) (h38.sh.own 1 rfl) (h38.sh.own 2 rfl) htr.2.2.2 htr.2.2.1 htr.1 htr.2.1)) (wanted_none rfl _) ?_
 rintro a39 w39 ⟨_, ⟨rfl, hs39⟩, hf39⟩
 have h39 : St 44 (fun _ => False) W a39 w39 _ _ := ⟨hf39, h38.sh.call0 hs39⟩
 clear hf39 hs39
 clear h38
 refine wms 1 h39 rfl fun a40 h40 => wpList_nil <| hK36 _ _ ?_; clear h39
 have h41 : St 44 (fun _ => False) W a40 w39 [(6, .pointer (some ⟨b17, 0, none⟩)), (10, .bool true)] [.blk b34 49 [pr33.v, .int .i64 st33, wd33.v, .int .i64 ((sn33 : Nat) : Int)], .own 3 pr33, .own 3 wd33, .blk b23 28 [.int .i64 ((checkG (pgOf code words ((Lk : Nat) : Int) ((R : Nat) : Int))).code), .int .i64 ((checkG (pgOf code words ((Lk : Nat) : Int) ((R : Nat) : Int))).thread), .int .i64 ((checkG (pgOf code words ((Lk : Nat) : Int) ((R : Nat) : Int))).at_)], .blk b17 28 [.int .i64 0, .int .i64 0, .int .i64 0], .blk b16 49 [pr12.v, .int .i64 st12, wd12.v, .int .i64 ((sn12 : Nat) : Int)], .own 3 pr12, .own 3 wd12, .blk b3 25 [code.v, words.v, .int .i64 ((Lk : Nat) : Int), .int .i64 ((R : Nat) : Int)], .at_ code, .at_ words, .at_ script] := h40.nrm ⟨rfl, rfl, trivial⟩ [0, 1, 2, 3, 4, 5, 6, 7, 8, 9, 10, 11] (by decide) ⟨rfl, rfl, rfl, rfl, rfl, rfl, rfl, rfl, rfl, rfl, rfl, rfl, trivial⟩
 clear h40
 refine wp_seq_k fun K42 hK42 => wp_region_lit <| wv h41 (r_fieldB (r := 0) fl_28_0 rfl rfl rfl) rfl rfl fun a43 h43 => wv h43 (r_ldb (i := 4) ti_26 rfl rfl rfl rfl) rfl rfl fun a44 h44 => wv h44 (r_eqlN (p := 0) (q := 0) rfl rfl rfl) rfl rfl fun a45 h45 => wms 1 h45 rfl fun a46 h46 => wl_val h46 (r_move rfl rfl) (wanted_yes h46.fr rfl rfl rfl rfl (by decide)) rfl rfl fun a47 h47 => wv h47 (r_pickT rfl rfl (by decide) rfl) rfl rfl fun a48 h48 => wms 1 h48 rfl fun a49 h49 => wpList_nil <| hK42 _ _ <| wp_ret ?_; clear h41 h43 h44 h45 h46 h47 h48
 try simp only [Exit.then, Exit.inBlock]
 refine x_ret1 (fn := Try.f11) (t := 4) rfl h49 rfl ?_
 exact ⟨rfl, (h49.sh.sel [] (by decide) trivial)⟩

theorem psoRuns_any (code : Ls (Ls Ins)) (words script : Ls Int) (locks regs : Int) (W : World) (hcode : code.At W) (hwords : words.At W) (hscript : script.At W) : Rets Try.prog 11 [.agg #[code.v, words.v, .int .i64 locks, .int .i64 regs], script.v] W (fun v w' => v = .bool true ∧ Sh0 W w' []) := by
  cases hv : vastG (code.l.map (·.l)) words.l with
  | true => exact psoRuns_v code words script locks regs W hcode hwords hscript hv
  | false =>
    by_cases hok : OkPg (pgOf code words locks regs)
    · obtain ⟨Lk, rfl⟩ := Int.eq_ofNat_of_zero_le hok.locks.1
      obtain ⟨R, rfl⟩ := Int.eq_ofNat_of_zero_le (show 0 ≤ regs by have := hok.regs.1; have e : (pgOf code words (Lk : Int) regs).regs = regs := rfl; omega)
      exact psoRuns_k code words script Lk R W hcode hwords hscript hv hok
    · exact psoRuns_b code words script locks regs W hcode hwords hscript hv (fun h => hok (checkG_code_pos.1 h))
end Go.Proofs.Ytfpaahkleienoaa
