/-
  Registers given: the law.
-/
import Derived.Test.YtfpaahkleienoaaX80
import Derived.Test.YtfpaahkleienoaaX6
import Derived.Test.YtfpaahkleienoaaC2
namespace Go.Proofs.Ytfpaahkleienoaa
open Go.RowKit
set_option linter.unusedSimpArgs false
set_option linter.unusedVariables false

set_option maxRecDepth 100000 in
set_option maxHeartbeats 8000000 in
theorem allocApplies_v (code : Ls (Ls Ins)) (words : Ls Int) (locks regs : Int) (cols : Ls (Ls Int)) (W : World) (hcode : code.At W) (hwords : words.At W) (hcols : cols.At W) (hv : vastG (code.l.map (·.l)) words.l = true) :
    Rets Try.prog 4 [.agg #[code.v, words.v, .int .i64 locks, .int .i64 regs], cols.v] W (fun v w' => v = .bool true ∧ Sh0 W w' []) := by
 refine x_enter (N := 74) Try.func4 rfl Try.ntmps4 (Nat.le_of_ble_eq_true rfl) fun a1 hf1 => ?_
 have h1 : St 74 (fun _ => False) W a1 W [(0, .agg #[code.v, words.v, .int .i64 locks, .int .i64 regs]), (1, cols.v)] [.at_ code, .at_ words, .at_ cols] := ⟨hf1.sub ⟨rfl, rfl, trivial⟩, Sh0.ext3 hcode hwords hcols⟩
 clear hf1
 refine wp_seq_k fun K2 hK2 => wp_region_lit <| wl_ex (x_box (cs := [code.v, words.v, .int .i64 locks, .int .i64 regs]) h1 rfl rfl rfl rfl rfl) (wanted_none rfl _) ?_
 rintro a3 w3 ⟨b3, h3⟩; clear h1
 refine wms 1 h3 rfl fun a4 h4 => wpList_nil <| hK2 _ _ <| wp_seq_k fun K5 hK5 => wp_seq_k fun K6 hK6 => wp_region_lit <| wv h4 (r_ldbw (i := 0) (vs := [code.v, words.v, .int .i64 locks, .int .i64 regs]) ti_25 rfl rfl rfl rfl rfl) rfl rfl fun a7 h7 => wl_ex (x_call h7 bd_18 rfl rfl rfl rfl rfl (vast_c (code := code) (words := words) (locks := locks) (regs := regs) (h7.sh.at 1 rfl) (h7.sh.at 2 rfl))) (wanted_none rfl _) ?_; clear h3 h4
 rintro a8 w8 ⟨_, ⟨rfl, hs8⟩, hf8⟩
 have h8 : St 74 (fun _ => False) W a8 w8 _ _ := ⟨hf8, h7.sh.call0 hs8⟩
 clear hf8 hs8
 clear h7
 refine wms 1 h8 rfl fun a9 h9 => wl_skip h9 (wanted_no h9.fr rfl rfl rfl rfl hv) rfl rfl fun a10 h10 => wl_skip h10 (wanted_no h10.fr rfl rfl rfl rfl hv) rfl rfl fun a11 h11 => wl_skip h11 (wanted_no h11.fr rfl rfl rfl rfl hv) rfl rfl fun a12 h12 => wv h12 (r_pickT rfl rfl hv rfl) rfl rfl fun a13 h13 => wpList_nil <| hK6 _ _ <| x_condT h13 rfl rfl <| wp_seq_k fun K14 hK14 => wp_region_lit <| wms 1 h13 rfl fun a15 h15 => wpList_nil <| hK14 _ _ <| wp_ret ?_; clear h8 h9 h10 h11 h12 h13
 try simp only [Exit.then, Exit.inBlock]
 refine x_ret1 (fn := Try.f4) (t := 4) rfl h15 rfl ?_
 exact ⟨rfl, (h15.sh.sel [] (by decide) trivial)⟩

set_option maxRecDepth 100000 in
set_option maxHeartbeats 8000000 in
theorem allocApplies_n (code : Ls (Ls Ins)) (words : Ls Int) (locks regs : Int) (cols : Ls (Ls Int)) (W : World) (hcode : code.At W) (hwords : words.At W) (hcols : cols.At W) (hv : vastG (code.l.map (·.l)) words.l = false) (hc9 : 100 < cols.l.length) :
    Rets Try.prog 4 [.agg #[code.v, words.v, .int .i64 locks, .int .i64 regs], cols.v] W (fun v w' => v = .bool true ∧ Sh0 W w' []) := by
 refine x_enter (N := 74) Try.func4 rfl Try.ntmps4 (Nat.le_of_ble_eq_true rfl) fun a1 hf1 => ?_
 have h1 : St 74 (fun _ => False) W a1 W [(0, .agg #[code.v, words.v, .int .i64 locks, .int .i64 regs]), (1, cols.v)] [.at_ code, .at_ words, .at_ cols] := ⟨hf1.sub ⟨rfl, rfl, trivial⟩, Sh0.ext3 hcode hwords hcols⟩
 clear hf1
 refine wp_seq_k fun K2 hK2 => wp_region_lit <| wl_ex (x_box (cs := [code.v, words.v, .int .i64 locks, .int .i64 regs]) h1 rfl rfl rfl rfl rfl) (wanted_none rfl _) ?_
 rintro a3 w3 ⟨b3, h3⟩; clear h1
 refine wms 1 h3 rfl fun a4 h4 => wpList_nil <| hK2 _ _ <| wp_seq_k fun K5 hK5 => wp_seq_k fun K6 hK6 => wp_region_lit <| wv h4 (r_ldbw (i := 0) (vs := [code.v, words.v, .int .i64 locks, .int .i64 regs]) ti_25 rfl rfl rfl rfl rfl) rfl rfl fun a7 h7 => wl_ex (x_call h7 bd_18 rfl rfl rfl rfl rfl (vast_c (code := code) (words := words) (locks := locks) (regs := regs) (h7.sh.at 1 rfl) (h7.sh.at 2 rfl))) (wanted_none rfl _) ?_; clear h3 h4
 rintro a8 w8 ⟨_, ⟨rfl, hs8⟩, hf8⟩
 have h8 : St 74 (fun _ => False) W a8 w8 _ _ := ⟨hf8, h7.sh.call0 hs8⟩
 clear hf8 hs8
 clear h7
 refine wms 1 h8 rfl fun a9 h9 => wl_val h9 (r_move rfl rfl) (wanted_yes h9.fr rfl rfl rfl rfl hv) rfl rfl fun a10 h10 => ?_; clear h8 h9
 have hl11 : cols.l.length ≤ 140737488355328 := (h10.sh.at 3 rfl).len
 refine wl_val h10 (r_len (s := cols) (n := cols.l.length) sl_35 rfl rfl (fun w h => (h.at 3 rfl)) rfl) (wanted_yes h10.fr rfl rfl rfl rfl hv) rfl rfl fun a12 h12 => wl_val h12 (r_gtrN (p := cols.l.length) (q := 100) rfl rfl rfl) (wanted_yes h12.fr rfl rfl rfl rfl hv) rfl rfl fun a13 h13 => wv h13 (r_pickF rfl rfl hv rfl) rfl rfl fun a14 h14 => wpList_nil <| hK6 _ _ <| x_condT h14 rfl (decide_eq_true hc9) <| wp_seq_k fun K15 hK15 => wp_region_lit <| wms 1 h14 rfl fun a16 h16 => wpList_nil <| hK15 _ _ <| wp_ret ?_; clear h10 h12 h13 h14
 try simp only [Exit.then, Exit.inBlock]
 refine x_ret1 (fn := Try.f4) (t := 4) rfl h16 rfl ?_
 exact ⟨rfl, (h16.sh.sel [] (by decide) trivial)⟩

set_option maxRecDepth 100000 in
set_option maxHeartbeats 8000000 in
theorem allocApplies_b (code : Ls (Ls Ins)) (words : Ls Int) (locks regs : Int) (cols : Ls (Ls Int)) (W : World) (hcode : code.At W) (hwords : words.At W) (hcols : cols.At W) (hv : vastG (code.l.map (·.l)) words.l = false) (hc9 : cols.l.length ≤ 100) (hz : (checkG (pgOf code words locks regs)).code ≠ 0) :
    Rets Try.prog 4 [.agg #[code.v, words.v, .int .i64 locks, .int .i64 regs], cols.v] W (fun v w' => v = .bool true ∧ Sh0 W w' []) := by
 refine x_enter (N := 74) Try.func4 rfl Try.ntmps4 (Nat.le_of_ble_eq_true rfl) fun a1 hf1 => ?_
 have h1 : St 74 (fun _ => False) W a1 W [(0, .agg #[code.v, words.v, .int .i64 locks, .int .i64 regs]), (1, cols.v)] [.at_ code, .at_ words, .at_ cols] := ⟨hf1.sub ⟨rfl, rfl, trivial⟩, Sh0.ext3 hcode hwords hcols⟩
 clear hf1
 refine wp_seq_k fun K2 hK2 => wp_region_lit <| wl_ex (x_box (cs := [code.v, words.v, .int .i64 locks, .int .i64 regs]) h1 rfl rfl rfl rfl rfl) (wanted_none rfl _) ?_
 rintro a3 w3 ⟨b3, h3⟩; clear h1
 refine wms 1 h3 rfl fun a4 h4 => wpList_nil <| hK2 _ _ <| wp_seq_k fun K5 hK5 => wp_seq_k fun K6 hK6 => wp_region_lit <| wv h4 (r_ldbw (i := 0) (vs := [code.v, words.v, .int .i64 locks, .int .i64 regs]) ti_25 rfl rfl rfl rfl rfl) rfl rfl fun a7 h7 => wl_ex (x_call h7 bd_18 rfl rfl rfl rfl rfl (vast_c (code := code) (words := words) (locks := locks) (regs := regs) (h7.sh.at 1 rfl) (h7.sh.at 2 rfl))) (wanted_none rfl _) ?_; clear h3 h4
 rintro a8 w8 ⟨_, ⟨rfl, hs8⟩, hf8⟩
 have h8 : St 74 (fun _ => False) W a8 w8 _ _ := ⟨hf8, h7.sh.call0 hs8⟩
 clear hf8 hs8
 clear h7
 refine wms 1 h8 rfl fun a9 h9 => wl_val h9 (r_move rfl rfl) (wanted_yes h9.fr rfl rfl rfl rfl hv) rfl rfl fun a10 h10 => ?_; clear h8 h9
 have hl11 : cols.l.length ≤ 140737488355328 := (h10.sh.at 3 rfl).len
 refine wl_val h10 (r_len (s := cols) (n := cols.l.length) sl_35 rfl rfl (fun w h => (h.at 3 rfl)) rfl) (wanted_yes h10.fr rfl rfl rfl rfl hv) rfl rfl fun a12 h12 => wl_val h12 (r_gtrN (p := cols.l.length) (q := 100) rfl rfl rfl) (wanted_yes h12.fr rfl rfl rfl rfl hv) rfl rfl fun a13 h13 => wv h13 (r_pickF rfl rfl hv rfl) rfl rfl fun a14 h14 => wpList_nil <| hK6 _ _ <| x_condF h14 rfl (decide_eq_false (by omega)) <| wp_skip <| hK5 _ _ <| wp_seq_k fun K15 hK15 => wp_region_lit <| wv h14 (r_ldbw (i := 0) (vs := [code.v, words.v, .int .i64 locks, .int .i64 regs]) ti_25 rfl rfl rfl rfl rfl) rfl rfl fun a16 h16 => wms 1 h16 rfl fun a17 h17 => wl_ex (x_call h17 bd_19 rfl rfl rfl rfl rfl (apply_b code words locks regs cols _ (h17.sh.at 1 rfl) (h17.sh.at 2 rfl) (h17.sh.at 3 rfl) hz)) (wanted_none rfl _) ?_; clear h10 h12 h13 h14 h16
 rintro a18 w18 ⟨_, ⟨rfl, hs18⟩, hf18⟩
 have h18 : St 74 (fun _ => False) W a18 w18 _ _ := ⟨hf18, h17.sh.call0 hs18⟩
 clear hf18 hs18
 clear h17
 refine wms 1 h18 rfl fun a19 h19 => wv h19 (r_extract rfl rfl rfl) rfl rfl fun a20 h20 => wv h20 (r_extract rfl rfl rfl) rfl rfl fun a21 h21 => wl_ex (x_alloc h21 ti_25 rfl rfl rfl) (wanted_none rfl _) ?_; clear h18 h19 h20
 rintro a22 w22 ⟨b22, h22⟩; clear h21
 refine wl_ex (x_alloc h22 ti_28 rfl rfl rfl) (wanted_none rfl _) ?_
 rintro a23 w23 ⟨b23, h23⟩; clear h22
 refine wl_ex (x_stb (i := 1) (vs := [(.slice none 0 0), (.slice none 0 0), .int .i64 0, .int .i64 0]) (cs' := [(.slice none 0 0), (.slice none 0 0), .int .i64 0, .int .i64 0]) h23 ti_25 rfl rfl rfl rfl rfl rfl rfl (allOne_cons ((Sh.nilAt (α := Ls Ins) h23.sh)).one (allOne_cons ((Sh.nilAt (α := Int) h23.sh)).one (allOne_cons rfl (allOne_cons rfl allOne_nil)))) (Nat.le_of_ble_eq_true rfl) rfl) (wanted_none rfl _) ?_
 rintro a24 w24 h24
 clear h23
 refine wl_ex (x_stb (i := 0) (vs := [.int .i64 ((checkG (pgOf code words locks regs)).code), .int .i64 ((checkG (pgOf code words locks regs)).thread), .int .i64 ((checkG (pgOf code words locks regs)).at_)]) (cs' := [.int .i64 ((checkG (pgOf code words locks regs)).code), .int .i64 ((checkG (pgOf code words locks regs)).thread), .int .i64 ((checkG (pgOf code words locks regs)).at_)]) h24 ti_28 rfl rfl rfl rfl rfl rfl rfl (allOne_cons rfl (allOne_cons rfl (allOne_cons rfl allOne_nil))) (Nat.le_of_ble_eq_true rfl) rfl) (wanted_none rfl _) ?_
 rintro a25 w25 h25
 clear h24
 refine wpList_nil <| hK15 _ _ <| wp_seq_k fun K26 hK26 => wp_region_lit <| wv h25 (r_ldbw (i := 2) (vs := [code.v, words.v, .int .i64 locks, .int .i64 regs]) ti_25 rfl rfl rfl rfl rfl) rfl rfl fun a27 h27 => wl_ex (x_call h27 bd_20 rfl rfl rfl rfl rfl (refCheck_c (code := code) (words := words) (locks := locks) (regs := regs) (h27.sh.at 3 rfl) (h27.sh.at 4 rfl))) (wanted_none rfl _) ?_; clear h25
 rintro a28 w28 ⟨_, ⟨rfl, hs28⟩, hf28⟩
 have h28 : St 74 (fun _ => False) W a28 w28 _ _ := ⟨hf28, h27.sh.call0 hs28⟩
 clear hf28 hs28
 clear h27
 refine wl_ex (x_alloc h28 ti_28 rfl rfl rfl) (wanted_none rfl _) ?_
 rintro a29 w29 ⟨b29, h29⟩; clear h28
 refine wl_ex (x_stb (i := 0) (vs := [.int .i64 ((checkG (pgOf code words locks regs)).code), .int .i64 ((checkG (pgOf code words locks regs)).thread), .int .i64 ((checkG (pgOf code words locks regs)).at_)]) (cs' := [.int .i64 ((checkG (pgOf code words locks regs)).code), .int .i64 ((checkG (pgOf code words locks regs)).thread), .int .i64 ((checkG (pgOf code words locks regs)).at_)]) h29 ti_28 rfl rfl rfl rfl rfl rfl rfl (allOne_cons rfl (allOne_cons rfl (allOne_cons rfl allOne_nil))) (Nat.le_of_ble_eq_true rfl) rfl) (wanted_none rfl _) ?_
 rintro a30 w30 h30
 clear h29
 refine wpList_nil <| hK26 _ _ <| wp_seq_k fun K31 hK31 => wp_region_lit <| wv h30 (r_ldbw (i := 2) (vs := [(.slice none 0 0), (.slice none 0 0), .int .i64 0, .int .i64 0]) ti_25 rfl rfl rfl rfl rfl) rfl rfl fun a32 h32 => wl_ex (x_call h32 bd_21 rfl rfl rfl rfl rfl (none_c (⟨.slice none 0 0, []⟩ : Ls (Ls Ins)) (⟨.slice none 0 0, []⟩ : Ls Int) 0 0 _ (Sh.nilAt (α := Ls Ins) h32.sh) (Sh.nilAt (α := Int) h32.sh))) (wanted_none rfl _) ?_; clear h30
 rintro a33 w33 ⟨_, ⟨rfl, hs33⟩, hf33⟩
 have h33 : St 74 (fun _ => False) W a33 w33 _ _ := ⟨hf33, h32.sh.call0 hs33⟩
 clear hf33 hs33
 clear h32
 refine wms 1 h33 rfl fun a34 h34 => wpList_nil <| hK31 _ _ <| wp_seq_k fun K35 hK35 => wp_seq_k fun K36 hK36 => wp_region_lit <| wv h34 (r_fieldB (r := 0) fl_28_0 rfl rfl rfl) rfl rfl fun a37 h37 => wv h37 (r_ldb (i := 0) ti_26 rfl rfl rfl rfl) rfl rfl fun a38 h38 => wv h38 (r_neqI (p := (checkG (pgOf code words locks regs)).code) (q := 0) rfl rfl rfl) rfl rfl fun a39 h39 => wpList_nil <| hK36 _ _ <| x_condT h39 rfl (decide_eq_true hz) <| wp_seq_k fun K40 hK40 => wp_region_lit ?_; clear h33 h34 h37 h38
 refine wv h39 (r_ldbw (i := 1) (vs := [.int .i64 ((checkG (pgOf code words locks regs)).code), .int .i64 ((checkG (pgOf code words locks regs)).thread), .int .i64 ((checkG (pgOf code words locks regs)).at_)]) ti_28 rfl rfl rfl rfl rfl) rfl rfl fun a41 h41 => wv h41 (r_ldbw (i := 0) (vs := [.int .i64 ((checkG (pgOf code words locks regs)).code), .int .i64 ((checkG (pgOf code words locks regs)).thread), .int .i64 ((checkG (pgOf code words locks regs)).at_)]) ti_28 rfl rfl rfl rfl rfl) rfl rfl fun a42 h42 => wv h42 (r_eqS rfl rfl rfl (fun w => eq_fltG _ _ ⟨(checkG (pgOf code words locks regs)).code, (checkG (pgOf code words locks regs)).thread, (checkG (pgOf code words locks regs)).at_⟩ ⟨(checkG (pgOf code words locks regs)).code, (checkG (pgOf code words locks regs)).thread, (checkG (pgOf code words locks regs)).at_⟩ w) (fun w => eq_flt ⟨(checkG (pgOf code words locks regs)).code, (checkG (pgOf code words locks regs)).thread, (checkG (pgOf code words locks regs)).at_⟩ ⟨(checkG (pgOf code words locks regs)).code, (checkG (pgOf code words locks regs)).thread, (checkG (pgOf code words locks regs)).at_⟩ w)) rfl rfl fun a43 h43 => wms 1 h43 rfl fun a44 h44 => wl_val h44 (r_move rfl rfl) (wanted_yes h44.fr rfl rfl rfl rfl (decide_eq_true rfl)) rfl rfl fun a45 h45 => wv h45 (r_pickT rfl rfl (decide_eq_true rfl) rfl) rfl rfl fun a46 h46 => wms 1 h46 rfl fun a47 h47 => wpList_nil <| hK40 _ _ ?_; clear h39 h41 h42 h43 h44 h45 h46
 have h48 : St 74 (fun _ => False) W a47 w33 [(4, .bool (noneP (pgOf (⟨.slice none 0 0, []⟩ : Ls (Ls Ins)) (⟨.slice none 0 0, []⟩ : Ls Int) 0 0)))] [.blk b29 28 [.int .i64 ((checkG (pgOf code words locks regs)).code), .int .i64 ((checkG (pgOf code words locks regs)).thread), .int .i64 ((checkG (pgOf code words locks regs)).at_)], .blk b23 28 [.int .i64 ((checkG (pgOf code words locks regs)).code), .int .i64 ((checkG (pgOf code words locks regs)).thread), .int .i64 ((checkG (pgOf code words locks regs)).at_)], .blk b22 25 [(.slice none 0 0), (.slice none 0 0), .int .i64 0, .int .i64 0], .blk b3 25 [code.v, words.v, .int .i64 locks, .int .i64 regs], .at_ code, .at_ words, .at_ cols] := h47.nrm ⟨rfl, trivial⟩ [0, 1, 2, 3, 4, 5, 6] (by decide) ⟨rfl, rfl, rfl, rfl, rfl, rfl, rfl, trivial⟩
 clear h47
 refine wp_ret ?_
 try simp only [Exit.then, Exit.inBlock]
 refine x_ret1 (fn := Try.f4) (t := 4) rfl h48 rfl ?_
 exact ⟨rfl, (h48.sh.sel [] (by decide) trivial)⟩

set_option maxRecDepth 100000 in
set_option maxHeartbeats 8000000 in
theorem allocApplies_c (code : Ls (Ls Ins)) (words : Ls Int) (locks regs : Int) (cols : Ls (Ls Int)) (f : Nat → Nat → Nat → Bool) (W : World) (hcode : code.At W) (hwords : words.At W) (hcols : cols.At W) (hv : vastG (code.l.map (·.l)) words.l = false) (hc9 : cols.l.length ≤ 100) (hok : OkPg (pgOf code words locks regs)) (hF : ∀ t, t < code.l.length → ∀ r j, (f t r j = true ↔ LiveI (nth code.l t).l r j)) (hcb : (colsB code.l cols.l f regs.toNat) = false) :
    Rets Try.prog 4 [.agg #[code.v, words.v, .int .i64 locks, .int .i64 regs], cols.v] W (fun v w' => v = .bool true ∧ Sh0 W w' []) := by
 have hz := checkG_ok hok
 obtain ⟨hl1, hl2, hl3, hl4', hl5, hl6, hl7⟩ := ok_len hok
 have hrg := hok.regs
 have hrg1 : (pgOf code words locks regs).regs = regs := rfl
 rw [hrg1] at hrg
 refine x_enter (N := 74) Try.func4 rfl Try.ntmps4 (Nat.le_of_ble_eq_true rfl) fun a1 hf1 => ?_
 have h1 : St 74 (fun _ => False) W a1 W [(0, .agg #[code.v, words.v, .int .i64 locks, .int .i64 regs]), (1, cols.v)] [.at_ code, .at_ words, .at_ cols] := ⟨hf1.sub ⟨rfl, rfl, trivial⟩, Sh0.ext3 hcode hwords hcols⟩
 clear hf1
 refine wp_seq_k fun K2 hK2 => wp_region_lit <| wl_ex (x_box (cs := [code.v, words.v, .int .i64 locks, .int .i64 regs]) h1 rfl rfl rfl rfl rfl) (wanted_none rfl _) ?_
 rintro a3 w3 ⟨b3, h3⟩; clear h1
 refine wms 1 h3 rfl fun a4 h4 => wpList_nil <| hK2 _ _ <| wp_seq_k fun K5 hK5 => wp_seq_k fun K6 hK6 => wp_region_lit <| wv h4 (r_ldbw (i := 0) (vs := [code.v, words.v, .int .i64 locks, .int .i64 regs]) ti_25 rfl rfl rfl rfl rfl) rfl rfl fun a7 h7 => wl_ex (x_call h7 bd_18 rfl rfl rfl rfl rfl (vast_c (code := code) (words := words) (locks := locks) (regs := regs) (h7.sh.at 1 rfl) (h7.sh.at 2 rfl))) (wanted_none rfl _) ?_; clear h3 h4
 rintro a8 w8 ⟨_, ⟨rfl, hs8⟩, hf8⟩
 have h8 : St 74 (fun _ => False) W a8 w8 _ _ := ⟨hf8, h7.sh.call0 hs8⟩
 clear hf8 hs8
 clear h7
 refine wms 1 h8 rfl fun a9 h9 => wl_val h9 (r_move rfl rfl) (wanted_yes h9.fr rfl rfl rfl rfl hv) rfl rfl fun a10 h10 => ?_; clear h8 h9
 have hl11 : cols.l.length ≤ 140737488355328 := (h10.sh.at 3 rfl).len
 refine wl_val h10 (r_len (s := cols) (n := cols.l.length) sl_35 rfl rfl (fun w h => (h.at 3 rfl)) rfl) (wanted_yes h10.fr rfl rfl rfl rfl hv) rfl rfl fun a12 h12 => wl_val h12 (r_gtrN (p := cols.l.length) (q := 100) rfl rfl rfl) (wanted_yes h12.fr rfl rfl rfl rfl hv) rfl rfl fun a13 h13 => wv h13 (r_pickF rfl rfl hv rfl) rfl rfl fun a14 h14 => wpList_nil <| hK6 _ _ <| x_condF h14 rfl (decide_eq_false (by omega)) <| wp_skip <| hK5 _ _ <| wp_seq_k fun K15 hK15 => wp_region_lit <| wv h14 (r_ldbw (i := 0) (vs := [code.v, words.v, .int .i64 locks, .int .i64 regs]) ti_25 rfl rfl rfl rfl rfl) rfl rfl fun a16 h16 => wms 1 h16 rfl fun a17 h17 => wl_ex (x_call h17 bd_19 rfl rfl rfl rfl rfl (apply_c code words locks regs cols f _ (h17.sh.at 1 rfl) (h17.sh.at 2 rfl) (h17.sh.at 3 rfl) hok hF hcb)) (wanted_none rfl _) ?_; clear h10 h12 h13 h14 h16
 rintro a18 w18 ⟨_, ⟨rfl, hs18⟩, hf18⟩
 have h18 : St 74 (fun _ => False) W a18 w18 _ _ := ⟨hf18, h17.sh.call0 hs18⟩
 clear hf18 hs18
 clear h17
 refine wms 1 h18 rfl fun a19 h19 => wv h19 (r_extract rfl rfl rfl) rfl rfl fun a20 h20 => wv h20 (r_extract rfl rfl rfl) rfl rfl fun a21 h21 => wl_ex (x_alloc h21 ti_25 rfl rfl rfl) (wanted_none rfl _) ?_; clear h18 h19 h20
 rintro a22 w22 ⟨b22, h22⟩; clear h21
 refine wl_ex (x_alloc h22 ti_28 rfl rfl rfl) (wanted_none rfl _) ?_
 rintro a23 w23 ⟨b23, h23⟩; clear h22
 refine wl_ex (x_stb (i := 1) (vs := [(.slice none 0 0), (.slice none 0 0), .int .i64 0, .int .i64 0]) (cs' := [(.slice none 0 0), (.slice none 0 0), .int .i64 0, .int .i64 0]) h23 ti_25 rfl rfl rfl rfl rfl rfl rfl (allOne_cons ((Sh.nilAt (α := Ls Ins) h23.sh)).one (allOne_cons ((Sh.nilAt (α := Int) h23.sh)).one (allOne_cons rfl (allOne_cons rfl allOne_nil)))) (Nat.le_of_ble_eq_true rfl) rfl) (wanted_none rfl _) ?_
 rintro a24 w24 h24
 clear h23
 refine wl_ex (x_stb (i := 0) (vs := [.int .i64 11, .int .i64 0, .int .i64 0]) (cs' := [.int .i64 11, .int .i64 0, .int .i64 0]) h24 ti_28 rfl rfl rfl rfl rfl rfl rfl (allOne_cons rfl (allOne_cons rfl (allOne_cons rfl allOne_nil))) (Nat.le_of_ble_eq_true rfl) rfl) (wanted_none rfl _) ?_
 rintro a25 w25 h25
 clear h24
 refine wpList_nil <| hK15 _ _ <| wp_seq_k fun K26 hK26 => wp_region_lit <| wv h25 (r_ldbw (i := 2) (vs := [code.v, words.v, .int .i64 locks, .int .i64 regs]) ti_25 rfl rfl rfl rfl rfl) rfl rfl fun a27 h27 => wl_ex (x_call h27 bd_20 rfl rfl rfl rfl rfl (refCheck_c (code := code) (words := words) (locks := locks) (regs := regs) (h27.sh.at 3 rfl) (h27.sh.at 4 rfl))) (wanted_none rfl _) ?_; clear h25
 rintro a28 w28 ⟨_, ⟨rfl, hs28⟩, hf28⟩
 have h28 : St 74 (fun _ => False) W a28 w28 _ _ := ⟨hf28, h27.sh.call0 hs28⟩
 clear hf28 hs28
 clear h27
 refine wl_ex (x_alloc h28 ti_28 rfl rfl rfl) (wanted_none rfl _) ?_
 rintro a29 w29 ⟨b29, h29⟩; clear h28
 refine wl_ex (x_stb (i := 0) (vs := [.int .i64 ((checkG (pgOf code words locks regs)).code), .int .i64 ((checkG (pgOf code words locks regs)).thread), .int .i64 ((checkG (pgOf code words locks regs)).at_)]) (cs' := [.int .i64 ((checkG (pgOf code words locks regs)).code), .int .i64 ((checkG (pgOf code words locks regs)).thread), .int .i64 ((checkG (pgOf code words locks regs)).at_)]) h29 ti_28 rfl rfl rfl rfl rfl rfl rfl (allOne_cons rfl (allOne_cons rfl (allOne_cons rfl allOne_nil))) (Nat.le_of_ble_eq_true rfl) rfl) (wanted_none rfl _) ?_
 rintro a30 w30 h30
 clear h29
 refine wpList_nil <| hK26 _ _ <| wp_seq_k fun K31 hK31 => wp_region_lit <| wv h30 (r_ldbw (i := 2) (vs := [(.slice none 0 0), (.slice none 0 0), .int .i64 0, .int .i64 0]) ti_25 rfl rfl rfl rfl rfl) rfl rfl fun a32 h32 => wl_ex (x_call h32 bd_21 rfl rfl rfl rfl rfl (none_c (⟨.slice none 0 0, []⟩ : Ls (Ls Ins)) (⟨.slice none 0 0, []⟩ : Ls Int) 0 0 _ (Sh.nilAt (α := Ls Ins) h32.sh) (Sh.nilAt (α := Int) h32.sh))) (wanted_none rfl _) ?_; clear h30
 rintro a33 w33 ⟨_, ⟨rfl, hs33⟩, hf33⟩
 have h33 : St 74 (fun _ => False) W a33 w33 _ _ := ⟨hf33, h32.sh.call0 hs33⟩
 clear hf33 hs33
 clear h32
 refine wms 1 h33 rfl fun a34 h34 => wpList_nil <| hK31 _ _ <| wp_seq_k fun K35 hK35 => wp_seq_k fun K36 hK36 => wp_region_lit <| wv h34 (r_fieldB (r := 0) fl_28_0 rfl rfl rfl) rfl rfl fun a37 h37 => wv h37 (r_ldb (i := 0) ti_26 rfl rfl rfl rfl) rfl rfl fun a38 h38 => wv h38 (r_neqI (p := (checkG (pgOf code words locks regs)).code) (q := 0) rfl rfl rfl) rfl rfl fun a39 h39 => wpList_nil <| hK36 _ _ <| x_condF h39 rfl (by rw [hz]; rfl) ?_; clear h33 h34 h37 h38
 refine wp_skip <| hK35 _ _ ?_
 have h40 : St 74 (fun _ => False) W a39 w33 [(1, cols.v), (2, .pointer (some ⟨b3, 0, none⟩)), (5, .pointer (some ⟨b22, 0, none⟩)), (6, .pointer (some ⟨b23, 0, none⟩)), (8, .bool (noneP (pgOf (⟨.slice none 0 0, []⟩ : Ls (Ls Ins)) (⟨.slice none 0 0, []⟩ : Ls Int) 0 0)))] [.blk b29 28 [.int .i64 ((checkG (pgOf code words locks regs)).code), .int .i64 ((checkG (pgOf code words locks regs)).thread), .int .i64 ((checkG (pgOf code words locks regs)).at_)], .blk b23 28 [.int .i64 11, .int .i64 0, .int .i64 0], .blk b22 25 [(.slice none 0 0), (.slice none 0 0), .int .i64 0, .int .i64 0], .blk b3 25 [code.v, words.v, .int .i64 locks, .int .i64 regs], .at_ code, .at_ words, .at_ cols] := h39.nrm ⟨rfl, rfl, rfl, rfl, rfl, trivial⟩ [0, 1, 2, 3, 4, 5, 6] (by decide) ⟨rfl, rfl, rfl, rfl, rfl, rfl, rfl, trivial⟩
 clear h39
 refine wp_seq_k fun K41 hK41 => wp_region_lit <| wv h40 (r_ldbw (i := 3) (vs := [code.v, words.v, .int .i64 locks, .int .i64 regs]) ti_25 rfl rfl rfl rfl rfl) rfl rfl fun a42 h42 => wms 1 h42 rfl fun a43 h43 => wl_ex (x_call h43 bd_22 rfl rfl rfl rfl rfl (rColours_c code words locks regs cols f _ (h43.sh.at 4 rfl) (h43.sh.at 5 rfl) (h43.sh.at 6 rfl) hok hF)) (wanted_none rfl _) ?_; clear h40 h42
 rintro a44 w44 ⟨_, ⟨rfl, hs44⟩, hf44⟩
 have h44 : St 74 (fun _ => False) W a44 w44 _ _ := ⟨hf44, h43.sh.call0 hs44⟩
 clear hf44 hs44
 clear h43
 refine wms 1 h44 rfl fun a45 h45 => wpList_nil <| hK41 _ _ <| wp_seq_k fun K46 hK46 => wp_seq_k fun K47 hK47 => wp_region_lit <| wms 1 h45 rfl fun a48 h48 => wv h48 (r_not rfl rfl) rfl rfl fun a49 h49 => wpList_nil <| hK47 _ _ <| x_condT h49 rfl (by rw [hcb]; rfl) ?_; clear h44 h45 h48
 refine wp_seq_k fun K50 hK50 => wp_region_lit <| wv h49 (r_ldbw (i := 1) (vs := [.int .i64 11, .int .i64 0, .int .i64 0]) ti_28 rfl rfl rfl rfl rfl) rfl rfl fun a51 h51 => wv h51 (r_build (cs := [.int .i64 11, .int .i64 0, .int .i64 0]) rfl rfl (by kernel_rfl)) rfl rfl fun a52 h52 => wv h52 (r_eqS rfl rfl rfl (fun w => eq_fltG _ _ ⟨11, 0, 0⟩ ⟨11, 0, 0⟩ w) (fun w => eq_flt ⟨11, 0, 0⟩ ⟨11, 0, 0⟩ w)) rfl rfl fun a53 h53 => wms 1 h53 rfl fun a54 h54 => wl_val h54 (r_move rfl rfl) (wanted_yes h54.fr rfl rfl rfl rfl (decide_eq_true rfl)) rfl rfl fun a55 h55 => wv h55 (r_pickT rfl rfl (decide_eq_true rfl) rfl) rfl rfl fun a56 h56 => wms 1 h56 rfl fun a57 h57 => wpList_nil <| hK50 _ _ <| wp_ret ?_; clear h49 h51 h52 h53 h54 h55 h56
 try simp only [Exit.then, Exit.inBlock]
 refine x_ret1 (fn := Try.f4) (t := 4) rfl h57 rfl ?_
 exact ⟨rfl, (h57.sh.sel [] (by decide) trivial)⟩

set_option maxRecDepth 100000 in
set_option maxHeartbeats 8000000 in
theorem allocApplies_w (code : Ls (Ls Ins)) (words : Ls Int) (locks regs : Int) (cols : Ls (Ls Int)) (f : Nat → Nat → Nat → Bool) (W : World) (hcode : code.At W) (hwords : words.At W) (hcols : cols.At W) (hv : vastG (code.l.map (·.l)) words.l = false) (hc9 : cols.l.length ≤ 100) (hok : OkPg (pgOf code words locks regs)) (hF : ∀ t, t < code.l.length → ∀ r j, (f t r j = true ↔ LiveI (nth code.l t).l r j)) (hcb : (colsB code.l cols.l f regs.toNat) = true) (htot : 64 < words.l.length + tSp cols.l regs.toNat code.l.length) :
    Rets Try.prog 4 [.agg #[code.v, words.v, .int .i64 locks, .int .i64 regs], cols.v] W (fun v w' => v = .bool true ∧ Sh0 W w' []) := by
 have hz := checkG_ok hok
 obtain ⟨hl1, hl2, hl3, hl4', hl5, hl6, hl7⟩ := ok_len hok
 have hrg := hok.regs
 have hrg1 : (pgOf code words locks regs).regs = regs := rfl
 rw [hrg1] at hrg
 obtain ⟨hcc, hcr⟩ := colsB_len hcb
 refine x_enter (N := 74) Try.func4 rfl Try.ntmps4 (Nat.le_of_ble_eq_true rfl) fun a1 hf1 => ?_
 have h1 : St 74 (fun _ => False) W a1 W [(0, .agg #[code.v, words.v, .int .i64 locks, .int .i64 regs]), (1, cols.v)] [.at_ code, .at_ words, .at_ cols] := ⟨hf1.sub ⟨rfl, rfl, trivial⟩, Sh0.ext3 hcode hwords hcols⟩
 clear hf1
 refine wp_seq_k fun K2 hK2 => wp_region_lit <| wl_ex (x_box (cs := [code.v, words.v, .int .i64 locks, .int .i64 regs]) h1 rfl rfl rfl rfl rfl) (wanted_none rfl _) ?_
 rintro a3 w3 ⟨b3, h3⟩; clear h1
 refine wms 1 h3 rfl fun a4 h4 => wpList_nil <| hK2 _ _ <| wp_seq_k fun K5 hK5 => wp_seq_k fun K6 hK6 => wp_region_lit <| wv h4 (r_ldbw (i := 0) (vs := [code.v, words.v, .int .i64 locks, .int .i64 regs]) ti_25 rfl rfl rfl rfl rfl) rfl rfl fun a7 h7 => wl_ex (x_call h7 bd_18 rfl rfl rfl rfl rfl (vast_c (code := code) (words := words) (locks := locks) (regs := regs) (h7.sh.at 1 rfl) (h7.sh.at 2 rfl))) (wanted_none rfl _) ?_; clear h3 h4
 rintro a8 w8 ⟨_, ⟨rfl, hs8⟩, hf8⟩
 have h8 : St 74 (fun _ => False) W a8 w8 _ _ := ⟨hf8, h7.sh.call0 hs8⟩
 clear hf8 hs8
 clear h7
 refine wms 1 h8 rfl fun a9 h9 => wl_val h9 (r_move rfl rfl) (wanted_yes h9.fr rfl rfl rfl rfl hv) rfl rfl fun a10 h10 => ?_; clear h8 h9
 have hl11 : cols.l.length ≤ 140737488355328 := (h10.sh.at 3 rfl).len
 refine wl_val h10 (r_len (s := cols) (n := cols.l.length) sl_35 rfl rfl (fun w h => (h.at 3 rfl)) rfl) (wanted_yes h10.fr rfl rfl rfl rfl hv) rfl rfl fun a12 h12 => wl_val h12 (r_gtrN (p := cols.l.length) (q := 100) rfl rfl rfl) (wanted_yes h12.fr rfl rfl rfl rfl hv) rfl rfl fun a13 h13 => wv h13 (r_pickF rfl rfl hv rfl) rfl rfl fun a14 h14 => wpList_nil <| hK6 _ _ <| x_condF h14 rfl (decide_eq_false (by omega)) <| wp_skip <| hK5 _ _ <| wp_seq_k fun K15 hK15 => wp_region_lit <| wv h14 (r_ldbw (i := 0) (vs := [code.v, words.v, .int .i64 locks, .int .i64 regs]) ti_25 rfl rfl rfl rfl rfl) rfl rfl fun a16 h16 => wms 1 h16 rfl fun a17 h17 => wl_ex (x_call h17 bd_19 rfl rfl rfl rfl rfl (apply_w code words locks regs cols f _ (h17.sh.at 1 rfl) (h17.sh.at 2 rfl) (h17.sh.at 3 rfl) hok hF hcb htot)) (wanted_none rfl _) ?_; clear h10 h12 h13 h14 h16
 rintro a18 w18 ⟨_, ⟨rfl, hs18⟩, hf18⟩
 have h18 : St 74 (fun _ => False) W a18 w18 _ _ := ⟨hf18, h17.sh.call0 hs18⟩
 clear hf18 hs18
 clear h17
 refine wms 1 h18 rfl fun a19 h19 => wv h19 (r_extract rfl rfl rfl) rfl rfl fun a20 h20 => wv h20 (r_extract rfl rfl rfl) rfl rfl fun a21 h21 => wl_ex (x_alloc h21 ti_25 rfl rfl rfl) (wanted_none rfl _) ?_; clear h18 h19 h20
 rintro a22 w22 ⟨b22, h22⟩; clear h21
 refine wl_ex (x_alloc h22 ti_28 rfl rfl rfl) (wanted_none rfl _) ?_
 rintro a23 w23 ⟨b23, h23⟩; clear h22
 refine wl_ex (x_stb (i := 1) (vs := [(.slice none 0 0), (.slice none 0 0), .int .i64 0, .int .i64 0]) (cs' := [(.slice none 0 0), (.slice none 0 0), .int .i64 0, .int .i64 0]) h23 ti_25 rfl rfl rfl rfl rfl rfl rfl (allOne_cons ((Sh.nilAt (α := Ls Ins) h23.sh)).one (allOne_cons ((Sh.nilAt (α := Int) h23.sh)).one (allOne_cons rfl (allOne_cons rfl allOne_nil)))) (Nat.le_of_ble_eq_true rfl) rfl) (wanted_none rfl _) ?_
 rintro a24 w24 h24
 clear h23
 refine wl_ex (x_stb (i := 0) (vs := [.int .i64 1, .int .i64 0, .int .i64 0]) (cs' := [.int .i64 1, .int .i64 0, .int .i64 0]) h24 ti_28 rfl rfl rfl rfl rfl rfl rfl (allOne_cons rfl (allOne_cons rfl (allOne_cons rfl allOne_nil))) (Nat.le_of_ble_eq_true rfl) rfl) (wanted_none rfl _) ?_
 rintro a25 w25 h25
 clear h24
 refine wpList_nil <| hK15 _ _ <| wp_seq_k fun K26 hK26 => wp_region_lit <| wv h25 (r_ldbw (i := 2) (vs := [code.v, words.v, .int .i64 locks, .int .i64 regs]) ti_25 rfl rfl rfl rfl rfl) rfl rfl fun a27 h27 => wl_ex (x_call h27 bd_20 rfl rfl rfl rfl rfl (refCheck_c (code := code) (words := words) (locks := locks) (regs := regs) (h27.sh.at 3 rfl) (h27.sh.at 4 rfl))) (wanted_none rfl _) ?_; clear h25
 rintro a28 w28 ⟨_, ⟨rfl, hs28⟩, hf28⟩
 have h28 : St 74 (fun _ => False) W a28 w28 _ _ := ⟨hf28, h27.sh.call0 hs28⟩
 clear hf28 hs28
 clear h27
 refine wl_ex (x_alloc h28 ti_28 rfl rfl rfl) (wanted_none rfl _) ?_
 rintro a29 w29 ⟨b29, h29⟩; clear h28
 refine wl_ex (x_stb (i := 0) (vs := [.int .i64 ((checkG (pgOf code words locks regs)).code), .int .i64 ((checkG (pgOf code words locks regs)).thread), .int .i64 ((checkG (pgOf code words locks regs)).at_)]) (cs' := [.int .i64 ((checkG (pgOf code words locks regs)).code), .int .i64 ((checkG (pgOf code words locks regs)).thread), .int .i64 ((checkG (pgOf code words locks regs)).at_)]) h29 ti_28 rfl rfl rfl rfl rfl rfl rfl (allOne_cons rfl (allOne_cons rfl (allOne_cons rfl allOne_nil))) (Nat.le_of_ble_eq_true rfl) rfl) (wanted_none rfl _) ?_
 rintro a30 w30 h30
 clear h29
 refine wpList_nil <| hK26 _ _ <| wp_seq_k fun K31 hK31 => wp_region_lit <| wv h30 (r_ldbw (i := 2) (vs := [(.slice none 0 0), (.slice none 0 0), .int .i64 0, .int .i64 0]) ti_25 rfl rfl rfl rfl rfl) rfl rfl fun a32 h32 => wl_ex (x_call h32 bd_21 rfl rfl rfl rfl rfl (none_c (⟨.slice none 0 0, []⟩ : Ls (Ls Ins)) (⟨.slice none 0 0, []⟩ : Ls Int) 0 0 _ (Sh.nilAt (α := Ls Ins) h32.sh) (Sh.nilAt (α := Int) h32.sh))) (wanted_none rfl _) ?_; clear h30
 rintro a33 w33 ⟨_, ⟨rfl, hs33⟩, hf33⟩
 have h33 : St 74 (fun _ => False) W a33 w33 _ _ := ⟨hf33, h32.sh.call0 hs33⟩
 clear hf33 hs33
 clear h32
 refine wms 1 h33 rfl fun a34 h34 => wpList_nil <| hK31 _ _ <| wp_seq_k fun K35 hK35 => wp_seq_k fun K36 hK36 => wp_region_lit <| wv h34 (r_fieldB (r := 0) fl_28_0 rfl rfl rfl) rfl rfl fun a37 h37 => wv h37 (r_ldb (i := 0) ti_26 rfl rfl rfl rfl) rfl rfl fun a38 h38 => wv h38 (r_neqI (p := (checkG (pgOf code words locks regs)).code) (q := 0) rfl rfl rfl) rfl rfl fun a39 h39 => wpList_nil <| hK36 _ _ <| x_condF h39 rfl (by rw [hz]; rfl) ?_; clear h33 h34 h37 h38
 refine wp_skip <| hK35 _ _ ?_
 have h40 : St 74 (fun _ => False) W a39 w33 [(1, cols.v), (2, .pointer (some ⟨b3, 0, none⟩)), (5, .pointer (some ⟨b22, 0, none⟩)), (6, .pointer (some ⟨b23, 0, none⟩)), (8, .bool (noneP (pgOf (⟨.slice none 0 0, []⟩ : Ls (Ls Ins)) (⟨.slice none 0 0, []⟩ : Ls Int) 0 0)))] [.blk b29 28 [.int .i64 ((checkG (pgOf code words locks regs)).code), .int .i64 ((checkG (pgOf code words locks regs)).thread), .int .i64 ((checkG (pgOf code words locks regs)).at_)], .blk b23 28 [.int .i64 1, .int .i64 0, .int .i64 0], .blk b22 25 [(.slice none 0 0), (.slice none 0 0), .int .i64 0, .int .i64 0], .blk b3 25 [code.v, words.v, .int .i64 locks, .int .i64 regs], .at_ code, .at_ words, .at_ cols] := h39.nrm ⟨rfl, rfl, rfl, rfl, rfl, trivial⟩ [0, 1, 2, 3, 4, 5, 6] (by decide) ⟨rfl, rfl, rfl, rfl, rfl, rfl, rfl, trivial⟩
 clear h39
 refine wp_seq_k fun K41 hK41 => wp_region_lit <| wv h40 (r_ldbw (i := 3) (vs := [code.v, words.v, .int .i64 locks, .int .i64 regs]) ti_25 rfl rfl rfl rfl rfl) rfl rfl fun a42 h42 => wms 1 h42 rfl fun a43 h43 => wl_ex (x_call h43 bd_22 rfl rfl rfl rfl rfl (rColours_c code words locks regs cols f _ (h43.sh.at 4 rfl) (h43.sh.at 5 rfl) (h43.sh.at 6 rfl) hok hF)) (wanted_none rfl _) ?_; clear h40 h42
 rintro a44 w44 ⟨_, ⟨rfl, hs44⟩, hf44⟩
 have h44 : St 74 (fun _ => False) W a44 w44 _ _ := ⟨hf44, h43.sh.call0 hs44⟩
 clear hf44 hs44
 clear h43
 refine wms 1 h44 rfl fun a45 h45 => wpList_nil <| hK41 _ _ <| wp_seq_k fun K46 hK46 => wp_seq_k fun K47 hK47 => wp_region_lit <| wms 1 h45 rfl fun a48 h48 => wv h48 (r_not rfl rfl) rfl rfl fun a49 h49 => wpList_nil <| hK47 _ _ <| x_condF h49 rfl (by rw [hcb]; rfl) ?_; clear h44 h45 h48
 refine wp_skip <| hK46 _ _ <| wp_seq_k fun K50 hK50 => wp_region_lit <| wv h49 (r_ldbw (i := 3) (vs := [code.v, words.v, .int .i64 locks, .int .i64 regs]) ti_25 rfl rfl rfl rfl rfl) rfl rfl fun a51 h51 => wms 1 h51 rfl fun a52 h52 => wl_ex (x_call h52 bd_23 rfl rfl rfl rfl rfl (rApply_w code words locks regs cols _ (h52.sh.at 4 rfl) (h52.sh.at 5 rfl) (h52.sh.at 6 rfl) hok hcc hcr htot)) (wanted_none rfl _) ?_; clear h49 h51
 rintro a53 w53 ⟨_, ⟨rfl, hs53⟩, hf53⟩
 have h53 : St 74 (fun _ => False) W a53 w53 _ _ := ⟨hf53, h52.sh.call0 hs53⟩
 clear hf53 hs53
 clear h52
 refine wms 1 h53 rfl fun a54 h54 => wv h54 (r_extract rfl rfl rfl) rfl rfl fun a55 h55 => wv h55 (r_extract rfl rfl rfl) rfl rfl fun a56 h56 => wl_ex (x_alloc h56 ti_25 rfl rfl rfl) (wanted_none rfl _) ?_; clear h53 h54 h55
 rintro a57 w57 ⟨b57, h57⟩; clear h56
 refine wl_ex (x_alloc h57 ti_28 rfl rfl rfl) (wanted_none rfl _) ?_
 rintro a58 w58 ⟨b58, h58⟩; clear h57
 refine wl_ex (x_stb (i := 1) (vs := [(.slice none 0 0), (.slice none 0 0), .int .i64 0, .int .i64 0]) (cs' := [(.slice none 0 0), (.slice none 0 0), .int .i64 0, .int .i64 0]) h58 ti_25 rfl rfl rfl rfl rfl rfl rfl (allOne_cons ((Sh.nilAt (α := Ls Ins) h58.sh)).one (allOne_cons ((Sh.nilAt (α := Int) h58.sh)).one (allOne_cons rfl (allOne_cons rfl allOne_nil)))) (Nat.le_of_ble_eq_true rfl) rfl) (wanted_none rfl _) ?_
 rintro a59 w59 h59
 clear h58
 refine wl_ex (x_stb (i := 0) (vs := [.int .i64 1, .int .i64 0, .int .i64 0]) (cs' := [.int .i64 1, .int .i64 0, .int .i64 0]) h59 ti_28 rfl rfl rfl rfl rfl rfl rfl (allOne_cons rfl (allOne_cons rfl (allOne_cons rfl allOne_nil))) (Nat.le_of_ble_eq_true rfl) rfl) (wanted_none rfl _) ?_
 rintro a60 w60 h60
 clear h59
 refine wpList_nil <| hK50 _ _ <| wp_seq_k fun K61 hK61 => wp_seq_k fun K62 hK62 => wp_region_lit <| wv h60 (r_fieldB (r := 0) fl_28_0 rfl rfl rfl) rfl rfl fun a63 h63 => wv h63 (r_ldb (i := 0) ti_26 rfl rfl rfl rfl) rfl rfl fun a64 h64 => wv h64 (r_neqN (p := 1) (q := 0) rfl rfl rfl) rfl rfl fun a65 h65 => wpList_nil <| hK62 _ _ <| x_condT h65 rfl (by decide) <| wp_seq_k fun K66 hK66 => wp_region_lit <| wv h65 (r_ldbw (i := 3) (vs := [.int .i64 1, .int .i64 0, .int .i64 0]) ti_28 rfl rfl rfl rfl rfl) rfl rfl fun a67 h67 => ?_; clear h60 h63 h64 h65
 refine wv h67 (r_ldbw (i := 0) (vs := [.int .i64 1, .int .i64 0, .int .i64 0]) ti_28 rfl rfl rfl rfl rfl) rfl rfl fun a68 h68 => wv h68 (r_eqS rfl rfl rfl (fun w => eq_fltG _ _ ⟨1, 0, 0⟩ ⟨1, 0, 0⟩ w) (fun w => eq_flt ⟨1, 0, 0⟩ ⟨1, 0, 0⟩ w)) rfl rfl fun a69 h69 => wms 1 h69 rfl fun a70 h70 => wl_val h70 (r_move rfl rfl) (wanted_yes h70.fr rfl rfl rfl rfl (decide_eq_true rfl)) rfl rfl fun a71 h71 => wv h71 (r_pickT rfl rfl (decide_eq_true rfl) rfl) rfl rfl fun a72 h72 => wms 1 h72 rfl fun a73 h73 => wpList_nil <| hK66 _ _ ?_; clear h67 h68 h69 h70 h71 h72
 have h74 : St 74 (fun _ => False) W a73 w60 [(4, .bool (noneP (pgOf (⟨.slice none 0 0, []⟩ : Ls (Ls Ins)) (⟨.slice none 0 0, []⟩ : Ls Int) 0 0)))] [.blk b58 28 [.int .i64 1, .int .i64 0, .int .i64 0], .blk b57 25 [(.slice none 0 0), (.slice none 0 0), .int .i64 0, .int .i64 0], .blk b29 28 [.int .i64 ((checkG (pgOf code words locks regs)).code), .int .i64 ((checkG (pgOf code words locks regs)).thread), .int .i64 ((checkG (pgOf code words locks regs)).at_)], .blk b23 28 [.int .i64 1, .int .i64 0, .int .i64 0], .blk b22 25 [(.slice none 0 0), (.slice none 0 0), .int .i64 0, .int .i64 0], .blk b3 25 [code.v, words.v, .int .i64 locks, .int .i64 regs], .at_ code, .at_ words, .at_ cols] := h73.nrm ⟨rfl, trivial⟩ [0, 1, 2, 3, 4, 5, 6, 7, 8] (by decide) ⟨rfl, rfl, rfl, rfl, rfl, rfl, rfl, rfl, rfl, trivial⟩
 clear h73
 refine wp_ret ?_
 try simp only [Exit.then, Exit.inBlock]
 refine x_ret1 (fn := Try.f4) (t := 4) rfl h74 rfl ?_
 exact ⟨rfl, (h74.sh.sel [] (by decide) trivial)⟩

set_option maxRecDepth 100000 in
set_option maxHeartbeats 8000000 in
theorem allocApplies_l (code : Ls (Ls Ins)) (words : Ls Int) (locks regs : Int) (cols : Ls (Ls Int)) (f : Nat → Nat → Nat → Bool) (kk : Nat) (W : World) (hcode : code.At W) (hwords : words.At W) (hcols : cols.At W) (hv : vastG (code.l.map (·.l)) words.l = false) (hc9 : cols.l.length ≤ 100) (hok : OkPg (pgOf code words locks regs)) (hF : ∀ t, t < code.l.length → ∀ r j, (f t r j = true ↔ LiveI (nth code.l t).l r j)) (hcb : (colsB code.l cols.l f regs.toNat) = true) (htot : words.l.length + tSp cols.l regs.toNat code.l.length ≤ 64) (hk9 : kk < code.l.length) (h400 : 400 < (apT (nth code.l kk).l (nth cols.l kk).l (words.l.length + tSp cols.l regs.toNat kk) regs.toNat).length) (hbef : ∀ j, j < kk → (apT (nth code.l j).l (nth cols.l j).l (words.l.length + tSp cols.l regs.toNat j) regs.toNat).length ≤ 400) :
    Rets Try.prog 4 [.agg #[code.v, words.v, .int .i64 locks, .int .i64 regs], cols.v] W (fun v w' => v = .bool true ∧ Sh0 W w' []) := by
 have hz := checkG_ok hok
 obtain ⟨hl1, hl2, hl3, hl4', hl5, hl6, hl7⟩ := ok_len hok
 have hrg := hok.regs
 have hrg1 : (pgOf code words locks regs).regs = regs := rfl
 rw [hrg1] at hrg
 obtain ⟨hcc, hcr⟩ := colsB_len hcb
 refine x_enter (N := 74) Try.func4 rfl Try.ntmps4 (Nat.le_of_ble_eq_true rfl) fun a1 hf1 => ?_
 have h1 : St 74 (fun _ => False) W a1 W [(0, .agg #[code.v, words.v, .int .i64 locks, .int .i64 regs]), (1, cols.v)] [.at_ code, .at_ words, .at_ cols] := ⟨hf1.sub ⟨rfl, rfl, trivial⟩, Sh0.ext3 hcode hwords hcols⟩
 clear hf1
 refine wp_seq_k fun K2 hK2 => wp_region_lit <| wl_ex (x_box (cs := [code.v, words.v, .int .i64 locks, .int .i64 regs]) h1 rfl rfl rfl rfl rfl) (wanted_none rfl _) ?_
 rintro a3 w3 ⟨b3, h3⟩; clear h1
 refine wms 1 h3 rfl fun a4 h4 => wpList_nil <| hK2 _ _ <| wp_seq_k fun K5 hK5 => wp_seq_k fun K6 hK6 => wp_region_lit <| wv h4 (r_ldbw (i := 0) (vs := [code.v, words.v, .int .i64 locks, .int .i64 regs]) ti_25 rfl rfl rfl rfl rfl) rfl rfl fun a7 h7 => wl_ex (x_call h7 bd_18 rfl rfl rfl rfl rfl (vast_c (code := code) (words := words) (locks := locks) (regs := regs) (h7.sh.at 1 rfl) (h7.sh.at 2 rfl))) (wanted_none rfl _) ?_; clear h3 h4
 rintro a8 w8 ⟨_, ⟨rfl, hs8⟩, hf8⟩
 have h8 : St 74 (fun _ => False) W a8 w8 _ _ := ⟨hf8, h7.sh.call0 hs8⟩
 clear hf8 hs8
 clear h7
 refine wms 1 h8 rfl fun a9 h9 => wl_val h9 (r_move rfl rfl) (wanted_yes h9.fr rfl rfl rfl rfl hv) rfl rfl fun a10 h10 => ?_; clear h8 h9
 have hl11 : cols.l.length ≤ 140737488355328 := (h10.sh.at 3 rfl).len
 refine wl_val h10 (r_len (s := cols) (n := cols.l.length) sl_35 rfl rfl (fun w h => (h.at 3 rfl)) rfl) (wanted_yes h10.fr rfl rfl rfl rfl hv) rfl rfl fun a12 h12 => wl_val h12 (r_gtrN (p := cols.l.length) (q := 100) rfl rfl rfl) (wanted_yes h12.fr rfl rfl rfl rfl hv) rfl rfl fun a13 h13 => wv h13 (r_pickF rfl rfl hv rfl) rfl rfl fun a14 h14 => wpList_nil <| hK6 _ _ <| x_condF h14 rfl (decide_eq_false (by omega)) <| wp_skip <| hK5 _ _ <| wp_seq_k fun K15 hK15 => wp_region_lit <| wv h14 (r_ldbw (i := 0) (vs := [code.v, words.v, .int .i64 locks, .int .i64 regs]) ti_25 rfl rfl rfl rfl rfl) rfl rfl fun a16 h16 => wms 1 h16 rfl fun a17 h17 => wl_ex (x_call h17 bd_19 rfl rfl rfl rfl rfl (apply_l code words locks regs cols f kk _ (h17.sh.at 1 rfl) (h17.sh.at 2 rfl) (h17.sh.at 3 rfl) hok hF hcb htot hk9 h400 hbef)) (wanted_none rfl _) ?_; clear h10 h12 h13 h14 h16
 rintro a18 w18 ⟨_, ⟨rfl, hs18⟩, hf18⟩
 have h18 : St 74 (fun _ => False) W a18 w18 _ _ := ⟨hf18, h17.sh.call0 hs18⟩
 clear hf18 hs18
 clear h17
 refine wms 1 h18 rfl fun a19 h19 => wv h19 (r_extract rfl rfl rfl) rfl rfl fun a20 h20 => wv h20 (r_extract rfl rfl rfl) rfl rfl fun a21 h21 => wl_ex (x_alloc h21 ti_25 rfl rfl rfl) (wanted_none rfl _) ?_; clear h18 h19 h20
 rintro a22 w22 ⟨b22, h22⟩; clear h21
 refine wl_ex (x_alloc h22 ti_28 rfl rfl rfl) (wanted_none rfl _) ?_
 rintro a23 w23 ⟨b23, h23⟩; clear h22
 refine wl_ex (x_stb (i := 1) (vs := [(.slice none 0 0), (.slice none 0 0), .int .i64 0, .int .i64 0]) (cs' := [(.slice none 0 0), (.slice none 0 0), .int .i64 0, .int .i64 0]) h23 ti_25 rfl rfl rfl rfl rfl rfl rfl (allOne_cons ((Sh.nilAt (α := Ls Ins) h23.sh)).one (allOne_cons ((Sh.nilAt (α := Int) h23.sh)).one (allOne_cons rfl (allOne_cons rfl allOne_nil)))) (Nat.le_of_ble_eq_true rfl) rfl) (wanted_none rfl _) ?_
 rintro a24 w24 h24
 clear h23
 refine wl_ex (x_stb (i := 0) (vs := [.int .i64 1, .int .i64 ((kk : Nat) : Int), .int .i64 0]) (cs' := [.int .i64 1, .int .i64 ((kk : Nat) : Int), .int .i64 0]) h24 ti_28 rfl rfl rfl rfl rfl rfl rfl (allOne_cons rfl (allOne_cons rfl (allOne_cons rfl allOne_nil))) (Nat.le_of_ble_eq_true rfl) rfl) (wanted_none rfl _) ?_
 rintro a25 w25 h25
 clear h24
 refine wpList_nil <| hK15 _ _ <| wp_seq_k fun K26 hK26 => wp_region_lit <| wv h25 (r_ldbw (i := 2) (vs := [code.v, words.v, .int .i64 locks, .int .i64 regs]) ti_25 rfl rfl rfl rfl rfl) rfl rfl fun a27 h27 => wl_ex (x_call h27 bd_20 rfl rfl rfl rfl rfl (refCheck_c (code := code) (words := words) (locks := locks) (regs := regs) (h27.sh.at 3 rfl) (h27.sh.at 4 rfl))) (wanted_none rfl _) ?_; clear h25
 rintro a28 w28 ⟨_, ⟨rfl, hs28⟩, hf28⟩
 have h28 : St 74 (fun _ => False) W a28 w28 _ _ := ⟨hf28, h27.sh.call0 hs28⟩
 clear hf28 hs28
 clear h27
 refine wl_ex (x_alloc h28 ti_28 rfl rfl rfl) (wanted_none rfl _) ?_
 rintro a29 w29 ⟨b29, h29⟩; clear h28
 refine wl_ex (x_stb (i := 0) (vs := [.int .i64 ((checkG (pgOf code words locks regs)).code), .int .i64 ((checkG (pgOf code words locks regs)).thread), .int .i64 ((checkG (pgOf code words locks regs)).at_)]) (cs' := [.int .i64 ((checkG (pgOf code words locks regs)).code), .int .i64 ((checkG (pgOf code words locks regs)).thread), .int .i64 ((checkG (pgOf code words locks regs)).at_)]) h29 ti_28 rfl rfl rfl rfl rfl rfl rfl (allOne_cons rfl (allOne_cons rfl (allOne_cons rfl allOne_nil))) (Nat.le_of_ble_eq_true rfl) rfl) (wanted_none rfl _) ?_
 rintro a30 w30 h30
 clear h29
 refine wpList_nil <| hK26 _ _ <| wp_seq_k fun K31 hK31 => wp_region_lit <| wv h30 (r_ldbw (i := 2) (vs := [(.slice none 0 0), (.slice none 0 0), .int .i64 0, .int .i64 0]) ti_25 rfl rfl rfl rfl rfl) rfl rfl fun a32 h32 => wl_ex (x_call h32 bd_21 rfl rfl rfl rfl rfl (none_c (⟨.slice none 0 0, []⟩ : Ls (Ls Ins)) (⟨.slice none 0 0, []⟩ : Ls Int) 0 0 _ (Sh.nilAt (α := Ls Ins) h32.sh) (Sh.nilAt (α := Int) h32.sh))) (wanted_none rfl _) ?_; clear h30
 rintro a33 w33 ⟨_, ⟨rfl, hs33⟩, hf33⟩
 have h33 : St 74 (fun _ => False) W a33 w33 _ _ := ⟨hf33, h32.sh.call0 hs33⟩
 clear hf33 hs33
 clear h32
 refine wms 1 h33 rfl fun a34 h34 => wpList_nil <| hK31 _ _ <| wp_seq_k fun K35 hK35 => wp_seq_k fun K36 hK36 => wp_region_lit <| wv h34 (r_fieldB (r := 0) fl_28_0 rfl rfl rfl) rfl rfl fun a37 h37 => wv h37 (r_ldb (i := 0) ti_26 rfl rfl rfl rfl) rfl rfl fun a38 h38 => wv h38 (r_neqI (p := (checkG (pgOf code words locks regs)).code) (q := 0) rfl rfl rfl) rfl rfl fun a39 h39 => wpList_nil <| hK36 _ _ <| x_condF h39 rfl (by rw [hz]; rfl) ?_; clear h33 h34 h37 h38
 refine wp_skip <| hK35 _ _ ?_
 have h40 : St 74 (fun _ => False) W a39 w33 [(1, cols.v), (2, .pointer (some ⟨b3, 0, none⟩)), (5, .pointer (some ⟨b22, 0, none⟩)), (6, .pointer (some ⟨b23, 0, none⟩)), (8, .bool (noneP (pgOf (⟨.slice none 0 0, []⟩ : Ls (Ls Ins)) (⟨.slice none 0 0, []⟩ : Ls Int) 0 0)))] [.blk b29 28 [.int .i64 ((checkG (pgOf code words locks regs)).code), .int .i64 ((checkG (pgOf code words locks regs)).thread), .int .i64 ((checkG (pgOf code words locks regs)).at_)], .blk b23 28 [.int .i64 1, .int .i64 ((kk : Nat) : Int), .int .i64 0], .blk b22 25 [(.slice none 0 0), (.slice none 0 0), .int .i64 0, .int .i64 0], .blk b3 25 [code.v, words.v, .int .i64 locks, .int .i64 regs], .at_ code, .at_ words, .at_ cols] := h39.nrm ⟨rfl, rfl, rfl, rfl, rfl, trivial⟩ [0, 1, 2, 3, 4, 5, 6] (by decide) ⟨rfl, rfl, rfl, rfl, rfl, rfl, rfl, trivial⟩
 clear h39
 refine wp_seq_k fun K41 hK41 => wp_region_lit <| wv h40 (r_ldbw (i := 3) (vs := [code.v, words.v, .int .i64 locks, .int .i64 regs]) ti_25 rfl rfl rfl rfl rfl) rfl rfl fun a42 h42 => wms 1 h42 rfl fun a43 h43 => wl_ex (x_call h43 bd_22 rfl rfl rfl rfl rfl (rColours_c code words locks regs cols f _ (h43.sh.at 4 rfl) (h43.sh.at 5 rfl) (h43.sh.at 6 rfl) hok hF)) (wanted_none rfl _) ?_; clear h40 h42
 rintro a44 w44 ⟨_, ⟨rfl, hs44⟩, hf44⟩
 have h44 : St 74 (fun _ => False) W a44 w44 _ _ := ⟨hf44, h43.sh.call0 hs44⟩
 clear hf44 hs44
 clear h43
 refine wms 1 h44 rfl fun a45 h45 => wpList_nil <| hK41 _ _ <| wp_seq_k fun K46 hK46 => wp_seq_k fun K47 hK47 => wp_region_lit <| wms 1 h45 rfl fun a48 h48 => wv h48 (r_not rfl rfl) rfl rfl fun a49 h49 => wpList_nil <| hK47 _ _ <| x_condF h49 rfl (by rw [hcb]; rfl) ?_; clear h44 h45 h48
 refine wp_skip <| hK46 _ _ <| wp_seq_k fun K50 hK50 => wp_region_lit <| wv h49 (r_ldbw (i := 3) (vs := [code.v, words.v, .int .i64 locks, .int .i64 regs]) ti_25 rfl rfl rfl rfl rfl) rfl rfl fun a51 h51 => wms 1 h51 rfl fun a52 h52 => wl_ex (x_call h52 bd_23 rfl rfl rfl rfl rfl (rApply_l code words locks regs cols kk _ (h52.sh.at 4 rfl) (h52.sh.at 5 rfl) (h52.sh.at 6 rfl) hok hcc hcr htot hk9 h400 hbef)) (wanted_none rfl _) ?_; clear h49 h51
 rintro a53 w53 ⟨_, ⟨rfl, hs53⟩, hf53⟩
 have h53 : St 74 (fun _ => False) W a53 w53 _ _ := ⟨hf53, h52.sh.call0 hs53⟩
 clear hf53 hs53
 clear h52
 refine wms 1 h53 rfl fun a54 h54 => wv h54 (r_extract rfl rfl rfl) rfl rfl fun a55 h55 => wv h55 (r_extract rfl rfl rfl) rfl rfl fun a56 h56 => wl_ex (x_alloc h56 ti_25 rfl rfl rfl) (wanted_none rfl _) ?_; clear h53 h54 h55
 rintro a57 w57 ⟨b57, h57⟩; clear h56
 refine wl_ex (x_alloc h57 ti_28 rfl rfl rfl) (wanted_none rfl _) ?_
 rintro a58 w58 ⟨b58, h58⟩; clear h57
 refine wl_ex (x_stb (i := 1) (vs := [(.slice none 0 0), (.slice none 0 0), .int .i64 0, .int .i64 0]) (cs' := [(.slice none 0 0), (.slice none 0 0), .int .i64 0, .int .i64 0]) h58 ti_25 rfl rfl rfl rfl rfl rfl rfl (allOne_cons ((Sh.nilAt (α := Ls Ins) h58.sh)).one (allOne_cons ((Sh.nilAt (α := Int) h58.sh)).one (allOne_cons rfl (allOne_cons rfl allOne_nil)))) (Nat.le_of_ble_eq_true rfl) rfl) (wanted_none rfl _) ?_
 rintro a59 w59 h59
 clear h58
 refine wl_ex (x_stb (i := 0) (vs := [.int .i64 1, .int .i64 ((kk : Nat) : Int), .int .i64 0]) (cs' := [.int .i64 1, .int .i64 ((kk : Nat) : Int), .int .i64 0]) h59 ti_28 rfl rfl rfl rfl rfl rfl rfl (allOne_cons rfl (allOne_cons rfl (allOne_cons rfl allOne_nil))) (Nat.le_of_ble_eq_true rfl) rfl) (wanted_none rfl _) ?_
 rintro a60 w60 h60
 clear h59
 refine wpList_nil <| hK50 _ _ <| wp_seq_k fun K61 hK61 => wp_seq_k fun K62 hK62 => wp_region_lit <| wv h60 (r_fieldB (r := 0) fl_28_0 rfl rfl rfl) rfl rfl fun a63 h63 => wv h63 (r_ldb (i := 0) ti_26 rfl rfl rfl rfl) rfl rfl fun a64 h64 => wv h64 (r_neqN (p := 1) (q := 0) rfl rfl rfl) rfl rfl fun a65 h65 => wpList_nil <| hK62 _ _ <| x_condT h65 rfl (by decide) <| wp_seq_k fun K66 hK66 => wp_region_lit <| wv h65 (r_ldbw (i := 3) (vs := [.int .i64 1, .int .i64 ((kk : Nat) : Int), .int .i64 0]) ti_28 rfl rfl rfl rfl rfl) rfl rfl fun a67 h67 => ?_; clear h60 h63 h64 h65
 refine wv h67 (r_ldbw (i := 0) (vs := [.int .i64 1, .int .i64 ((kk : Nat) : Int), .int .i64 0]) ti_28 rfl rfl rfl rfl rfl) rfl rfl fun a68 h68 => wv h68 (r_eqS rfl rfl rfl (fun w => eq_fltG _ _ ⟨1, ((kk : Nat) : Int), 0⟩ ⟨1, ((kk : Nat) : Int), 0⟩ w) (fun w => eq_flt ⟨1, ((kk : Nat) : Int), 0⟩ ⟨1, ((kk : Nat) : Int), 0⟩ w)) rfl rfl fun a69 h69 => wms 1 h69 rfl fun a70 h70 => wl_val h70 (r_move rfl rfl) (wanted_yes h70.fr rfl rfl rfl rfl (decide_eq_true rfl)) rfl rfl fun a71 h71 => wv h71 (r_pickT rfl rfl (decide_eq_true rfl) rfl) rfl rfl fun a72 h72 => wms 1 h72 rfl fun a73 h73 => wpList_nil <| hK66 _ _ ?_; clear h67 h68 h69 h70 h71 h72
 have h74 : St 74 (fun _ => False) W a73 w60 [(4, .bool (noneP (pgOf (⟨.slice none 0 0, []⟩ : Ls (Ls Ins)) (⟨.slice none 0 0, []⟩ : Ls Int) 0 0)))] [.blk b58 28 [.int .i64 1, .int .i64 ((kk : Nat) : Int), .int .i64 0], .blk b57 25 [(.slice none 0 0), (.slice none 0 0), .int .i64 0, .int .i64 0], .blk b29 28 [.int .i64 ((checkG (pgOf code words locks regs)).code), .int .i64 ((checkG (pgOf code words locks regs)).thread), .int .i64 ((checkG (pgOf code words locks regs)).at_)], .blk b23 28 [.int .i64 1, .int .i64 ((kk : Nat) : Int), .int .i64 0], .blk b22 25 [(.slice none 0 0), (.slice none 0 0), .int .i64 0, .int .i64 0], .blk b3 25 [code.v, words.v, .int .i64 locks, .int .i64 regs], .at_ code, .at_ words, .at_ cols] := h73.nrm ⟨rfl, trivial⟩ [0, 1, 2, 3, 4, 5, 6, 7, 8] (by decide) ⟨rfl, rfl, rfl, rfl, rfl, rfl, rfl, rfl, rfl, trivial⟩
 clear h73
 refine wp_ret ?_
 try simp only [Exit.then, Exit.inBlock]
 refine x_ret1 (fn := Try.f4) (t := 4) rfl h74 rfl ?_
 exact ⟨rfl, (h74.sh.sel [] (by decide) trivial)⟩

set_option maxRecDepth 100000 in
set_option maxHeartbeats 8000000 in
theorem allocApplies_k (code : Ls (Ls Ins)) (words : Ls Int) (locks regs : Int) (cols : Ls (Ls Int)) (f : Nat → Nat → Nat → Bool) (W : World) (hcode : code.At W) (hwords : words.At W) (hcols : cols.At W) (hv : vastG (code.l.map (·.l)) words.l = false) (hc9 : cols.l.length ≤ 100) (hok : OkPg (pgOf code words locks regs)) (hF : ∀ t, t < code.l.length → ∀ r j, (f t r j = true ↔ LiveI (nth code.l t).l r j)) (hcb : (colsB code.l cols.l f regs.toNat) = true) (htot : words.l.length + tSp cols.l regs.toNat code.l.length ≤ 64) (hfit : ∀ t, t < code.l.length → (apT (nth code.l t).l (nth cols.l t).l (words.l.length + tSp cols.l regs.toNat t) regs.toNat).length ≤ 400) :
    Rets Try.prog 4 [.agg #[code.v, words.v, .int .i64 locks, .int .i64 regs], cols.v] W (fun v w' => v = .bool true ∧ Sh0 W w' []) := by
 have hz := checkG_ok hok
 obtain ⟨hl1, hl2, hl3, hl4', hl5, hl6, hl7⟩ := ok_len hok
 have hrg := hok.regs
 have hrg1 : (pgOf code words locks regs).regs = regs := rfl
 rw [hrg1] at hrg
 obtain ⟨hcc, hcr⟩ := colsB_len hcb
 refine x_enter (N := 74) Try.func4 rfl Try.ntmps4 (Nat.le_of_ble_eq_true rfl) fun a1 hf1 => ?_
 have h1 : St 74 (fun _ => False) W a1 W [(0, .agg #[code.v, words.v, .int .i64 locks, .int .i64 regs]), (1, cols.v)] [.at_ code, .at_ words, .at_ cols] := ⟨hf1.sub ⟨rfl, rfl, trivial⟩, Sh0.ext3 hcode hwords hcols⟩
 clear hf1
 refine wp_seq_k fun K2 hK2 => wp_region_lit <| wl_ex (x_box (cs := [code.v, words.v, .int .i64 locks, .int .i64 regs]) h1 rfl rfl rfl rfl rfl) (wanted_none rfl _) ?_
 rintro a3 w3 ⟨b3, h3⟩; clear h1
 refine wms 1 h3 rfl fun a4 h4 => wpList_nil <| hK2 _ _ <| wp_seq_k fun K5 hK5 => wp_seq_k fun K6 hK6 => wp_region_lit <| wv h4 (r_ldbw (i := 0) (vs := [code.v, words.v, .int .i64 locks, .int .i64 regs]) ti_25 rfl rfl rfl rfl rfl) rfl rfl fun a7 h7 => wl_ex (x_call h7 bd_18 rfl rfl rfl rfl rfl (vast_c (code := code) (words := words) (locks := locks) (regs := regs) (h7.sh.at 1 rfl) (h7.sh.at 2 rfl))) (wanted_none rfl _) ?_; clear h3 h4
 rintro a8 w8 ⟨_, ⟨rfl, hs8⟩, hf8⟩
 have h8 : St 74 (fun _ => False) W a8 w8 _ _ := ⟨hf8, h7.sh.call0 hs8⟩
 clear hf8 hs8
 clear h7
 refine wms 1 h8 rfl fun a9 h9 => wl_val h9 (r_move rfl rfl) (wanted_yes h9.fr rfl rfl rfl rfl hv) rfl rfl fun a10 h10 => ?_; clear h8 h9
 have hl11 : cols.l.length ≤ 140737488355328 := (h10.sh.at 3 rfl).len
 refine wl_val h10 (r_len (s := cols) (n := cols.l.length) sl_35 rfl rfl (fun w h => (h.at 3 rfl)) rfl) (wanted_yes h10.fr rfl rfl rfl rfl hv) rfl rfl fun a12 h12 => wl_val h12 (r_gtrN (p := cols.l.length) (q := 100) rfl rfl rfl) (wanted_yes h12.fr rfl rfl rfl rfl hv) rfl rfl fun a13 h13 => wv h13 (r_pickF rfl rfl hv rfl) rfl rfl fun a14 h14 => wpList_nil <| hK6 _ _ <| x_condF h14 rfl (decide_eq_false (by omega)) <| wp_skip <| hK5 _ _ <| wp_seq_k fun K15 hK15 => wp_region_lit <| wv h14 (r_ldbw (i := 0) (vs := [code.v, words.v, .int .i64 locks, .int .i64 regs]) ti_25 rfl rfl rfl rfl rfl) rfl rfl fun a16 h16 => wms 1 h16 rfl fun a17 h17 => wl_ex (x_call h17 bd_19 rfl rfl rfl rfl rfl (apply_k code words locks regs cols f _ (h17.sh.at 1 rfl) (h17.sh.at 2 rfl) (h17.sh.at 3 rfl) hok hF hcb htot hfit)) (wanted_none rfl _) ?_; clear h10 h12 h13 h14 h16
 rintro a18 w18 ⟨_, ⟨c18, u18, rfl, hq18, hu18, hs18⟩, hf18⟩
 have h18 := (⟨hf18, h17.sh.call hs18 (by intro A hA b hb; first | (simp at hA; done) | (simp at hA; subst hA; first | exact Flat.noRd hb | exact (hb : False).elim) | (simp at hA; rcases hA with rfl | rfl <;> first | exact Flat.noRd hb | exact (hb : False).elim))⟩ : St 74 (fun _ => False) W a18 w18 _ _)
 clear hf18 hs18
 clear h17
 refine wms 1 h18 rfl fun a19 h19 => wv h19 (r_extract rfl rfl rfl) rfl rfl fun a20 h20 => wv h20 (r_extract rfl rfl rfl) rfl rfl fun a21 h21 => wl_ex (x_alloc h21 ti_25 rfl rfl rfl) (wanted_none rfl _) ?_; clear h18 h19 h20
 rintro a22 w22 ⟨b22, h22⟩; clear h21
 refine wl_ex (x_alloc h22 ti_28 rfl rfl rfl) (wanted_none rfl _) ?_
 rintro a23 w23 ⟨b23, h23⟩; clear h22
 refine wl_ex (x_stb (i := 1) (vs := [c18.v, u18.v, .int .i64 locks, .int .i64 8]) (cs' := [c18.v, u18.v, .int .i64 locks, .int .i64 8]) h23 ti_25 rfl rfl rfl rfl rfl rfl rfl (allOne_cons ((h23.sh.deep 2 rfl)).one (allOne_cons ((h23.sh.own 3 rfl)).one (allOne_cons rfl (allOne_cons rfl allOne_nil)))) (Nat.le_of_ble_eq_true rfl) rfl) (wanted_none rfl _) ?_
 rintro a24 w24 h24
 clear h23
 refine wl_ex (x_stb (i := 0) (vs := [.int .i64 0, .int .i64 0, .int .i64 0]) (cs' := [.int .i64 0, .int .i64 0, .int .i64 0]) h24 ti_28 rfl rfl rfl rfl rfl rfl rfl (allOne_cons rfl (allOne_cons rfl (allOne_cons rfl allOne_nil))) (Nat.le_of_ble_eq_true rfl) rfl) (wanted_none rfl _) ?_
 rintro a25 w25 h25
 clear h24
 refine wpList_nil <| hK15 _ _ <| wp_seq_k fun K26 hK26 => wp_region_lit <| wv h25 (r_ldbw (i := 4) (vs := [code.v, words.v, .int .i64 locks, .int .i64 regs]) ti_25 rfl rfl rfl rfl rfl) rfl rfl fun a27 h27 => wl_ex (x_call h27 bd_20 rfl rfl rfl rfl rfl (refCheck_c (code := code) (words := words) (locks := locks) (regs := regs) (h27.sh.at 5 rfl) (h27.sh.at 6 rfl))) (wanted_none rfl _) ?_; clear h25
 rintro a28 w28 ⟨_, ⟨rfl, hs28⟩, hf28⟩
 have h28 : St 74 (fun _ => False) W a28 w28 _ _ := ⟨hf28, h27.sh.call0 hs28⟩
 clear hf28 hs28
 clear h27
 refine wl_ex (x_alloc h28 ti_28 rfl rfl rfl) (wanted_none rfl _) ?_
 rintro a29 w29 ⟨b29, h29⟩; clear h28
 refine wl_ex (x_stb (i := 0) (vs := [.int .i64 ((checkG (pgOf code words locks regs)).code), .int .i64 ((checkG (pgOf code words locks regs)).thread), .int .i64 ((checkG (pgOf code words locks regs)).at_)]) (cs' := [.int .i64 ((checkG (pgOf code words locks regs)).code), .int .i64 ((checkG (pgOf code words locks regs)).thread), .int .i64 ((checkG (pgOf code words locks regs)).at_)]) h29 ti_28 rfl rfl rfl rfl rfl rfl rfl (allOne_cons rfl (allOne_cons rfl (allOne_cons rfl allOne_nil))) (Nat.le_of_ble_eq_true rfl) rfl) (wanted_none rfl _) ?_
 rintro a30 w30 h30
 clear h29
 refine wpList_nil <| hK26 _ _ <| wp_seq_k fun K31 hK31 => wp_region_lit <| wv h30 (r_ldbw (i := 2) (vs := [c18.v, u18.v, .int .i64 locks, .int .i64 8]) ti_25 rfl rfl rfl rfl rfl) rfl rfl fun a32 h32 => wl_ex (x_call h32 bd_21 rfl rfl rfl rfl rfl (none_c c18 u18 locks 8 _ (h32.sh.deep 3 rfl) (h32.sh.own 4 rfl))) (wanted_none rfl _) ?_; clear h30
 rintro a33 w33 ⟨_, ⟨rfl, hs33⟩, hf33⟩
 have h33 : St 74 (fun _ => False) W a33 w33 _ _ := ⟨hf33, h32.sh.call0 hs33⟩
 clear hf33 hs33
 clear h32
 refine wms 1 h33 rfl fun a34 h34 => wpList_nil <| hK31 _ _ <| wp_seq_k fun K35 hK35 => wp_seq_k fun K36 hK36 => wp_region_lit <| wv h34 (r_fieldB (r := 0) fl_28_0 rfl rfl rfl) rfl rfl fun a37 h37 => wv h37 (r_ldb (i := 0) ti_26 rfl rfl rfl rfl) rfl rfl fun a38 h38 => wv h38 (r_neqI (p := (checkG (pgOf code words locks regs)).code) (q := 0) rfl rfl rfl) rfl rfl fun a39 h39 => wpList_nil <| hK36 _ _ <| x_condF h39 rfl (by rw [hz]; rfl) ?_; clear h33 h34 h37 h38
 refine wp_skip <| hK35 _ _ ?_
 have h40 : St 74 (fun _ => False) W a39 w33 [(1, cols.v), (2, .pointer (some ⟨b3, 0, none⟩)), (5, .pointer (some ⟨b22, 0, none⟩)), (6, .pointer (some ⟨b23, 0, none⟩)), (8, .bool (noneP (pgOf c18 u18 locks 8)))] [.blk b29 28 [.int .i64 ((checkG (pgOf code words locks regs)).code), .int .i64 ((checkG (pgOf code words locks regs)).thread), .int .i64 ((checkG (pgOf code words locks regs)).at_)], .blk b23 28 [.int .i64 0, .int .i64 0, .int .i64 0], .blk b22 25 [c18.v, u18.v, .int .i64 locks, .int .i64 8], .deep 33 c18, .own 3 u18, .blk b3 25 [code.v, words.v, .int .i64 locks, .int .i64 regs], .at_ code, .at_ words, .at_ cols] := h39.nrm ⟨rfl, rfl, rfl, rfl, rfl, trivial⟩ [0, 1, 2, 3, 4, 5, 6, 7, 8] (by decide) ⟨rfl, rfl, rfl, rfl, rfl, rfl, rfl, rfl, rfl, trivial⟩
 clear h39
 refine wp_seq_k fun K41 hK41 => wp_region_lit <| wv h40 (r_ldbw (i := 5) (vs := [code.v, words.v, .int .i64 locks, .int .i64 regs]) ti_25 rfl rfl rfl rfl rfl) rfl rfl fun a42 h42 => wms 1 h42 rfl fun a43 h43 => wl_ex (x_call h43 bd_22 rfl rfl rfl rfl rfl (rColours_c code words locks regs cols f _ (h43.sh.at 6 rfl) (h43.sh.at 7 rfl) (h43.sh.at 8 rfl) hok hF)) (wanted_none rfl _) ?_; clear h40 h42
 rintro a44 w44 ⟨_, ⟨rfl, hs44⟩, hf44⟩
 have h44 : St 74 (fun _ => False) W a44 w44 _ _ := ⟨hf44, h43.sh.call0 hs44⟩
 clear hf44 hs44
 clear h43
 refine wms 1 h44 rfl fun a45 h45 => wpList_nil <| hK41 _ _ <| wp_seq_k fun K46 hK46 => wp_seq_k fun K47 hK47 => wp_region_lit <| wms 1 h45 rfl fun a48 h48 => wv h48 (r_not rfl rfl) rfl rfl fun a49 h49 => wpList_nil <| hK47 _ _ <| x_condF h49 rfl (by rw [hcb]; rfl) ?_; clear h44 h45 h48
 refine wp_skip <| hK46 _ _ <| wp_seq_k fun K50 hK50 => wp_region_lit <| wv h49 (r_ldbw (i := 5) (vs := [code.v, words.v, .int .i64 locks, .int .i64 regs]) ti_25 rfl rfl rfl rfl rfl) rfl rfl fun a51 h51 => wms 1 h51 rfl fun a52 h52 => wl_ex (x_call h52 bd_23 rfl rfl rfl rfl rfl (rApply_k code words locks regs cols _ (h52.sh.at 6 rfl) (h52.sh.at 7 rfl) (h52.sh.at 8 rfl) hok hcc hcr htot hfit)) (wanted_none rfl _) ?_; clear h49 h51
 rintro a53 w53 ⟨_, ⟨c53, u53, rfl, hq53, hu53, hs53⟩, hf53⟩
 have h53 := (⟨hf53, h52.sh.call hs53 (by intro A hA b hb; first | (simp at hA; done) | (simp at hA; subst hA; first | exact Flat.noRd hb | exact (hb : False).elim) | (simp at hA; rcases hA with rfl | rfl <;> first | exact Flat.noRd hb | exact (hb : False).elim))⟩ : St 74 (fun _ => False) W a53 w53 _ _)
 clear hf53 hs53
 clear h52
 refine wms 1 h53 rfl fun a54 h54 => wv h54 (r_extract rfl rfl rfl) rfl rfl fun a55 h55 => wv h55 (r_extract rfl rfl rfl) rfl rfl fun a56 h56 => wl_ex (x_alloc h56 ti_25 rfl rfl rfl) (wanted_none rfl _) ?_; clear h53 h54 h55
 rintro a57 w57 ⟨b57, h57⟩; clear h56
 refine wl_ex (x_alloc h57 ti_28 rfl rfl rfl) (wanted_none rfl _) ?_
 rintro a58 w58 ⟨b58, h58⟩; clear h57
 refine wl_ex (x_stb (i := 1) (vs := [c53.v, u53.v, .int .i64 locks, .int .i64 8]) (cs' := [c53.v, u53.v, .int .i64 locks, .int .i64 8]) h58 ti_25 rfl rfl rfl rfl rfl rfl rfl (allOne_cons ((h58.sh.deep 2 rfl)).one (allOne_cons ((h58.sh.own 3 rfl)).one (allOne_cons rfl (allOne_cons rfl allOne_nil)))) (Nat.le_of_ble_eq_true rfl) rfl) (wanted_none rfl _) ?_
 rintro a59 w59 h59
 clear h58
 refine wl_ex (x_stb (i := 0) (vs := [.int .i64 0, .int .i64 0, .int .i64 0]) (cs' := [.int .i64 0, .int .i64 0, .int .i64 0]) h59 ti_28 rfl rfl rfl rfl rfl rfl rfl (allOne_cons rfl (allOne_cons rfl (allOne_cons rfl allOne_nil))) (Nat.le_of_ble_eq_true rfl) rfl) (wanted_none rfl _) ?_
 rintro a60 w60 h60
 clear h59
 refine wpList_nil <| hK50 _ _ <| wp_seq_k fun K61 hK61 => wp_seq_k fun K62 hK62 => wp_region_lit <| wv h60 (r_fieldB (r := 0) fl_28_0 rfl rfl rfl) rfl rfl fun a63 h63 => wv h63 (r_ldb (i := 0) ti_26 rfl rfl rfl rfl) rfl rfl fun a64 h64 => wv h64 (r_neqN (p := 0) (q := 0) rfl rfl rfl) rfl rfl fun a65 h65 => wpList_nil <| hK62 _ _ <| x_condF h65 rfl (by decide) <| wp_skip <| hK61 _ _ <| wp_seq_k fun K66 hK66 => ?_; clear h60 h63 h64
 refine wp_region_lit <| wv h65 (r_ldbw (i := 6) (vs := [c18.v, u18.v, .int .i64 locks, .int .i64 8]) ti_25 rfl rfl rfl rfl rfl) rfl rfl fun a67 h67 => wv h67 (r_ldbw (i := 1) (vs := [c53.v, u53.v, .int .i64 locks, .int .i64 8]) ti_25 rfl rfl rfl rfl rfl) rfl rfl fun a68 h68 => wl_ex (x_call h68 bd_24 rfl rfl rfl rfl rfl (same_c c18 u18 locks 8 c53 u53 locks 8 _ (h68.sh.deep 7 rfl) (h68.sh.own 8 rfl) (h68.sh.deep 2 rfl) (h68.sh.own 3 rfl))) (wanted_none rfl _) ?_; clear h65 h67
 rintro a69 w69 ⟨_, ⟨rfl, hs69⟩, hf69⟩
 have h69 : St 74 (fun _ => False) W a69 w69 _ _ := ⟨hf69, h68.sh.call0 hs69⟩
 clear hf69 hs69
 clear h68
 refine wms 1 h69 rfl fun a70 h70 => wpList_nil <| hK66 _ _ ?_; clear h69
 have h71 : St 74 (fun _ => False) W a70 w69 [(6, .pointer (some ⟨b23, 0, none⟩)), (12, .bool (decide (pgOf c18 u18 locks 8 = pgOf c53 u53 locks 8)))] [.blk b58 28 [.int .i64 0, .int .i64 0, .int .i64 0], .blk b57 25 [c53.v, u53.v, .int .i64 locks, .int .i64 8], .deep 33 c53, .own 3 u53, .blk b29 28 [.int .i64 ((checkG (pgOf code words locks regs)).code), .int .i64 ((checkG (pgOf code words locks regs)).thread), .int .i64 ((checkG (pgOf code words locks regs)).at_)], .blk b23 28 [.int .i64 0, .int .i64 0, .int .i64 0], .blk b22 25 [c18.v, u18.v, .int .i64 locks, .int .i64 8], .deep 33 c18, .own 3 u18, .blk b3 25 [code.v, words.v, .int .i64 locks, .int .i64 regs], .at_ code, .at_ words, .at_ cols] := h70.nrm ⟨rfl, rfl, trivial⟩ [0, 1, 2, 3, 4, 5, 6, 7, 8, 9, 10, 11, 12] (by decide) ⟨rfl, rfl, rfl, rfl, rfl, rfl, rfl, rfl, rfl, rfl, rfl, rfl, rfl, trivial⟩
 clear h70
 refine wp_seq_k fun K72 hK72 => wp_region_lit <| wv h71 (r_fieldB (r := 0) fl_28_0 rfl rfl rfl) rfl rfl fun a73 h73 => wv h73 (r_ldb (i := 5) ti_26 rfl rfl rfl rfl) rfl rfl fun a74 h74 => wv h74 (r_eqlN (p := 0) (q := 0) rfl rfl rfl) rfl rfl fun a75 h75 => wms 1 h75 rfl fun a76 h76 => wl_val h76 (r_move rfl rfl) (wanted_yes h76.fr rfl rfl rfl rfl (by decide)) rfl rfl fun a77 h77 => wv h77 (r_pickT rfl rfl (by decide) rfl) rfl rfl fun a78 h78 => wms 1 h78 rfl fun a79 h79 => wpList_nil <| hK72 _ _ <| wp_ret ?_; clear h71 h73 h74 h75 h76 h77 h78
 try simp only [Exit.then, Exit.inBlock]
 refine x_ret1 (fn := Try.f4) (t := 4) rfl h79 rfl <| ⟨?_, (h79.sh.sel [] (by decide) trivial)⟩
 congr 1
 refine decide_eq_true (pg_eq2 ?_ ?_)
 · simp only [*]
 · simp only [*]

theorem least_nat {n : Nat} {p : Nat → Prop} (h : ¬ ∀ t, t < n → ¬ p t) : ∃ k, k < n ∧ p k ∧ ∀ j, j < k → ¬ p j := by
  induction n with
  | zero => exact absurd (fun t ht => absurd ht (Nat.not_lt_zero t)) h
  | succ n ih =>
    by_cases h2 : ∀ t, t < n → ¬ p t
    · by_cases h3 : p n
      · exact ⟨n, Nat.lt_succ_self n, h3, h2⟩
      · exact absurd (fun t ht => by
          rcases Nat.lt_or_eq_of_le (Nat.le_of_lt_succ ht) with h4 | h4
          · exact h2 t h4
          · subst h4; exact h3) h
    · obtain ⟨k, h4, h5⟩ := ih h2
      exact ⟨k, by omega, h5⟩
theorem allocApplies_any (code : Ls (Ls Ins)) (words : Ls Int) (cols : Ls (Ls Int)) (locks regs : Int) (W : World) (hcode : code.At W) (hwords : words.At W) (hcols : cols.At W) : Rets Try.prog 4 [.agg #[code.v, words.v, .int .i64 locks, .int .i64 regs], cols.v] W (fun v w' => v = .bool true ∧ Sh0 W w' []) := by
  cases hv : vastG (code.l.map (·.l)) words.l with
  | true => exact allocApplies_v code words locks regs cols W hcode hwords hcols hv
  | false =>
    rcases Nat.lt_or_ge 100 cols.l.length with hc9 | hc9
    · exact allocApplies_n code words locks regs cols W hcode hwords hcols hv hc9
    by_cases hok : OkPg (pgOf code words locks regs)
    · obtain ⟨f, hF⟩ := liveF3 code
      cases hcb : (colsB code.l cols.l f regs.toNat) with
      | false => exact allocApplies_c code words locks regs cols f W hcode hwords hcols hv hc9 hok (fun t _ => hF t) hcb
      | true =>
        rcases Nat.lt_or_ge 64 (words.l.length + tSp cols.l regs.toNat code.l.length) with htot | htot
        · exact allocApplies_w code words locks regs cols f W hcode hwords hcols hv hc9 hok (fun t _ => hF t) hcb htot
        by_cases hfit : ∀ t, t < code.l.length → (apT (nth code.l t).l (nth cols.l t).l (words.l.length + tSp cols.l regs.toNat t) regs.toNat).length ≤ 400
        · exact allocApplies_k code words locks regs cols f W hcode hwords hcols hv hc9 hok (fun t _ => hF t) hcb htot hfit
        · obtain ⟨kk, h1, h2, h3⟩ := least_nat (n := code.l.length) (p := fun t => 400 < (apT (nth code.l t).l (nth cols.l t).l (words.l.length + tSp cols.l regs.toNat t) regs.toNat).length) (fun h => hfit fun t ht => Nat.le_of_not_lt (h t ht))
          exact allocApplies_l code words locks regs cols f kk W hcode hwords hcols hv hc9 hok (fun t _ => hF t) hcb htot h1 h2 (fun j hj => Nat.le_of_not_lt (h3 j hj))
    · exact allocApplies_b code words locks regs cols W hcode hwords hcols hv hc9 (fun h => hok (checkG_code_pos.1 h))
end Go.Proofs.Ytfpaahkleienoaa
