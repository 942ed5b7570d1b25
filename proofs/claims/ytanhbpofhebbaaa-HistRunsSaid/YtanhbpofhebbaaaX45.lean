/-
  Contracts of functions of this program and of the references, each walked once.
-/
import Derived.Test.YtanhbpofhebbaaaX44
import Derived.Test.YtanhbpofhebbaaaX6
import Derived.Test.YtanhbpofhebbaaaC2
namespace Go.Proofs.Ytanhbpofhebbaaa
open Go.RowKit
set_option linter.unusedSimpArgs false
set_option linter.unusedVariables false


theorem okH_1 : OkH [0] [⟨0, 0, 1, 1⟩] := ⟨by decide, by decide, fun i hi => by
  obtain rfl : i = 0 := by simpa using hi
  exact ⟨by decide, by decide, by decide, by decide, .inl rfl⟩⟩
theorem may_1 : mayB [0] [⟨0, 0, 1, 1⟩] = false := by decide +kernel

set_option maxRecDepth 100000 in
set_option maxHeartbeats 8000000 in
theorem histRuns_v (code : Ls (Ls Ins)) (words script : Ls Int) (locks regs : Int) (W : World) (hcode : code.At W) (hwords : words.At W) (hscript : script.At W) (hv : vastG (code.l.map (·.l)) words.l = true) :
    Rets Try.prog 5 [.agg #[code.v, words.v, .int .i64 locks, .int .i64 regs], script.v] W (fun v w' => v = .bool true ∧ Sh0 W w' []) := by
 refine x_enter (N := 45) Try.func5 rfl Try.ntmps5 (Nat.le_of_ble_eq_true rfl) fun a1 hf1 => ?_
 have h1 : St 45 (fun _ => False) W a1 W [(0, .agg #[code.v, words.v, .int .i64 locks, .int .i64 regs]), (1, script.v)] [.at_ code, .at_ words, .at_ script] := ⟨hf1.sub ⟨rfl, rfl, trivial⟩, Sh0.ext3 hcode hwords hscript⟩
 clear hf1
 refine wp_seq_k fun K2 hK2 => wp_region_lit <| wl_ex (x_box (cs := [code.v, words.v, .int .i64 locks, .int .i64 regs]) h1 rfl rfl rfl rfl rfl) (wanted_none rfl _) ?_
 rintro a3 w3 ⟨b3, h3⟩; clear h1
 refine wms 1 h3 rfl fun a4 h4 => wpList_nil <| hK2 _ _ <| wp_seq_k fun K5 hK5 => wp_region_lit <| wl_ex (x_lit (n := 1) (cs := [.int .i64 0]) ([0] : List Int) h4 sl_24 ti_3 rfl rfl rfl (by decide) rfl (by kernel_rfl) rfl (fun q hq w h => Flat.inner _ _) (fun q hq b hb => (Flat.on _ _ hb).elim) rfl rfl) (wanted_none rfl _) ?_; clear h3
 rintro a6 w6 ⟨v6, h6⟩; clear h4
 refine wv h6 (r_build (cs := [.int .i64 0, .int .i64 0, .int .i64 1, .int .i64 1]) rfl rfl (by kernel_rfl)) rfl rfl fun a7 h7 => wl_ex (x_lit (n := 1) (cs := [.int .i64 0, .int .i64 0, .int .i64 1, .int .i64 1]) ([(⟨0, 0, 1, 1⟩ : Ins)] : List Ins) h7 sl_37 ti_36 rfl rfl rfl (by decide) rfl (by kernel_rfl) rfl (fun q hq w h => Flat.inner _ _) (fun q hq b hb => (Flat.on _ _ hb).elim) rfl rfl) (wanted_none rfl _) ?_; clear h6
 rintro a8 w8 ⟨v8, h8⟩; clear h7
 refine wl_ex (x_call h8 bd_21 rfl rfl rfl rfl rfl (may_k (⟨v6, [0]⟩ : Ls Int) (⟨v8, [(⟨0, 0, 1, 1⟩ : Ins)]⟩ : Ls Ins) _ (h8.sh.own 1 rfl) (h8.sh.own 0 rfl) okH_1)) (wanted_none rfl _) ?_
 rintro a9 w9 ⟨_, ⟨rfl, hs9⟩, hf9⟩
 have h9 : St 45 (fun _ => False) W a9 w9 _ _ := ⟨hf9, h8.sh.call0 hs9⟩
 clear hf9 hs9
 clear h8
 refine wms 1 h9 rfl fun a10 h10 => wv h10 (r_extract rfl rfl rfl) rfl rfl fun a11 h11 => wv h11 (r_extract rfl rfl rfl) rfl rfl fun a12 h12 => wl_ex (x_alloc h12 ti_31 rfl rfl rfl) (wanted_none rfl _) ?_; clear h9 h10 h11
 rintro a13 w13 ⟨b13, h13⟩; clear h12
 refine wms 1 h13 rfl fun a14 h14 => wl_ex (x_stb (i := 0) (vs := [.int .i64 0, .int .i64 0, .int .i64 0]) (cs' := [.int .i64 0, .int .i64 0, .int .i64 0]) h14 ti_31 rfl rfl rfl rfl rfl rfl rfl (allOne_cons rfl (allOne_cons rfl (allOne_cons rfl allOne_nil))) (Nat.le_of_ble_eq_true rfl) rfl) (wanted_none rfl _) ?_; clear h13
 rintro a15 w15 h15
 clear h14
 refine wpList_nil <| hK5 _ _ <| wp_seq_k fun K16 hK16 => wp_seq_k fun K17 hK17 => wp_region_lit <| wv h15 (r_fieldB (r := 0) fl_31_0 rfl rfl rfl) rfl rfl fun a18 h18 => wv h18 (r_ldb (i := 0) ti_22 rfl rfl rfl rfl) rfl rfl fun a19 h19 => wv h19 (r_neqN (p := 0) (q := 0) rfl rfl rfl) rfl rfl fun a20 h20 => wms 1 h20 rfl fun a21 h21 => wl_val h21 (r_move rfl rfl) (wanted_yes h21.fr rfl rfl rfl rfl (by decide)) rfl rfl fun a22 h22 => wv h22 (r_pickF rfl rfl (by decide) rfl) rfl rfl fun a23 h23 => wpList_nil <| hK17 _ _ <| x_condF h23 rfl may_1 ?_; clear h15 h18 h19 h20 h21 h22
 refine wp_skip <| hK16 _ _ <| wp_seq_k fun K24 hK24 => wp_seq_k fun K25 hK25 => wp_region_lit <| wv h23 (r_ldbw (i := 3) (vs := [code.v, words.v, .int .i64 locks, .int .i64 regs]) ti_28 rfl rfl rfl rfl rfl) rfl rfl fun a26 h26 => wl_ex (x_call h26 bd_18 rfl rfl rfl rfl rfl (vast_c (code := code) (words := words) (locks := locks) (regs := regs) (h26.sh.at 4 rfl) (h26.sh.at 5 rfl))) (wanted_none rfl _) ?_; clear h23
 rintro a27 w27 ⟨_, ⟨rfl, hs27⟩, hf27⟩
 have h27 : St 45 (fun _ => False) W a27 w27 _ _ := ⟨hf27, h26.sh.call0 hs27⟩
 clear hf27 hs27
 clear h26
 refine wpList_nil <| hK25 _ _ <| x_condT h27 rfl hv <| wp_seq_k fun K28 hK28 => wp_region_lit <| wms 1 h27 rfl fun a29 h29 => wpList_nil <| hK28 _ _ <| wp_ret ?_; clear h27
 try simp only [Exit.then, Exit.inBlock]
 refine x_ret1 (fn := Try.f5) (t := 4) rfl h29 rfl ?_
 exact ⟨rfl, (h29.sh.sel [] (by decide) trivial)⟩

set_option maxRecDepth 100000 in
set_option maxHeartbeats 8000000 in
theorem histRuns_b (code : Ls (Ls Ins)) (words script : Ls Int) (locks regs : Int) (W : World) (hcode : code.At W) (hwords : words.At W) (hscript : script.At W) (hv : vastG (code.l.map (·.l)) words.l = false) (hz : (checkG (pgOf code words locks regs)).code ≠ 0) :
    Rets Try.prog 5 [.agg #[code.v, words.v, .int .i64 locks, .int .i64 regs], script.v] W (fun v w' => v = .bool true ∧ Sh0 W w' []) := by
 refine x_enter (N := 45) Try.func5 rfl Try.ntmps5 (Nat.le_of_ble_eq_true rfl) fun a1 hf1 => ?_
 have h1 : St 45 (fun _ => False) W a1 W [(0, .agg #[code.v, words.v, .int .i64 locks, .int .i64 regs]), (1, script.v)] [.at_ code, .at_ words, .at_ script] := ⟨hf1.sub ⟨rfl, rfl, trivial⟩, Sh0.ext3 hcode hwords hscript⟩
 clear hf1
 refine wp_seq_k fun K2 hK2 => wp_region_lit <| wl_ex (x_box (cs := [code.v, words.v, .int .i64 locks, .int .i64 regs]) h1 rfl rfl rfl rfl rfl) (wanted_none rfl _) ?_
 rintro a3 w3 ⟨b3, h3⟩; clear h1
 refine wms 1 h3 rfl fun a4 h4 => wpList_nil <| hK2 _ _ <| wp_seq_k fun K5 hK5 => wp_region_lit <| wl_ex (x_lit (n := 1) (cs := [.int .i64 0]) ([0] : List Int) h4 sl_24 ti_3 rfl rfl rfl (by decide) rfl (by kernel_rfl) rfl (fun q hq w h => Flat.inner _ _) (fun q hq b hb => (Flat.on _ _ hb).elim) rfl rfl) (wanted_none rfl _) ?_; clear h3
 rintro a6 w6 ⟨v6, h6⟩; clear h4
 refine wv h6 (r_build (cs := [.int .i64 0, .int .i64 0, .int .i64 1, .int .i64 1]) rfl rfl (by kernel_rfl)) rfl rfl fun a7 h7 => wl_ex (x_lit (n := 1) (cs := [.int .i64 0, .int .i64 0, .int .i64 1, .int .i64 1]) ([(⟨0, 0, 1, 1⟩ : Ins)] : List Ins) h7 sl_37 ti_36 rfl rfl rfl (by decide) rfl (by kernel_rfl) rfl (fun q hq w h => Flat.inner _ _) (fun q hq b hb => (Flat.on _ _ hb).elim) rfl rfl) (wanted_none rfl _) ?_; clear h6
 rintro a8 w8 ⟨v8, h8⟩; clear h7
 refine wl_ex (x_call h8 bd_21 rfl rfl rfl rfl rfl (may_k (⟨v6, [0]⟩ : Ls Int) (⟨v8, [(⟨0, 0, 1, 1⟩ : Ins)]⟩ : Ls Ins) _ (h8.sh.own 1 rfl) (h8.sh.own 0 rfl) okH_1)) (wanted_none rfl _) ?_
 rintro a9 w9 ⟨_, ⟨rfl, hs9⟩, hf9⟩
 have h9 : St 45 (fun _ => False) W a9 w9 _ _ := ⟨hf9, h8.sh.call0 hs9⟩
 clear hf9 hs9
 clear h8
 refine wms 1 h9 rfl fun a10 h10 => wv h10 (r_extract rfl rfl rfl) rfl rfl fun a11 h11 => wv h11 (r_extract rfl rfl rfl) rfl rfl fun a12 h12 => wl_ex (x_alloc h12 ti_31 rfl rfl rfl) (wanted_none rfl _) ?_; clear h9 h10 h11
 rintro a13 w13 ⟨b13, h13⟩; clear h12
 refine wms 1 h13 rfl fun a14 h14 => wl_ex (x_stb (i := 0) (vs := [.int .i64 0, .int .i64 0, .int .i64 0]) (cs' := [.int .i64 0, .int .i64 0, .int .i64 0]) h14 ti_31 rfl rfl rfl rfl rfl rfl rfl (allOne_cons rfl (allOne_cons rfl (allOne_cons rfl allOne_nil))) (Nat.le_of_ble_eq_true rfl) rfl) (wanted_none rfl _) ?_; clear h13
 rintro a15 w15 h15
 clear h14
 refine wpList_nil <| hK5 _ _ <| wp_seq_k fun K16 hK16 => wp_seq_k fun K17 hK17 => wp_region_lit <| wv h15 (r_fieldB (r := 0) fl_31_0 rfl rfl rfl) rfl rfl fun a18 h18 => wv h18 (r_ldb (i := 0) ti_22 rfl rfl rfl rfl) rfl rfl fun a19 h19 => wv h19 (r_neqN (p := 0) (q := 0) rfl rfl rfl) rfl rfl fun a20 h20 => wms 1 h20 rfl fun a21 h21 => wl_val h21 (r_move rfl rfl) (wanted_yes h21.fr rfl rfl rfl rfl (by decide)) rfl rfl fun a22 h22 => wv h22 (r_pickF rfl rfl (by decide) rfl) rfl rfl fun a23 h23 => wpList_nil <| hK17 _ _ <| x_condF h23 rfl may_1 ?_; clear h15 h18 h19 h20 h21 h22
 refine wp_skip <| hK16 _ _ <| wp_seq_k fun K24 hK24 => wp_seq_k fun K25 hK25 => wp_region_lit <| wv h23 (r_ldbw (i := 3) (vs := [code.v, words.v, .int .i64 locks, .int .i64 regs]) ti_28 rfl rfl rfl rfl rfl) rfl rfl fun a26 h26 => wl_ex (x_call h26 bd_18 rfl rfl rfl rfl rfl (vast_c (code := code) (words := words) (locks := locks) (regs := regs) (h26.sh.at 4 rfl) (h26.sh.at 5 rfl))) (wanted_none rfl _) ?_; clear h23
 rintro a27 w27 ⟨_, ⟨rfl, hs27⟩, hf27⟩
 have h27 : St 45 (fun _ => False) W a27 w27 _ _ := ⟨hf27, h26.sh.call0 hs27⟩
 clear hf27 hs27
 clear h26
 refine wpList_nil <| hK25 _ _ <| x_condF h27 rfl hv <| wp_skip <| hK24 _ _ <| wp_seq_k fun K28 hK28 => wp_region_lit <| wv h27 (r_ldbw (i := 3) (vs := [code.v, words.v, .int .i64 locks, .int .i64 regs]) ti_28 rfl rfl rfl rfl rfl) rfl rfl fun a29 h29 => wl_ex (x_call h29 bd_20 rfl rfl rfl rfl rfl (refCheck_c (code := code) (words := words) (locks := locks) (regs := regs) (h29.sh.at 4 rfl) (h29.sh.at 5 rfl))) (wanted_none rfl _) ?_; clear h27
 rintro a30 w30 ⟨_, ⟨rfl, hs30⟩, hf30⟩
 have h30 : St 45 (fun _ => False) W a30 w30 _ _ := ⟨hf30, h29.sh.call0 hs30⟩
 clear hf30 hs30
 clear h29
 refine wl_ex (x_alloc h30 ti_31 rfl rfl rfl) (wanted_none rfl _) ?_
 rintro a31 w31 ⟨b31, h31⟩; clear h30
 refine wl_ex (x_stb (i := 0) (vs := [.int .i64 ((checkG (pgOf code words locks regs)).code), .int .i64 ((checkG (pgOf code words locks regs)).thread), .int .i64 ((checkG (pgOf code words locks regs)).at_)]) (cs' := [.int .i64 ((checkG (pgOf code words locks regs)).code), .int .i64 ((checkG (pgOf code words locks regs)).thread), .int .i64 ((checkG (pgOf code words locks regs)).at_)]) h31 ti_31 rfl rfl rfl rfl rfl rfl rfl (allOne_cons rfl (allOne_cons rfl (allOne_cons rfl allOne_nil))) (Nat.le_of_ble_eq_true rfl) rfl) (wanted_none rfl _) ?_
 rintro a32 w32 h32
 clear h31
 refine wpList_nil <| hK28 _ _ <| wp_seq_k fun K33 hK33 => wp_seq_k fun K34 hK34 => wp_region_lit <| wv h32 (r_fieldB (r := 0) fl_31_0 rfl rfl rfl) rfl rfl fun a35 h35 => wv h35 (r_ldb (i := 0) ti_22 rfl rfl rfl rfl) rfl rfl fun a36 h36 => wv h36 (r_neqI (p := (checkG (pgOf code words locks regs)).code) (q := 0) rfl rfl rfl) rfl rfl fun a37 h37 => wpList_nil <| hK34 _ _ ?_; clear h32 h35 h36
 have h38 : St 45 (fun _ => False) W a37 w32 [(1, script.v), (2, .pointer (some ⟨b3, 0, none⟩)), (6, .pointer (some ⟨b13, 0, none⟩)), (28, .bool (decide ((checkG (pgOf code words locks regs)).code ≠ 0)))] [.blk b31 31 [.int .i64 ((checkG (pgOf code words locks regs)).code), .int .i64 ((checkG (pgOf code words locks regs)).thread), .int .i64 ((checkG (pgOf code words locks regs)).at_)], .blk b13 31 [.int .i64 0, .int .i64 0, .int .i64 0], .own 36 (⟨v8, [(⟨0, 0, 1, 1⟩ : Ins)]⟩ : Ls Ins), .own 3 (⟨v6, [0]⟩ : Ls Int), .blk b3 28 [code.v, words.v, .int .i64 locks, .int .i64 regs], .at_ code, .at_ words, .at_ script] := h37.nrm ⟨rfl, rfl, rfl, rfl, trivial⟩ [0, 1, 2, 3, 4, 5, 6, 7] (by decide) ⟨rfl, rfl, rfl, rfl, rfl, rfl, rfl, rfl, trivial⟩
 clear h37
 refine x_condT h38 rfl (decide_eq_true hz) <| wp_seq_k fun K39 hK39 => wp_region_lit <| wms 1 h38 rfl fun a40 h40 => wpList_nil <| hK39 _ _ <| wp_ret ?_; clear h38
 try simp only [Exit.then, Exit.inBlock]
 refine x_ret1 (fn := Try.f5) (t := 4) rfl h40 rfl ?_
 exact ⟨rfl, (h40.sh.sel [] (by decide) trivial)⟩

set_option maxRecDepth 100000 in
set_option maxHeartbeats 8000000 in
theorem histRuns_k (code : Ls (Ls Ins)) (words script : Ls Int) (Lk R : Nat) (W : World) (hcode : code.At W) (hwords : words.At W) (hscript : script.At W) (hv : vastG (code.l.map (·.l)) words.l = false) (hok : OkPg (pgN code words Lk R)) :
    Rets Try.prog 5 [.agg #[code.v, words.v, .int .i64 ((Lk : Nat) : Int), .int .i64 ((R : Nat) : Int)], script.v] W (fun v w' => v = .bool true ∧ Sh0 W w' []) := by
 have hz : checkG (pgOf code words ((Lk : Nat) : Int) ((R : Nat) : Int)) = ⟨0, 0, 0⟩ := checkG_ok hok
 refine x_enter (N := 45) Try.func5 rfl Try.ntmps5 (Nat.le_of_ble_eq_true rfl) fun a1 hf1 => ?_
 have h1 : St 45 (fun _ => False) W a1 W [(0, .agg #[code.v, words.v, .int .i64 ((Lk : Nat) : Int), .int .i64 ((R : Nat) : Int)]), (1, script.v)] [.at_ code, .at_ words, .at_ script] := ⟨hf1.sub ⟨rfl, rfl, trivial⟩, Sh0.ext3 hcode hwords hscript⟩
 clear hf1
 refine wp_seq_k fun K2 hK2 => wp_region_lit <| wl_ex (x_box (cs := [code.v, words.v, .int .i64 ((Lk : Nat) : Int), .int .i64 ((R : Nat) : Int)]) h1 rfl rfl rfl rfl rfl) (wanted_none rfl _) ?_
 rintro a3 w3 ⟨b3, h3⟩; clear h1
 refine wms 1 h3 rfl fun a4 h4 => wpList_nil <| hK2 _ _ <| wp_seq_k fun K5 hK5 => wp_region_lit <| wl_ex (x_lit (n := 1) (cs := [.int .i64 0]) ([0] : List Int) h4 sl_24 ti_3 rfl rfl rfl (by decide) rfl (by kernel_rfl) rfl (fun q hq w h => Flat.inner _ _) (fun q hq b hb => (Flat.on _ _ hb).elim) rfl rfl) (wanted_none rfl _) ?_; clear h3
 rintro a6 w6 ⟨v6, h6⟩; clear h4
 refine wv h6 (r_build (cs := [.int .i64 0, .int .i64 0, .int .i64 1, .int .i64 1]) rfl rfl (by kernel_rfl)) rfl rfl fun a7 h7 => wl_ex (x_lit (n := 1) (cs := [.int .i64 0, .int .i64 0, .int .i64 1, .int .i64 1]) ([(⟨0, 0, 1, 1⟩ : Ins)] : List Ins) h7 sl_37 ti_36 rfl rfl rfl (by decide) rfl (by kernel_rfl) rfl (fun q hq w h => Flat.inner _ _) (fun q hq b hb => (Flat.on _ _ hb).elim) rfl rfl) (wanted_none rfl _) ?_; clear h6
 rintro a8 w8 ⟨v8, h8⟩; clear h7
 refine wl_ex (x_call h8 bd_21 rfl rfl rfl rfl rfl (may_k (⟨v6, [0]⟩ : Ls Int) (⟨v8, [(⟨0, 0, 1, 1⟩ : Ins)]⟩ : Ls Ins) _ (h8.sh.own 1 rfl) (h8.sh.own 0 rfl) okH_1)) (wanted_none rfl _) ?_
 rintro a9 w9 ⟨_, ⟨rfl, hs9⟩, hf9⟩
 have h9 : St 45 (fun _ => False) W a9 w9 _ _ := ⟨hf9, h8.sh.call0 hs9⟩
 clear hf9 hs9
 clear h8
 refine wms 1 h9 rfl fun a10 h10 => wv h10 (r_extract rfl rfl rfl) rfl rfl fun a11 h11 => wv h11 (r_extract rfl rfl rfl) rfl rfl fun a12 h12 => wl_ex (x_alloc h12 ti_31 rfl rfl rfl) (wanted_none rfl _) ?_; clear h9 h10 h11
 rintro a13 w13 ⟨b13, h13⟩; clear h12
 refine wms 1 h13 rfl fun a14 h14 => wl_ex (x_stb (i := 0) (vs := [.int .i64 0, .int .i64 0, .int .i64 0]) (cs' := [.int .i64 0, .int .i64 0, .int .i64 0]) h14 ti_31 rfl rfl rfl rfl rfl rfl rfl (allOne_cons rfl (allOne_cons rfl (allOne_cons rfl allOne_nil))) (Nat.le_of_ble_eq_true rfl) rfl) (wanted_none rfl _) ?_; clear h13
 rintro a15 w15 h15
 clear h14
 refine wpList_nil <| hK5 _ _ <| wp_seq_k fun K16 hK16 => wp_seq_k fun K17 hK17 => wp_region_lit <| wv h15 (r_fieldB (r := 0) fl_31_0 rfl rfl rfl) rfl rfl fun a18 h18 => wv h18 (r_ldb (i := 0) ti_22 rfl rfl rfl rfl) rfl rfl fun a19 h19 => wv h19 (r_neqN (p := 0) (q := 0) rfl rfl rfl) rfl rfl fun a20 h20 => wms 1 h20 rfl fun a21 h21 => wl_val h21 (r_move rfl rfl) (wanted_yes h21.fr rfl rfl rfl rfl (by decide)) rfl rfl fun a22 h22 => wv h22 (r_pickF rfl rfl (by decide) rfl) rfl rfl fun a23 h23 => wpList_nil <| hK17 _ _ <| x_condF h23 rfl may_1 ?_; clear h15 h18 h19 h20 h21 h22
 refine wp_skip <| hK16 _ _ <| wp_seq_k fun K24 hK24 => wp_seq_k fun K25 hK25 => wp_region_lit <| wv h23 (r_ldbw (i := 3) (vs := [code.v, words.v, .int .i64 ((Lk : Nat) : Int), .int .i64 ((R : Nat) : Int)]) ti_28 rfl rfl rfl rfl rfl) rfl rfl fun a26 h26 => wl_ex (x_call h26 bd_18 rfl rfl rfl rfl rfl (vast_c (code := code) (words := words) (locks := ((Lk : Nat) : Int)) (regs := ((R : Nat) : Int)) (h26.sh.at 4 rfl) (h26.sh.at 5 rfl))) (wanted_none rfl _) ?_; clear h23
 rintro a27 w27 ⟨_, ⟨rfl, hs27⟩, hf27⟩
 have h27 : St 45 (fun _ => False) W a27 w27 _ _ := ⟨hf27, h26.sh.call0 hs27⟩
 clear hf27 hs27
 clear h26
 refine wpList_nil <| hK25 _ _ <| x_condF h27 rfl hv <| wp_skip <| hK24 _ _ <| wp_seq_k fun K28 hK28 => wp_region_lit <| wv h27 (r_ldbw (i := 3) (vs := [code.v, words.v, .int .i64 ((Lk : Nat) : Int), .int .i64 ((R : Nat) : Int)]) ti_28 rfl rfl rfl rfl rfl) rfl rfl fun a29 h29 => wl_ex (x_call h29 bd_20 rfl rfl rfl rfl rfl (refCheck_c (code := code) (words := words) (locks := ((Lk : Nat) : Int)) (regs := ((R : Nat) : Int)) (h29.sh.at 4 rfl) (h29.sh.at 5 rfl))) (wanted_none rfl _) ?_; clear h27
 rintro a30 w30 ⟨_, ⟨rfl, hs30⟩, hf30⟩
 have h30 : St 45 (fun _ => False) W a30 w30 _ _ := ⟨hf30, h29.sh.call0 hs30⟩
 clear hf30 hs30
 clear h29
 refine wl_ex (x_alloc h30 ti_31 rfl rfl rfl) (wanted_none rfl _) ?_
 rintro a31 w31 ⟨b31, h31⟩; clear h30
 refine wl_ex (x_stb (i := 0) (vs := [.int .i64 ((checkG (pgOf code words ((Lk : Nat) : Int) ((R : Nat) : Int))).code), .int .i64 ((checkG (pgOf code words ((Lk : Nat) : Int) ((R : Nat) : Int))).thread), .int .i64 ((checkG (pgOf code words ((Lk : Nat) : Int) ((R : Nat) : Int))).at_)]) (cs' := [.int .i64 ((checkG (pgOf code words ((Lk : Nat) : Int) ((R : Nat) : Int))).code), .int .i64 ((checkG (pgOf code words ((Lk : Nat) : Int) ((R : Nat) : Int))).thread), .int .i64 ((checkG (pgOf code words ((Lk : Nat) : Int) ((R : Nat) : Int))).at_)]) h31 ti_31 rfl rfl rfl rfl rfl rfl rfl (allOne_cons rfl (allOne_cons rfl (allOne_cons rfl allOne_nil))) (Nat.le_of_ble_eq_true rfl) rfl) (wanted_none rfl _) ?_
 rintro a32 w32 h32
 clear h31
 refine wpList_nil <| hK28 _ _ <| wp_seq_k fun K33 hK33 => wp_seq_k fun K34 hK34 => wp_region_lit <| wv h32 (r_fieldB (r := 0) fl_31_0 rfl rfl rfl) rfl rfl fun a35 h35 => wv h35 (r_ldb (i := 0) ti_22 rfl rfl rfl rfl) rfl rfl fun a36 h36 => wv h36 (r_neqI (p := (checkG (pgOf code words ((Lk : Nat) : Int) ((R : Nat) : Int))).code) (q := 0) rfl rfl rfl) rfl rfl fun a37 h37 => wpList_nil <| hK34 _ _ ?_; clear h32 h35 h36
 have h38 : St 45 (fun _ => False) W a37 w32 [(1, script.v), (2, .pointer (some ⟨b3, 0, none⟩)), (6, .pointer (some ⟨b13, 0, none⟩)), (28, .bool (decide ((checkG (pgOf code words ((Lk : Nat) : Int) ((R : Nat) : Int))).code ≠ 0)))] [.blk b31 31 [.int .i64 ((checkG (pgOf code words ((Lk : Nat) : Int) ((R : Nat) : Int))).code), .int .i64 ((checkG (pgOf code words ((Lk : Nat) : Int) ((R : Nat) : Int))).thread), .int .i64 ((checkG (pgOf code words ((Lk : Nat) : Int) ((R : Nat) : Int))).at_)], .blk b13 31 [.int .i64 0, .int .i64 0, .int .i64 0], .own 36 (⟨v8, [(⟨0, 0, 1, 1⟩ : Ins)]⟩ : Ls Ins), .own 3 (⟨v6, [0]⟩ : Ls Int), .blk b3 28 [code.v, words.v, .int .i64 ((Lk : Nat) : Int), .int .i64 ((R : Nat) : Int)], .at_ code, .at_ words, .at_ script] := h37.nrm ⟨rfl, rfl, rfl, rfl, trivial⟩ [0, 1, 2, 3, 4, 5, 6, 7] (by decide) ⟨rfl, rfl, rfl, rfl, rfl, rfl, rfl, rfl, trivial⟩
 clear h37
 refine x_condF h38 rfl (by rw [hz]; rfl) ?_
 refine wp_skip <| hK33 _ _ <| wp_seq_k fun K39 hK39 => wp_region_lit <| wv h38 (r_ldbw (i := 4) (vs := [code.v, words.v, .int .i64 ((Lk : Nat) : Int), .int .i64 ((R : Nat) : Int)]) ti_28 rfl rfl rfl rfl rfl) rfl rfl fun a40 h40 => wms 1 h40 rfl fun a41 h41 => wl_ex (x_call h41 bd_22 rfl rfl rfl rfl rfl (of_c code words script Lk R _ (h41.sh.at 5 rfl) (h41.sh.at 6 rfl) (h41.sh.at 7 rfl) hok)) (wanted_none rfl _) ?_; clear h38 h40
 rintro a42 w42 ⟨_, ⟨s42, rfl, hoh, hom, hs42⟩, hf42⟩
 have h42 := (⟨hf42, h41.sh.call hs42 (by intro A hA b hb; first | (simp at hA; done) | (simp at hA; subst hA; first | exact Flat.noRd hb | exact (hb : False).elim) | (simp at hA; rcases hA with rfl | rfl <;> first | exact Flat.noRd hb | exact (hb : False).elim))⟩ : St 45 (fun _ => False) W a42 w42 _ _)
 clear hf42 hs42
 clear h41
 refine wms 1 h42 rfl fun a43 h43 => wpList_nil <| hK39 _ _ <| wp_seq_k fun K44 hK44 => wp_region_lit <| wv h43 (r_fieldB (r := 1) fl_28_1 rfl rfl rfl) rfl rfl fun a45 h45 => wv h45 (r_ldb (i := 5) ti_24 rfl rfl rfl rfl) rfl rfl fun a46 h46 => wms 1 h46 rfl fun a47 h47 => wl_ex (x_call h47 bd_21 rfl rfl rfl rfl rfl (may_k words s42 _ (h47.sh.at 7 rfl) (h47.sh.own 0 rfl) hoh)) (wanted_none rfl _) ?_; clear h42 h43 h45 h46
 rintro a48 w48 ⟨_, ⟨rfl, hs48⟩, hf48⟩
 have h48 : St 45 (fun _ => False) W a48 w48 _ _ := ⟨hf48, h47.sh.call0 hs48⟩
 clear hf48 hs48
 clear h47
 refine wms 1 h48 rfl fun a49 h49 => wv h49 (r_extract rfl rfl rfl) rfl rfl fun a50 h50 => wv h50 (r_extract rfl rfl rfl) rfl rfl fun a51 h51 => wms 1 h51 rfl fun a52 h52 => wl_ex (x_stb (i := 2) (vs := [.int .i64 0, .int .i64 0, .int .i64 0]) (cs' := [.int .i64 0, .int .i64 0, .int .i64 0]) h52 ti_31 rfl rfl rfl rfl rfl rfl rfl (allOne_cons rfl (allOne_cons rfl (allOne_cons rfl allOne_nil))) (Nat.le_of_ble_eq_true rfl) rfl) (wanted_none rfl _) ?_; clear h48 h49 h50 h51
 rintro a53 w53 h53
 clear h52
 refine wpList_nil <| hK44 _ _ <| wp_seq_k fun K54 hK54 => wp_region_lit <| wv h53 (r_fieldB (r := 0) fl_31_0 rfl rfl rfl) rfl rfl fun a55 h55 => wv h55 (r_ldb (i := 2) ti_22 rfl rfl rfl rfl) rfl rfl fun a56 h56 => wv h56 (r_eqlN (p := 0) (q := 0) rfl rfl rfl) rfl rfl fun a57 h57 => wms 1 h57 rfl fun a58 h58 => wl_val h58 (r_move rfl rfl) (wanted_yes h58.fr rfl rfl rfl rfl (by decide)) rfl rfl fun a59 h59 => wv h59 (r_pickT rfl rfl (by decide) rfl) rfl rfl fun a60 h60 => wms 1 h60 rfl fun a61 h61 => wpList_nil <| hK54 _ _ <| wp_ret ?_; clear h53 h55 h56 h57 h58 h59 h60
 try simp only [Exit.then, Exit.inBlock]
 refine x_ret1 (fn := Try.f5) (t := 4) rfl h61 rfl <| ⟨?_, (h61.sh.sel [] (by decide) trivial)⟩
 first | rfl | (rw [hom]; rfl) | (rw [hom]; done) | (simp [hom]; done)

theorem histRuns_any (code : Ls (Ls Ins)) (words script : Ls Int) (locks regs : Int) (W : World) (hcode : code.At W) (hwords : words.At W) (hscript : script.At W) : Rets Try.prog 5 [.agg #[code.v, words.v, .int .i64 locks, .int .i64 regs], script.v] W (fun v w' => v = .bool true ∧ Sh0 W w' []) := by
  cases hv : vastG (code.l.map (·.l)) words.l with
  | true => exact histRuns_v code words script locks regs W hcode hwords hscript hv
  | false =>
    by_cases hok : OkPg (pgOf code words locks regs)
    · obtain ⟨Lk, rfl⟩ := Int.eq_ofNat_of_zero_le hok.locks.1
      obtain ⟨R, rfl⟩ := Int.eq_ofNat_of_zero_le (show 0 ≤ regs by have := hok.regs.1; have e : (pgOf code words (Lk : Int) regs).regs = regs := rfl; omega)
      exact histRuns_k code words script Lk R W hcode hwords hscript hv hok
    · exact histRuns_b code words script locks regs W hcode hwords hscript hv (fun h => hok (checkG_code_pos.1 h))
end Go.Proofs.Ytanhbpofhebbaaa
