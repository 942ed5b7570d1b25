/-
  Contracts of functions of this program and of the references, each walked once.
-/
import Derived.Test.YtfpaahkleienoaaX31
namespace Go.Proofs.Ytfpaahkleienoaa
open Go.RowKit
set_option linter.unusedSimpArgs false
set_option linter.unusedVariables false


/-- The register that an order writes; -1: none. -/
def wrG (x : Ins) : Int := if x.op = 13 then x.b else if x.op ≤ 8 ∨ x.op = 10 then x.a else -1

set_option maxRecDepth 100000 in
set_option maxHeartbeats 1000000 in
theorem writes_c (x : Ins) (W : World) (hop : 1 ≤ x.op) :
    Rets Try.prog 100 [.agg #[.int .i64 x.op, .int .i64 x.a, .int .i64 x.b, .int .i64 x.c]] W (fun v w' => v = .int .i64 (wrG x) ∧ Sh0 W w' []) := by
 refine x_enter (N := 20) Try.func100 rfl Try.ntmps100 (Nat.le_of_ble_eq_true rfl) fun a1 hf1 => ?_
 have h1 : St 20 (fun _ => False) W a1 W [(0, .agg #[.int .i64 x.op, .int .i64 x.a, .int .i64 x.b, .int .i64 x.c])] [] := ⟨hf1.sub ⟨rfl, trivial⟩, Sh0.start W⟩
 clear hf1
 refine wp_seq_k fun K2 hK2 => wp_region_lit <| wl_ex (x_box (cs := [.int .i64 x.op, .int .i64 x.a, .int .i64 x.b, .int .i64 x.c]) h1 rfl rfl rfl rfl rfl) (wanted_none rfl _) ?_
 rintro a3 w3 ⟨b3, h3⟩; clear h1
 refine wms 1 h3 rfl fun a4 h4 => wpList_nil <| hK2 _ _ <| wp_seq_k fun K5 hK5 => wp_block <| wp_seq_k fun K6 hK6 => wp_region_lit <| wv h4 (r_fieldB (r := 0) fl_32_0 rfl rfl rfl) rfl rfl fun a7 h7 => wv h7 (r_ldb (i := 0) ti_3 rfl rfl rfl rfl) rfl rfl fun a8 h8 => wv h8 (r_eqlI (p := x.op) (q := 13) rfl rfl rfl) rfl rfl fun a9 h9 => wms 1 h9 rfl fun a10 h10 => wpList_nil <| hK6 _ _ <| x_cond h10 rfl (fun hb11 => ?_) (fun hb11 => ?_); clear h3 h4 h7 h8 h9
 ·have hp11 : x.op = 13 := of_decide_eq_true hb11
  refine wp_seq_k fun K12 hK12 => wp_region_lit <| wv h10 (r_fieldB (r := 2) fl_32_2 rfl rfl rfl) rfl rfl fun a13 h13 => wv h13 (r_ldb (i := 0) ti_3 rfl rfl rfl rfl) rfl rfl fun a14 h14 => wms 1 h14 rfl fun a15 h15 => wpList_nil <| hK12 _ _ <| wp_ret ?_; clear h10 h13 h14
  try simp only [Exit.then, Exit.inBlock]
  refine x_ret1 (fn := Try.f100) (t := 2) rfl h15 rfl <| ⟨?_, (h15.sh.sel [] (by decide) trivial)⟩
  congr 1
  unfold wrG
  (repeat' split) <;> first | rfl | (exfalso; omega) | omega
 have hp11 : ¬ (x.op = 13) := of_decide_eq_false hb11
 refine wp_seq_k fun K16 hK16 => wp_region_lit <| wv h10 (r_fieldB (r := 0) fl_32_0 rfl rfl rfl) rfl rfl fun a17 h17 => wv h17 (r_ldb (i := 0) ti_3 rfl rfl rfl rfl) rfl rfl fun a18 h18 => wv h18 (r_leqI (p := x.op) (q := 8) rfl rfl rfl) rfl rfl fun a19 h19 => wms 1 h19 rfl fun a20 h20 => ?_; clear h10 h17 h18 h19
 rcases Bool.eq_false_or_eq_true (decide (x.op ≤ 8)) with hb21 | hb21
 ·have hp21 : x.op ≤ 8 := of_decide_eq_true hb21
  refine wl_skip h20 (wanted_no h20.fr rfl rfl rfl rfl hb21) rfl rfl fun a22 h22 => wl_skip h22 (wanted_no h22.fr rfl rfl rfl rfl hb21) rfl rfl fun a23 h23 => wl_skip h23 (wanted_no h23.fr rfl rfl rfl rfl hb21) rfl rfl fun a24 h24 => wv h24 (r_pickT rfl rfl hb21 rfl) rfl rfl fun a25 h25 => wms 1 h25 rfl fun a26 h26 => wpList_nil <| hK16 _ _ <| x_condT h26 rfl rfl <| wp_seq_k fun K27 hK27 => wp_region_lit <| wv h26 (r_fieldB (r := 1) fl_32_1 rfl rfl rfl) rfl rfl fun a28 h28 => wv h28 (r_ldb (i := 0) ti_3 rfl rfl rfl rfl) rfl rfl fun a29 h29 => wms 1 h29 rfl fun a30 h30 => wpList_nil ?_; clear h20 h22 h23 h24 h25 h26 h28 h29
  refine hK27 _ _ <| wp_ret ?_
  try simp only [Exit.then, Exit.inBlock]
  refine x_ret1 (fn := Try.f100) (t := 2) rfl h30 rfl <| ⟨?_, (h30.sh.sel [] (by decide) trivial)⟩
  congr 1
  unfold wrG
  (repeat' split) <;> first | rfl | (exfalso; omega) | omega
 have hp21 : ¬ (x.op ≤ 8) := of_decide_eq_false hb21
 refine wl_val h20 (r_fieldB (r := 0) fl_32_0 rfl rfl rfl) (wanted_yes h20.fr rfl rfl rfl rfl hb21) rfl rfl fun a31 h31 => wl_val h31 (r_ldb (i := 0) ti_3 rfl rfl rfl rfl) (wanted_yes h31.fr rfl rfl rfl rfl hb21) rfl rfl fun a32 h32 => wl_val h32 (r_eqlI (p := x.op) (q := 10) rfl rfl rfl) (wanted_yes h32.fr rfl rfl rfl rfl hb21) rfl rfl fun a33 h33 => wv h33 (r_pickF rfl rfl hb21 rfl) rfl rfl fun a34 h34 => wms 1 h34 rfl fun a35 h35 => wpList_nil <| hK16 _ _ <| x_cond h35 rfl (fun hb36 => ?_) (fun hb36 => ?_); clear h20 h31 h32 h33 h34
 ·have hp36 : x.op = 10 := of_decide_eq_true hb36
  refine wp_seq_k fun K37 hK37 => wp_region_lit <| wv h35 (r_fieldB (r := 1) fl_32_1 rfl rfl rfl) rfl rfl fun a38 h38 => wv h38 (r_ldb (i := 0) ti_3 rfl rfl rfl rfl) rfl rfl fun a39 h39 => wms 1 h39 rfl fun a40 h40 => wpList_nil <| hK37 _ _ <| wp_ret ?_; clear h35 h38 h39
  try simp only [Exit.then, Exit.inBlock]
  refine x_ret1 (fn := Try.f100) (t := 2) rfl h40 rfl <| ⟨?_, (h40.sh.sel [] (by decide) trivial)⟩
  congr 1
  unfold wrG
  (repeat' split) <;> first | rfl | (exfalso; omega) | omega
 have hp36 : ¬ (x.op = 10) := of_decide_eq_false hb36
 refine wp_skip <| hK5 _ _ <| wp_seq_k fun K41 hK41 => wp_region_lit <| wms 1 h35 rfl fun a42 h42 => wpList_nil <| hK41 _ _ <| wp_ret ?_; clear h35
 try simp only [Exit.then, Exit.inBlock]
 refine x_ret1 (fn := Try.f100) (t := 2) rfl h42 rfl <| ⟨?_, (h42.sh.sel [] (by decide) trivial)⟩
 congr 1
 unfold wrG
 (repeat' split) <;> first | rfl | (exfalso; omega) | omega

set_option maxRecDepth 100000 in
set_option maxHeartbeats 1000000 in
theorem rWrites_c (x : Ins) (W : World) (hop : 1 ≤ x.op) :
    Rets Try.prog 107 [.agg #[.int .i64 x.op, .int .i64 x.a, .int .i64 x.b, .int .i64 x.c]] W (fun v w' => v = .int .i64 (wrG x) ∧ Sh0 W w' []) := by
 refine x_enter (N := 21) Try.func107 rfl Try.ntmps107 (Nat.le_of_ble_eq_true rfl) fun a1 hf1 => ?_
 have h1 : St 21 (fun _ => False) W a1 W [(0, .agg #[.int .i64 x.op, .int .i64 x.a, .int .i64 x.b, .int .i64 x.c])] [] := ⟨hf1.sub ⟨rfl, trivial⟩, Sh0.start W⟩
 clear hf1
 refine wp_seq_k fun K2 hK2 => wp_region_lit <| wl_ex (x_box (cs := [.int .i64 x.op, .int .i64 x.a, .int .i64 x.b, .int .i64 x.c]) h1 rfl rfl rfl rfl rfl) (wanted_none rfl _) ?_
 rintro a3 w3 ⟨b3, h3⟩; clear h1
 refine wms 1 h3 rfl fun a4 h4 => wpList_nil <| hK2 _ _ <| wp_seq_k fun K5 hK5 => wp_seq_k fun K6 hK6 => wp_region_lit <| wv h4 (r_fieldB (r := 0) fl_32_0 rfl rfl rfl) rfl rfl fun a7 h7 => wv h7 (r_ldb (i := 0) ti_3 rfl rfl rfl rfl) rfl rfl fun a8 h8 => wpList_nil <| hK6 _ _ <| wp_block <| wp_seq_k fun K9 hK9 => wp_seq_k fun K10 hK10 => wp_region_lit ?_; clear h3 h4 h7
 refine wv h8 (r_eqlI (p := x.op) (q := 1) rfl rfl rfl) rfl rfl fun a11 h11 => wms 1 h11 rfl fun a12 h12 => wpList_nil <| hK10 _ _ <| x_cond h12 rfl (fun hb13 => ?_) (fun hb13 => ?_); clear h8 h11
 ·have hp13 : x.op = 1 := of_decide_eq_true hb13
  refine wp_skip <| hK9 _ _ <| x_condT h12 rfl hb13 <| wp_seq_k fun K14 hK14 => wp_region_lit <| wv h12 (r_fieldB (r := 1) fl_32_1 rfl rfl rfl) rfl rfl fun a15 h15 => wv h15 (r_ldb (i := 0) ti_3 rfl rfl rfl rfl) rfl rfl fun a16 h16 => wms 1 h16 rfl fun a17 h17 => wpList_nil <| hK14 _ _ <| wp_ret ?_; clear h12 h15 h16
  try simp only [Exit.then, Exit.inBlock]
  refine x_ret1 (fn := Try.f107) (t := 2) rfl h17 rfl <| ⟨?_, (h17.sh.sel [] (by decide) trivial)⟩
  congr 1
  unfold wrG
  (repeat' split) <;> first | rfl | (exfalso; omega) | omega
 have hp13 : ¬ (x.op = 1) := of_decide_eq_false hb13
 refine wp_seq_k fun K18 hK18 => wp_region_lit <| wv h12 (r_eqlI (p := x.op) (q := 2) rfl rfl rfl) rfl rfl fun a19 h19 => wms 1 h19 rfl fun a20 h20 => wpList_nil <| hK18 _ _ <| x_cond h20 rfl (fun hb21 => ?_) (fun hb21 => ?_); clear h12 h19
 ·have hp21 : x.op = 2 := of_decide_eq_true hb21
  refine wp_skip <| hK9 _ _ <| x_condT h20 rfl hb21 <| wp_seq_k fun K22 hK22 => wp_region_lit <| wv h20 (r_fieldB (r := 1) fl_32_1 rfl rfl rfl) rfl rfl fun a23 h23 => wv h23 (r_ldb (i := 0) ti_3 rfl rfl rfl rfl) rfl rfl fun a24 h24 => wms 1 h24 rfl fun a25 h25 => wpList_nil <| hK22 _ _ <| wp_ret ?_; clear h20 h23 h24
  try simp only [Exit.then, Exit.inBlock]
  refine x_ret1 (fn := Try.f107) (t := 2) rfl h25 rfl <| ⟨?_, (h25.sh.sel [] (by decide) trivial)⟩
  congr 1
  unfold wrG
  (repeat' split) <;> first | rfl | (exfalso; omega) | omega
 have hp21 : ¬ (x.op = 2) := of_decide_eq_false hb21
 refine wp_seq_k fun K26 hK26 => wp_region_lit <| wv h20 (r_eqlI (p := x.op) (q := 3) rfl rfl rfl) rfl rfl fun a27 h27 => wms 1 h27 rfl fun a28 h28 => wpList_nil <| hK26 _ _ <| x_cond h28 rfl (fun hb29 => ?_) (fun hb29 => ?_); clear h20 h27
 ·have hp29 : x.op = 3 := of_decide_eq_true hb29
  refine wp_skip <| hK9 _ _ <| x_condT h28 rfl hb29 <| wp_seq_k fun K30 hK30 => wp_region_lit <| wv h28 (r_fieldB (r := 1) fl_32_1 rfl rfl rfl) rfl rfl fun a31 h31 => wv h31 (r_ldb (i := 0) ti_3 rfl rfl rfl rfl) rfl rfl fun a32 h32 => wms 1 h32 rfl fun a33 h33 => wpList_nil <| hK30 _ _ <| wp_ret ?_; clear h28 h31 h32
  try simp only [Exit.then, Exit.inBlock]
  refine x_ret1 (fn := Try.f107) (t := 2) rfl h33 rfl <| ⟨?_, (h33.sh.sel [] (by decide) trivial)⟩
  congr 1
  unfold wrG
  (repeat' split) <;> first | rfl | (exfalso; omega) | omega
 have hp29 : ¬ (x.op = 3) := of_decide_eq_false hb29
 refine wp_seq_k fun K34 hK34 => wp_region_lit <| wv h28 (r_eqlI (p := x.op) (q := 4) rfl rfl rfl) rfl rfl fun a35 h35 => wms 1 h35 rfl fun a36 h36 => wpList_nil <| hK34 _ _ <| x_cond h36 rfl (fun hb37 => ?_) (fun hb37 => ?_); clear h28 h35
 ·have hp37 : x.op = 4 := of_decide_eq_true hb37
  refine wp_skip <| hK9 _ _ <| x_condT h36 rfl hb37 <| wp_seq_k fun K38 hK38 => wp_region_lit <| wv h36 (r_fieldB (r := 1) fl_32_1 rfl rfl rfl) rfl rfl fun a39 h39 => wv h39 (r_ldb (i := 0) ti_3 rfl rfl rfl rfl) rfl rfl fun a40 h40 => wms 1 h40 rfl fun a41 h41 => wpList_nil <| hK38 _ _ <| wp_ret ?_; clear h36 h39 h40
  try simp only [Exit.then, Exit.inBlock]
  refine x_ret1 (fn := Try.f107) (t := 2) rfl h41 rfl <| ⟨?_, (h41.sh.sel [] (by decide) trivial)⟩
  congr 1
  unfold wrG
  (repeat' split) <;> first | rfl | (exfalso; omega) | omega
 have hp37 : ¬ (x.op = 4) := of_decide_eq_false hb37
 refine wp_seq_k fun K42 hK42 => wp_region_lit <| wv h36 (r_eqlI (p := x.op) (q := 5) rfl rfl rfl) rfl rfl fun a43 h43 => wms 1 h43 rfl fun a44 h44 => wpList_nil <| hK42 _ _ <| x_cond h44 rfl (fun hb45 => ?_) (fun hb45 => ?_); clear h36 h43
 ·have hp45 : x.op = 5 := of_decide_eq_true hb45
  refine wp_skip <| hK9 _ _ <| x_condT h44 rfl hb45 <| wp_seq_k fun K46 hK46 => wp_region_lit <| wv h44 (r_fieldB (r := 1) fl_32_1 rfl rfl rfl) rfl rfl fun a47 h47 => wv h47 (r_ldb (i := 0) ti_3 rfl rfl rfl rfl) rfl rfl fun a48 h48 => wms 1 h48 rfl fun a49 h49 => wpList_nil <| hK46 _ _ <| wp_ret ?_; clear h44 h47 h48
  try simp only [Exit.then, Exit.inBlock]
  refine x_ret1 (fn := Try.f107) (t := 2) rfl h49 rfl <| ⟨?_, (h49.sh.sel [] (by decide) trivial)⟩
  congr 1
  unfold wrG
  (repeat' split) <;> first | rfl | (exfalso; omega) | omega
 have hp45 : ¬ (x.op = 5) := of_decide_eq_false hb45
 refine wp_seq_k fun K50 hK50 => wp_region_lit <| wv h44 (r_eqlI (p := x.op) (q := 6) rfl rfl rfl) rfl rfl fun a51 h51 => wms 1 h51 rfl fun a52 h52 => wpList_nil <| hK50 _ _ <| x_cond h52 rfl (fun hb53 => ?_) (fun hb53 => ?_); clear h44 h51
 ·have hp53 : x.op = 6 := of_decide_eq_true hb53
  refine wp_skip <| hK9 _ _ <| x_condT h52 rfl hb53 <| wp_seq_k fun K54 hK54 => wp_region_lit <| wv h52 (r_fieldB (r := 1) fl_32_1 rfl rfl rfl) rfl rfl fun a55 h55 => wv h55 (r_ldb (i := 0) ti_3 rfl rfl rfl rfl) rfl rfl fun a56 h56 => wms 1 h56 rfl fun a57 h57 => wpList_nil <| hK54 _ _ <| wp_ret ?_; clear h52 h55 h56
  try simp only [Exit.then, Exit.inBlock]
  refine x_ret1 (fn := Try.f107) (t := 2) rfl h57 rfl <| ⟨?_, (h57.sh.sel [] (by decide) trivial)⟩
  congr 1
  unfold wrG
  (repeat' split) <;> first | rfl | (exfalso; omega) | omega
 have hp53 : ¬ (x.op = 6) := of_decide_eq_false hb53
 refine wp_seq_k fun K58 hK58 => wp_region_lit <| wv h52 (r_eqlI (p := x.op) (q := 7) rfl rfl rfl) rfl rfl fun a59 h59 => wms 1 h59 rfl fun a60 h60 => wpList_nil <| hK58 _ _ <| x_cond h60 rfl (fun hb61 => ?_) (fun hb61 => ?_); clear h52 h59
 ·have hp61 : x.op = 7 := of_decide_eq_true hb61
  refine wp_skip <| hK9 _ _ <| x_condT h60 rfl hb61 <| wp_seq_k fun K62 hK62 => wp_region_lit <| wv h60 (r_fieldB (r := 1) fl_32_1 rfl rfl rfl) rfl rfl fun a63 h63 => wv h63 (r_ldb (i := 0) ti_3 rfl rfl rfl rfl) rfl rfl fun a64 h64 => wms 1 h64 rfl fun a65 h65 => wpList_nil <| hK62 _ _ <| wp_ret ?_; clear h60 h63 h64
  try simp only [Exit.then, Exit.inBlock]
  refine x_ret1 (fn := Try.f107) (t := 2) rfl h65 rfl <| ⟨?_, (h65.sh.sel [] (by decide) trivial)⟩
  congr 1
  unfold wrG
  (repeat' split) <;> first | rfl | (exfalso; omega) | omega
 have hp61 : ¬ (x.op = 7) := of_decide_eq_false hb61
 refine wp_seq_k fun K66 hK66 => wp_region_lit <| wv h60 (r_eqlI (p := x.op) (q := 8) rfl rfl rfl) rfl rfl fun a67 h67 => wms 1 h67 rfl fun a68 h68 => wpList_nil <| hK66 _ _ <| x_cond h68 rfl (fun hb69 => ?_) (fun hb69 => ?_); clear h60 h67
 ·have hp69 : x.op = 8 := of_decide_eq_true hb69
  refine wp_skip <| hK9 _ _ <| x_condT h68 rfl hb69 <| wp_seq_k fun K70 hK70 => wp_region_lit <| wv h68 (r_fieldB (r := 1) fl_32_1 rfl rfl rfl) rfl rfl fun a71 h71 => wv h71 (r_ldb (i := 0) ti_3 rfl rfl rfl rfl) rfl rfl fun a72 h72 => wms 1 h72 rfl fun a73 h73 => wpList_nil <| hK70 _ _ <| wp_ret ?_; clear h68 h71 h72
  try simp only [Exit.then, Exit.inBlock]
  refine x_ret1 (fn := Try.f107) (t := 2) rfl h73 rfl <| ⟨?_, (h73.sh.sel [] (by decide) trivial)⟩
  congr 1
  unfold wrG
  (repeat' split) <;> first | rfl | (exfalso; omega) | omega
 have hp69 : ¬ (x.op = 8) := of_decide_eq_false hb69
 refine wp_region_lit <| wv h68 (r_eqlI (p := x.op) (q := 10) rfl rfl rfl) rfl rfl fun a74 h74 => wms 1 h74 rfl fun a75 h75 => wpList_nil <| hK9 _ _ <| x_cond h75 rfl (fun hb76 => ?_) (fun hb76 => ?_); clear h68 h74
 ·have hp76 : x.op = 10 := of_decide_eq_true hb76
  refine wp_seq_k fun K77 hK77 => wp_region_lit <| wv h75 (r_fieldB (r := 1) fl_32_1 rfl rfl rfl) rfl rfl fun a78 h78 => wv h78 (r_ldb (i := 0) ti_3 rfl rfl rfl rfl) rfl rfl fun a79 h79 => wms 1 h79 rfl fun a80 h80 => wpList_nil <| hK77 _ _ <| wp_ret ?_; clear h75 h78 h79
  try simp only [Exit.then, Exit.inBlock]
  refine x_ret1 (fn := Try.f107) (t := 2) rfl h80 rfl <| ⟨?_, (h80.sh.sel [] (by decide) trivial)⟩
  congr 1
  unfold wrG
  (repeat' split) <;> first | rfl | (exfalso; omega) | omega
 have hp76 : ¬ (x.op = 10) := of_decide_eq_false hb76
 refine wp_seq_k fun K81 hK81 => wp_region_lit <| wv h75 (r_eqlI (p := x.op) (q := 13) rfl rfl rfl) rfl rfl fun a82 h82 => wms 1 h82 rfl fun a83 h83 => wpList_nil <| hK81 _ _ <| x_cond h83 rfl (fun hb84 => ?_) (fun hb84 => ?_); clear h75 h82
 ·have hp84 : x.op = 13 := of_decide_eq_true hb84
  refine wp_seq_k fun K85 hK85 => wp_region_lit <| wv h83 (r_fieldB (r := 2) fl_32_2 rfl rfl rfl) rfl rfl fun a86 h86 => wv h86 (r_ldb (i := 0) ti_3 rfl rfl rfl rfl) rfl rfl fun a87 h87 => wms 1 h87 rfl fun a88 h88 => wpList_nil <| hK85 _ _ <| wp_ret ?_; clear h83 h86 h87
  try simp only [Exit.then, Exit.inBlock]
  refine x_ret1 (fn := Try.f107) (t := 2) rfl h88 rfl <| ⟨?_, (h88.sh.sel [] (by decide) trivial)⟩
  congr 1
  unfold wrG
  (repeat' split) <;> first | rfl | (exfalso; omega) | omega
 have hp84 : ¬ (x.op = 13) := of_decide_eq_false hb84
 refine wp_skip <| hK5 _ _ <| wp_seq_k fun K89 hK89 => wp_region_lit <| wms 1 h83 rfl fun a90 h90 => wpList_nil <| hK89 _ _ <| wp_ret ?_; clear h83
 try simp only [Exit.then, Exit.inBlock]
 refine x_ret1 (fn := Try.f107) (t := 2) rfl h90 rfl <| ⟨?_, (h90.sh.sel [] (by decide) trivial)⟩
 congr 1
 unfold wrG
 (repeat' split) <;> first | rfl | (exfalso; omega) | omega

end Go.Proofs.Ytfpaahkleienoaa
