/-
  Contracts of functions of this program and of the references, each walked once.
-/
import Derived.Test.YtfpaahkleienoaaX2
import Derived.Test.YtfpaahkleienoaaS12
namespace Go.Proofs.Ytfpaahkleienoaa
open Go.RowKit
set_option linter.unusedSimpArgs false
set_option linter.unusedVariables false


/-- The register that an order writes; -1: none. -/
def wrG (x : Ins) : Int := if x.op = 13 then x.b else if x.op ≤ 8 ∨ x.op = 10 then x.a else -1

set_option maxRecDepth 100000 in
set_option maxHeartbeats 1000000 in
theorem writes_c (x : Ins) (W : World) (hop : 1 ≤ x.op) :
    Rets Try.prog 100 [.agg #[.int .i64 x.op, .int .i64 x.a, .int .i64 x.b, .int .i64 x.c]] W (fun v w' => v = .int .i64 (wrG x) ∧ Sh0 W w' []) := by
 refine x_enter (N := 20) Try.func100 rfl Try.ntmps100 (Nat.le_of_ble_eq_true rfl) fun a1 hf1 => ?_
 have h1 : St 20 (fun _ => False) W a1 W [(0, .agg #[.int .i64 x.op, .int .i64 x.a, .int .i64 x.b, .int .i64 x.c])] [] := ⟨hf1.sub ⟨rfl, trivial⟩, Sh0.start W⟩
 clear hf1
 refine wp_seq_k fun K2 hK2 => wp_region_lit ?_
 refine wl_ex (x_box (cs := [.int .i64 x.op, .int .i64 x.a, .int .i64 x.b, .int .i64 x.c]) h1 rfl rfl rfl rfl rfl) (wanted_none rfl _) ?_
 rintro a3 w3 ⟨b3, h3⟩; clear h1
 refine wms 1 h3 rfl fun a4 h4 => ?_; clear h3
 refine wpList_nil (hK2 _ _ ?_)
 refine wp_seq_k fun K5 hK5 => ?_
 refine wp_block ?_
 refine wp_seq_k fun K6 hK6 => wp_region_lit ?_
 refine wv h4 (r_fieldB (r := 0) fl_32_0 rfl rfl rfl) rfl rfl fun a7 h7 => ?_; clear h4
 refine wv h7 (r_ldb (i := 0) ti_3 rfl rfl rfl rfl) rfl rfl fun a8 h8 => ?_; clear h7
 refine wv h8 (r_eqlI (p := x.op) (q := 13) rfl rfl rfl) rfl rfl fun a9 h9 => ?_; clear h8
 refine wms 1 h9 rfl fun a10 h10 => ?_; clear h9
 refine wpList_nil (hK6 _ _ ?_)
 refine x_cond h10 rfl (fun hb11 => ?_) (fun hb11 => ?_)
 ·
  have hp11 : x.op = 13 := of_decide_eq_true hb11
  refine wp_seq_k fun K12 hK12 => wp_region_lit ?_
  refine wv h10 (r_fieldB (r := 2) fl_32_2 rfl rfl rfl) rfl rfl fun a13 h13 => ?_; clear h10
  refine wv h13 (r_ldb (i := 0) ti_3 rfl rfl rfl rfl) rfl rfl fun a14 h14 => ?_; clear h13
  refine wms 1 h14 rfl fun a15 h15 => ?_; clear h14
  refine wpList_nil (hK12 _ _ ?_)
  refine wp_ret ?_
  try simp only [Exit.then, Exit.inBlock]
  refine x_ret1 (fn := Try.f100) (t := 2) rfl h15 rfl ?_
  refine ⟨?_, (h15.sh.sel [] (by decide) trivial)⟩
  congr 1
  unfold wrG
  (repeat' split) <;> first | rfl | (exfalso; omega) | omega
 have hp11 : ¬ (x.op = 13) := of_decide_eq_false hb11
 refine wp_seq_k fun K16 hK16 => wp_region_lit ?_
 refine wv h10 (r_fieldB (r := 0) fl_32_0 rfl rfl rfl) rfl rfl fun a17 h17 => ?_; clear h10
 refine wv h17 (r_ldb (i := 0) ti_3 rfl rfl rfl rfl) rfl rfl fun a18 h18 => ?_; clear h17
 refine wv h18 (r_leqI (p := x.op) (q := 8) rfl rfl rfl) rfl rfl fun a19 h19 => ?_; clear h18
 refine wms 1 h19 rfl fun a20 h20 => ?_; clear h19
 rcases Bool.eq_false_or_eq_true (decide (x.op ≤ 8)) with hb21 | hb21
 ·
  have hp21 : x.op ≤ 8 := of_decide_eq_true hb21
  refine wl_skip h20 (wanted_no h20.fr rfl rfl rfl rfl hb21) rfl rfl fun a22 h22 => ?_; clear h20
  refine wl_skip h22 (wanted_no h22.fr rfl rfl rfl rfl hb21) rfl rfl fun a23 h23 => ?_; clear h22
  refine wl_skip h23 (wanted_no h23.fr rfl rfl rfl rfl hb21) rfl rfl fun a24 h24 => ?_; clear h23
  refine wv h24 (r_pickT rfl rfl hb21 rfl) rfl rfl fun a25 h25 => ?_; clear h24
  refine wms 1 h25 rfl fun a26 h26 => ?_; clear h25
  refine wpList_nil (hK16 _ _ ?_)
  refine x_condT h26 rfl rfl ?_
  refine wp_seq_k fun K27 hK27 => wp_region_lit ?_
  refine wv h26 (r_fieldB (r := 1) fl_32_1 rfl rfl rfl) rfl rfl fun a28 h28 => ?_; clear h26
  refine wv h28 (r_ldb (i := 0) ti_3 rfl rfl rfl rfl) rfl rfl fun a29 h29 => ?_; clear h28
  refine wms 1 h29 rfl fun a30 h30 => ?_; clear h29
  refine wpList_nil (hK27 _ _ ?_)
  refine wp_ret ?_
  try simp only [Exit.then, Exit.inBlock]
  refine x_ret1 (fn := Try.f100) (t := 2) rfl h30 rfl ?_
  refine ⟨?_, (h30.sh.sel [] (by decide) trivial)⟩
  congr 1
  unfold wrG
  (repeat' split) <;> first | rfl | (exfalso; omega) | omega
 have hp21 : ¬ (x.op ≤ 8) := of_decide_eq_false hb21
 refine wl_val h20 (r_fieldB (r := 0) fl_32_0 rfl rfl rfl) (wanted_yes h20.fr rfl rfl rfl rfl hb21) rfl rfl fun a31 h31 => ?_; clear h20
 refine wl_val h31 (r_ldb (i := 0) ti_3 rfl rfl rfl rfl) (wanted_yes h31.fr rfl rfl rfl rfl hb21) rfl rfl fun a32 h32 => ?_; clear h31
 refine wl_val h32 (r_eqlI (p := x.op) (q := 10) rfl rfl rfl) (wanted_yes h32.fr rfl rfl rfl rfl hb21) rfl rfl fun a33 h33 => ?_; clear h32
 refine wv h33 (r_pickF rfl rfl hb21 rfl) rfl rfl fun a34 h34 => ?_; clear h33
 refine wms 1 h34 rfl fun a35 h35 => ?_; clear h34
 refine wpList_nil (hK16 _ _ ?_)
 refine x_cond h35 rfl (fun hb36 => ?_) (fun hb36 => ?_)
 ·
  have hp36 : x.op = 10 := of_decide_eq_true hb36
  refine wp_seq_k fun K37 hK37 => wp_region_lit ?_
  refine wv h35 (r_fieldB (r := 1) fl_32_1 rfl rfl rfl) rfl rfl fun a38 h38 => ?_; clear h35
  refine wv h38 (r_ldb (i := 0) ti_3 rfl rfl rfl rfl) rfl rfl fun a39 h39 => ?_; clear h38
  refine wms 1 h39 rfl fun a40 h40 => ?_; clear h39
  refine wpList_nil (hK37 _ _ ?_)
  refine wp_ret ?_
  try simp only [Exit.then, Exit.inBlock]
  refine x_ret1 (fn := Try.f100) (t := 2) rfl h40 rfl ?_
  refine ⟨?_, (h40.sh.sel [] (by decide) trivial)⟩
  congr 1
  unfold wrG
  (repeat' split) <;> first | rfl | (exfalso; omega) | omega
 have hp36 : ¬ (x.op = 10) := of_decide_eq_false hb36
 refine wp_skip ?_
 refine hK5 _ _ ?_
 refine wp_seq_k fun K41 hK41 => wp_region_lit ?_
 refine wms 1 h35 rfl fun a42 h42 => ?_; clear h35
 refine wpList_nil (hK41 _ _ ?_)
 refine wp_ret ?_
 try simp only [Exit.then, Exit.inBlock]
 refine x_ret1 (fn := Try.f100) (t := 2) rfl h42 rfl ?_
 refine ⟨?_, (h42.sh.sel [] (by decide) trivial)⟩
 congr 1
 unfold wrG
 (repeat' split) <;> first | rfl | (exfalso; omega) | omega

end Go.Proofs.Ytfpaahkleienoaa
