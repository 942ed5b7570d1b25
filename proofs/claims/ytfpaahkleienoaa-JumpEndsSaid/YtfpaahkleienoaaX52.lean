/-
  Contracts of functions of this program and of the references, each walked once.
-/
import Derived.Test.YtfpaahkleienoaaX51
import Derived.Test.YtfpaahkleienoaaX33
namespace Go.Proofs.Ytfpaahkleienoaa
open Go.RowKit
set_option linter.unusedSimpArgs false
set_option linter.unusedVariables false


/-- Is one of an order's numbers a register that is read, and not written? -/
def cpK (x : Ins) (k : Nat) : Bool := decide (kAt (kindsB x.op) k = 114) && !(decide (k = 0) && decide (0 ≤ wrG x)) && !(decide (x.op = 13) && decide (k = 1))
def cpStep (f : Int → Option Int) (x y : Ins) (k : Nat) : Ins := if cpK x k = true then (match f (nth [y.a, y.b, y.c] k) with | some b => putK y k b | none => y) else y
def cpTo (f : Int → Option Int) (x : Ins) : Nat → Ins
  | 0 => x
  | k + 1 => cpStep f x (cpTo f x k) k
/-- The order, reading other registers. -/
def copyIns (f : Int → Option Int) (x : Ins) : Ins := cpTo f x (kindsB x.op).size
theorem cp_no {f : Int → Option Int} {x y : Ins} {k : Nat} (h : y = cpTo f x k) (hk : cpK x k = false) : y = cpTo f x (k + 1) := by
  rw [cpTo, cpStep, if_neg (by rw [hk]; decide)]; exact h
theorem cp_none {f : Int → Option Int} {x y : Ins} {k : Nat} (h : y = cpTo f x k) (hf : f (nth [y.a, y.b, y.c] k) = none) : y = cpTo f x (k + 1) := by
  rw [cpTo, cpStep, ← h, hf]
  split <;> rfl
theorem cp_some {f : Int → Option Int} {x y : Ins} {k : Nat} {b : Int} (h : y = cpTo f x k) (hk : cpK x k = true) (hf : f (nth [y.a, y.b, y.c] k) = some b) : putK y k b = cpTo f x (k + 1) := by
  rw [cpTo, cpStep, if_pos hk, ← h, hf]
theorem putK_op (x : Ins) (k : Nat) (v : Int) : (putK x k v).op = x.op := by unfold putK; split; rfl; split <;> rfl
theorem cpTo_op (f : Int → Option Int) (x : Ins) : ∀ k, (cpTo f x k).op = x.op
  | 0 => rfl
  | k + 1 => by
    rw [cpTo, cpStep]
    split
    · split
      · rw [putK_op]; exact cpTo_op f x k
      · exact cpTo_op f x k
    · exact cpTo_op f x k
theorem putK_nth (y : Ins) (k j : Nat) (b : Int) (h : k < j) : nth [(putK y k b).a, (putK y k b).b, (putK y k b).c] j = nth [y.a, y.b, y.c] j := by
  rcases k with _ | _ | k
  · rcases j with _ | j
    · omega
    · rfl
  · rcases j with _ | _ | j
    · omega
    · omega
    · rfl
  · rcases j with _ | _ | _ | j
    · omega
    · omega
    · omega
    · rfl
theorem cpTo_nth (f : Int → Option Int) (x : Ins) : ∀ k j, k ≤ j → nth [(cpTo f x k).a, (cpTo f x k).b, (cpTo f x k).c] j = nth [x.a, x.b, x.c] j
  | 0, _, _ => rfl
  | k + 1, j, h => by
    rw [cpTo, cpStep]
    split
    · split
      · rw [putK_nth _ _ _ _ (by omega)]; exact cpTo_nth f x k j (by omega)
      · exact cpTo_nth f x k j (by omega)
    · exact cpTo_nth f x k j (by omega)
theorem cpTo_at (f : Int → Option Int) (x : Ins) (k : Nat) : nth [(cpTo f x k).a, (cpTo f x k).b, (cpTo f x k).c] k = nth [x.a, x.b, x.c] k := cpTo_nth f x k k (Nat.le_refl _)
theorem some_getD {q : Option Int} (h : q.isSome = true) : q = some (q.getD 0) := by cases q with | none => cases h | some b => rfl
theorem cpK_n {x : Ins} {k : Nat} (h : ¬ kAt (kindsB x.op) k = 114) : cpK x k = false := by unfold cpK; rw [decide_eq_false h]; rfl
theorem cpK_w {x : Ins} {k : Nat} (h : k = 0) (h2 : 0 ≤ wrG x) : cpK x k = false := by unfold cpK; rw [decide_eq_true h, decide_eq_true h2]; simp
theorem cpK_c {x : Ins} {k : Nat} (h : x.op = 13) (h2 : k = 1) : cpK x k = false := by unfold cpK; rw [decide_eq_true h, decide_eq_true h2]; simp
theorem cpK_y {x : Ins} {k : Nat} (h : kAt (kindsB x.op) k = 114) (h1 : k ≠ 0 ∨ ¬ 0 ≤ wrG x) (h2 : x.op ≠ 13 ∨ k ≠ 1) : cpK x k = true := by
  unfold cpK
  rw [decide_eq_true h]
  have e1 : (decide (k = 0) && decide (0 ≤ wrG x)) = false := by rcases h1 with h1 | h1 <;> simp [h1]
  have e2 : (decide (x.op = 13) && decide (k = 1)) = false := by rcases h2 with h2 | h2 <;> simp [h2]
  rw [e1, e2]; rfl
set_option maxRecDepth 100000 in
set_option maxHeartbeats 4000000 in
theorem become_c (K : Nat → Prop) (x : Ins) (p : Option Nat) (l : List (Int × Int)) (W : World) (hS : Sh K W W [.mapO p l]) (hop : 1 ≤ x.op) :
    Rets Try.prog 53 [.agg #[.int .i64 x.op, .int .i64 x.a, .int .i64 x.b, .int .i64 x.c], .map p] W (fun v w' => v = .agg #[.int .i64 (copyIns (fun r => getZ r l) x).op, .int .i64 (copyIns (fun r => getZ r l) x).a, .int .i64 (copyIns (fun r => getZ r l) x).b, .int .i64 (copyIns (fun r => getZ r l) x).c] ∧ Sh K W w' [.mapO p l]) := by
 refine x_enter (N := 63) Try.func53 rfl Try.ntmps53 (Nat.le_of_ble_eq_true rfl) fun a1 hf1 => ?_
 have h1 : St 63 K W a1 W [(0, .agg #[.int .i64 x.op, .int .i64 x.a, .int .i64 x.b, .int .i64 x.c]), (1, .map p)] [.mapO p l] := ⟨hf1.sub ⟨rfl, rfl, trivial⟩, hS⟩
 clear hf1
 refine wp_seq_k fun K2 hK2 => wp_region_lit ?_
 refine wl_ex (x_box (cs := [.int .i64 x.op, .int .i64 x.a, .int .i64 x.b, .int .i64 x.c]) h1 rfl rfl rfl rfl rfl) (wanted_none rfl _) ?_
 rintro a3 w3 ⟨b3, h3⟩; clear h1
 refine wl_ex (x_alloc h3 ti_32 rfl rfl rfl) (wanted_none rfl _) ?_
 rintro a4 w4 ⟨b4, h4⟩; clear h3
 refine wpList_nil (hK2 _ _ ?_)
 refine wp_seq_k fun K5 hK5 => wp_region_lit ?_
 refine wv h4 (r_fieldB (r := 1) fl_32_1 rfl rfl rfl) rfl rfl fun a6 h6 => ?_; clear h4
 refine wv h6 (r_fieldB (r := 2) fl_32_2 rfl rfl rfl) rfl rfl fun a7 h7 => ?_; clear h6
 refine wv h7 (r_fieldB (r := 3) fl_32_3 rfl rfl rfl) rfl rfl fun a8 h8 => ?_; clear h7
 refine wl_ex (x_lit (n := 3) (cs := [.pointer (some ⟨b3, 1, none⟩), .pointer (some ⟨b3, 2, none⟩), .pointer (some ⟨b3, 3, none⟩)]) ([(⟨.pointer (some ⟨b3, 1, none⟩)⟩ : RV), (⟨.pointer (some ⟨b3, 2, none⟩)⟩ : RV), (⟨.pointer (some ⟨b3, 3, none⟩)⟩ : RV)] : List RV) h8 sl_172 ti_171 rfl rfl rfl (by decide) rfl (by kernel_rfl) rfl (fun q hq w h => Flat.inner _ _) (fun q hq b hb => (Flat.on _ _ hb).elim) rfl rfl) (wanted_none rfl _) ?_
 rintro a9 w9 ⟨v9, h9⟩; clear h8
 refine wms 1 h9 rfl fun a10 h10 => ?_; clear h9
 refine wpList_nil (hK5 _ _ ?_)
 refine wp_seq_k fun K11 hK11 => wp_region_lit ?_
 refine wv h10 (r_ldbw (i := 2) (vs := [.int .i64 x.op, .int .i64 x.a, .int .i64 x.b, .int .i64 x.c]) ti_32 rfl rfl rfl rfl rfl) rfl rfl fun a12 h12 => ?_; clear h10
 refine wl_ex (x_call h12 bd_100 rfl rfl rfl rfl rfl (writes_c x _ hop)) (wanted_none rfl _) ?_
 rintro a13 w13 ⟨_, ⟨rfl, hs13⟩, hf13⟩
 have h13 : St 63 K W a13 w13 _ _ := ⟨hf13, h12.sh.call0 hs13⟩
 clear hf13 hs13
 clear h12
 refine wms 1 h13 rfl fun a14 h14 => ?_; clear h13
 refine wpList_nil (hK11 _ _ ?_)
 refine wp_seq_k fun K15 hK15 => ?_
 refine wp_seq_k fun K16 hK16 => wp_region_lit ?_
 refine wv h14 (r_fieldB (r := 0) fl_32_0 rfl rfl rfl) rfl rfl fun a17 h17 => ?_; clear h14
 refine wv h17 (r_ldb (i := 2) ti_3 rfl rfl rfl rfl) rfl rfl fun a18 h18 => ?_; clear h17
 refine wl_ex (x_call h18 bd_101 rfl rfl rfl rfl rfl (kinds_c x.op _)) (wanted_none rfl _) ?_
 rintro a19 w19 ⟨_, ⟨rfl, hs19⟩, hf19⟩
 have h19 : St 63 K W a19 w19 _ _ := ⟨hf19, h18.sh.call0 hs19⟩
 clear hf19 hs19
 clear h18
 refine wl_ex (x_range (s := kindsB x.op) h19 Try.underlying9 rfl rfl rfl rfl) (wanted_none rfl _) ?_
 rintro a20 w20 ⟨b20, h20⟩; clear h19
 refine wpList_nil (hK16 _ _ ?_)
 refine wp_block ?_
 refine x_loop (fun m a w => ∃ (k : Nat) (y : Ins), (k ≤ (kindsB x.op).size) ∧ (y = cpTo (fun r => getZ r l) x k) ∧ St 63 K W a w [(1, .map p), (2, .pointer (some ⟨b3, 0, none⟩)), (4, .pointer (some ⟨b4, 0, none⟩)), (5, v9), (6, .int .i64 (wrG x)), (20, .pointer (some ⟨b20, 0, none⟩))] [.iter b20 (kindsB x.op) k, .own 171 (⟨v9, [(⟨.pointer (some ⟨b3, 1, none⟩)⟩ : RV), (⟨.pointer (some ⟨b3, 2, none⟩)⟩ : RV), (⟨.pointer (some ⟨b3, 3, none⟩)⟩ : RV)]⟩ : Ls RV), .blk b4 32 [.int .i64 0, .int .i64 0, .int .i64 0, .int .i64 0], .blk b3 32 [.int .i64 y.op, .int .i64 y.a, .int .i64 y.b, .int .i64 y.c], .mapO p l] ∧ m = (kindsB x.op).size - k) ⟨_, 0, x, (Nat.zero_le _), (rfl), h20.nrm ⟨rfl, rfl, rfl, rfl, rfl, rfl, trivial⟩ [0, 1, 2, 3, 4] (by decide) ⟨rfl, rfl, rfl, rfl, rfl, trivial⟩, rfl⟩ ?_
 clear h20
 rintro m21 a21 w21 ⟨k, y, hk, hy, h21, hm21⟩
 have h3 := (kinds_small x.op).1
 have hyo : y.op = x.op := by rw [hy]; exact cpTo_op _ _ _
 refine wp_seq_k fun K22 hK22 => wp_region_lit ?_
 by_cases hn23 : k < (kindsB x.op).size
 ·
  refine wl_ex (x_next (i := 0) (s := (kindsB x.op)) (pos := k) h21 rfl rfl rfl hn23 ((kinds_small x.op).2 _ hn23) rfl rfl) (wanted_none rfl _) ?_
  rintro a24 w24 h24
  clear h21
  refine wv h24 (r_extract rfl rfl rfl) rfl rfl fun a25 h25 => ?_; clear h24
  refine wpList_nil (hK22 _ _ ?_)
  refine wp_seq_k fun K26 hK26 => ?_
  refine x_condT h25 rfl rfl ?_
  refine wp_skip ?_
  refine hK26 _ _ ?_
  refine wp_block ?_
  refine wp_seq_k fun K27 hK27 => wp_region_lit ?_
  refine wv h25 (r_extract rfl rfl rfl) rfl rfl fun a28 h28 => ?_; clear h25
  refine wv h28 (r_extract rfl rfl rfl) rfl rfl fun a29 h29 => ?_; clear h28
  refine wms 2 h29 rfl fun a30 h30 => ?_; clear h29
  refine wpList_nil (hK27 _ _ ?_)
  refine wp_seq_k fun K31 hK31 => ?_
  refine wp_seq_k fun K32 hK32 => wp_region_lit ?_
  refine wms 1 h30 rfl fun a33 h33 => ?_; clear h30
  refine wv h33 (r_neqI (p := (((kindsB x.op)[k]'hn23).toNat : Int)) (q := 114) rfl rfl rfl) rfl rfl fun a34 h34 => ?_; clear h33
  refine wms 1 h34 rfl fun a35 h35 => ?_; clear h34
  rcases Bool.eq_false_or_eq_true (decide ((((kindsB x.op)[k]'hn23).toNat : Int) ≠ 114)) with hb36 | hb36
  ·
   have hp36 : (((kindsB x.op)[k]'hn23).toNat : Int) ≠ 114 := of_decide_eq_true hb36
   refine wl_skip h35 (wanted_no h35.fr rfl rfl rfl rfl hb36) rfl rfl fun a37 h37 => ?_; clear h35
   refine wl_skip h37 (wanted_no h37.fr rfl rfl rfl rfl hb36) rfl rfl fun a38 h38 => ?_; clear h37
   refine wl_skip h38 (wanted_no h38.fr rfl rfl rfl rfl hb36) rfl rfl fun a39 h39 => ?_; clear h38
   refine wl_skip h39 (wanted_no2 h39.fr rfl rfl rfl rfl) rfl rfl fun a40 h40 => ?_; clear h39
   refine wl_skip h40 (wanted_no2 h40.fr rfl rfl rfl rfl) rfl rfl fun a41 h41 => ?_; clear h40
   refine wl_skip h41 (wanted_no h41.fr rfl rfl rfl rfl hb36) rfl rfl fun a42 h42 => ?_; clear h41
   refine wv h42 (r_pickT rfl rfl hb36 rfl) rfl rfl fun a43 h43 => ?_; clear h42
   refine wms 1 h43 rfl fun a44 h44 => ?_; clear h43
   refine wl_skip h44 (wanted_no h44.fr rfl rfl rfl rfl rfl) rfl rfl fun a45 h45 => ?_; clear h44
   refine wl_skip h45 (wanted_no h45.fr rfl rfl rfl rfl rfl) rfl rfl fun a46 h46 => ?_; clear h45
   refine wl_skip h46 (wanted_no h46.fr rfl rfl rfl rfl rfl) rfl rfl fun a47 h47 => ?_; clear h46
   refine wl_skip h47 (wanted_no h47.fr rfl rfl rfl rfl rfl) rfl rfl fun a48 h48 => ?_; clear h47
   refine wl_skip h48 (wanted_no2 h48.fr rfl rfl rfl rfl) rfl rfl fun a49 h49 => ?_; clear h48
   refine wl_skip h49 (wanted_no2 h49.fr rfl rfl rfl rfl) rfl rfl fun a50 h50 => ?_; clear h49
   refine wl_skip h50 (wanted_no h50.fr rfl rfl rfl rfl rfl) rfl rfl fun a51 h51 => ?_; clear h50
   refine wv h51 (r_pickT rfl rfl rfl rfl) rfl rfl fun a52 h52 => ?_; clear h51
   refine wpList_nil (hK32 _ _ ?_)
   have h53 : St 63 K W a52 w24 [(1, .map p), (2, .pointer (some ⟨b3, 0, none⟩)), (4, .pointer (some ⟨b4, 0, none⟩)), (5, v9), (6, .int .i64 (wrG x)), (7, .int .i64 ((k : Nat) : Int)), (20, .pointer (some ⟨b20, 0, none⟩)), (43, .bool true)] [.iter b20 (kindsB x.op) (k + 1), .own 171 (⟨v9, [(⟨.pointer (some ⟨b3, 1, none⟩)⟩ : RV), (⟨.pointer (some ⟨b3, 2, none⟩)⟩ : RV), (⟨.pointer (some ⟨b3, 3, none⟩)⟩ : RV)]⟩ : Ls RV), .blk b4 32 [.int .i64 0, .int .i64 0, .int .i64 0, .int .i64 0], .blk b3 32 [.int .i64 y.op, .int .i64 y.a, .int .i64 y.b, .int .i64 y.c], .mapO p l] := h52.nrm ⟨rfl, rfl, rfl, rfl, rfl, rfl, rfl, rfl, trivial⟩ [0, 1, 2, 3, 4] (by decide) ⟨rfl, rfl, rfl, rfl, rfl, trivial⟩
   clear h52
   refine x_condT h53 rfl rfl ?_
   refine wp_exit ?_
   change ∃ _m, _m < _ ∧ _
   refine ⟨_, ?_, (k + 1), y, ?_, ?_, h53.nrm ⟨rfl, rfl, rfl, rfl, rfl, rfl, trivial⟩ [0, 1, 2, 3, 4] (by decide) ⟨rfl, rfl, rfl, rfl, rfl, trivial⟩, rfl⟩
   · rw [hm21]; first | omega | (simp only [lens9]; omega)
   · omega
   · first | (exact cp_some hy (cpK_y (by rw [kAt_at (by assumption)]; first | assumption | omega) (by omega) (by omega)) (some_getD (by assumption))) | (exact cp_none hy (Option.not_isSome_iff_eq_none.1 (by rw [(by assumption : (getZ _ l).isSome = false)]; decide))) | (exact cp_no hy (cpK_n (by rw [kAt_at (by assumption)]; first | assumption | omega))) | (exact cp_no hy (cpK_w (by omega) (by omega))) | (exact cp_no hy (cpK_c (by omega) (by omega)))
  have hp36 : ¬ ((((kindsB x.op)[k]'hn23).toNat : Int) ≠ 114) := of_decide_eq_false hb36
  refine wl_val h35 (r_move rfl rfl) (wanted_yes h35.fr rfl rfl rfl rfl hb36) rfl rfl fun a54 h54 => ?_; clear h35
  refine wl_val h54 (r_eqlN (p := k) (q := 0) rfl rfl rfl) (wanted_yes h54.fr rfl rfl rfl rfl hb36) rfl rfl fun a55 h55 => ?_; clear h54
  refine wl_val h55 (r_move rfl rfl) (wanted_yes h55.fr rfl rfl rfl rfl hb36) rfl rfl fun a56 h56 => ?_; clear h55
  rcases Bool.eq_false_or_eq_true (decide (k = 0)) with hb57 | hb57
  ·
   have hp57 : k = 0 := of_decide_eq_true hb57
   refine wl_val h56 (r_move rfl rfl) (wanted_yes h56.fr rfl rfl rfl rfl hb57) rfl rfl fun a58 h58 => ?_; clear h56
   refine wl_val h58 (r_geqI (p := wrG x) (q := 0) rfl rfl rfl) (wanted_yes h58.fr rfl rfl rfl rfl hb57) rfl rfl fun a59 h59 => ?_; clear h58
   refine wl_val h59 (r_pickT rfl rfl hb57 rfl) (wanted_yes h59.fr rfl rfl rfl rfl hb36) rfl rfl fun a60 h60 => ?_; clear h59
   refine wv h60 (r_pickF rfl rfl hb36 rfl) rfl rfl fun a61 h61 => ?_; clear h60
   refine wms 1 h61 rfl fun a62 h62 => ?_; clear h61
   rcases Bool.eq_false_or_eq_true (decide (0 ≤ wrG x)) with hb63 | hb63
   ·
    have hp63 : 0 ≤ wrG x := of_decide_eq_true hb63
    refine wl_skip h62 (wanted_no h62.fr rfl rfl rfl rfl hb63) rfl rfl fun a64 h64 => ?_; clear h62
    refine wl_skip h64 (wanted_no h64.fr rfl rfl rfl rfl hb63) rfl rfl fun a65 h65 => ?_; clear h64
    refine wl_skip h65 (wanted_no h65.fr rfl rfl rfl rfl hb63) rfl rfl fun a66 h66 => ?_; clear h65
    refine wl_skip h66 (wanted_no h66.fr rfl rfl rfl rfl hb63) rfl rfl fun a67 h67 => ?_; clear h66
    refine wl_skip h67 (wanted_no2 h67.fr rfl rfl rfl rfl) rfl rfl fun a68 h68 => ?_; clear h67
    refine wl_skip h68 (wanted_no2 h68.fr rfl rfl rfl rfl) rfl rfl fun a69 h69 => ?_; clear h68
    refine wl_skip h69 (wanted_no h69.fr rfl rfl rfl rfl hb63) rfl rfl fun a70 h70 => ?_; clear h69
    refine wv h70 (r_pickT rfl rfl hb63 rfl) rfl rfl fun a71 h71 => ?_; clear h70
    refine wpList_nil (hK32 _ _ ?_)
    have h72 : St 63 K W a71 w24 [(1, .map p), (2, .pointer (some ⟨b3, 0, none⟩)), (4, .pointer (some ⟨b4, 0, none⟩)), (5, v9), (6, .int .i64 (wrG x)), (7, .int .i64 ((k : Nat) : Int)), (20, .pointer (some ⟨b20, 0, none⟩)), (43, .bool true)] [.iter b20 (kindsB x.op) (k + 1), .own 171 (⟨v9, [(⟨.pointer (some ⟨b3, 1, none⟩)⟩ : RV), (⟨.pointer (some ⟨b3, 2, none⟩)⟩ : RV), (⟨.pointer (some ⟨b3, 3, none⟩)⟩ : RV)]⟩ : Ls RV), .blk b4 32 [.int .i64 0, .int .i64 0, .int .i64 0, .int .i64 0], .blk b3 32 [.int .i64 y.op, .int .i64 y.a, .int .i64 y.b, .int .i64 y.c], .mapO p l] := h71.nrm ⟨rfl, rfl, rfl, rfl, rfl, rfl, rfl, rfl, trivial⟩ [0, 1, 2, 3, 4] (by decide) ⟨rfl, rfl, rfl, rfl, rfl, trivial⟩
    clear h71
    refine x_condT h72 rfl rfl ?_
    refine wp_exit ?_
    change ∃ _m, _m < _ ∧ _
    refine ⟨_, ?_, (k + 1), y, ?_, ?_, h72.nrm ⟨rfl, rfl, rfl, rfl, rfl, rfl, trivial⟩ [0, 1, 2, 3, 4] (by decide) ⟨rfl, rfl, rfl, rfl, rfl, trivial⟩, rfl⟩
    · rw [hm21]; first | omega | (simp only [lens9]; omega)
    · omega
    · first | (exact cp_some hy (cpK_y (by rw [kAt_at (by assumption)]; first | assumption | omega) (by omega) (by omega)) (some_getD (by assumption))) | (exact cp_none hy (Option.not_isSome_iff_eq_none.1 (by rw [(by assumption : (getZ _ l).isSome = false)]; decide))) | (exact cp_no hy (cpK_n (by rw [kAt_at (by assumption)]; first | assumption | omega))) | (exact cp_no hy (cpK_w (by omega) (by omega))) | (exact cp_no hy (cpK_c (by omega) (by omega)))
   have hp63 : ¬ (0 ≤ wrG x) := of_decide_eq_false hb63
   refine wl_val h62 (r_fieldB (r := 0) fl_32_0 rfl rfl rfl) (wanted_yes h62.fr rfl rfl rfl rfl hb63) rfl rfl fun a73 h73 => ?_; clear h62
   refine wl_val h73 (r_ldb (i := 3) ti_3 rfl rfl rfl rfl) (wanted_yes h73.fr rfl rfl rfl rfl hb63) rfl rfl fun a74 h74 => ?_; clear h73
   refine wl_val h74 (r_eqlI (p := y.op) (q := 13) rfl rfl rfl) (wanted_yes h74.fr rfl rfl rfl rfl hb63) rfl rfl fun a75 h75 => ?_; clear h74
   refine wl_val h75 (r_move rfl rfl) (wanted_yes h75.fr rfl rfl rfl rfl hb63) rfl rfl fun a76 h76 => ?_; clear h75
   rcases Bool.eq_false_or_eq_true (decide (y.op = 13)) with hb77 | hb77
   ·
    have hp77 : y.op = 13 := of_decide_eq_true hb77
    refine wl_val h76 (r_move rfl rfl) (wanted_yes h76.fr rfl rfl rfl rfl hb77) rfl rfl fun a78 h78 => ?_; clear h76
    refine wl_val h78 (r_eqlN (p := k) (q := 1) rfl rfl rfl) (wanted_yes h78.fr rfl rfl rfl rfl hb77) rfl rfl fun a79 h79 => ?_; clear h78
    refine wl_val h79 (r_pickT rfl rfl hb77 rfl) (wanted_yes h79.fr rfl rfl rfl rfl hb63) rfl rfl fun a80 h80 => ?_; clear h79
    refine wv h80 (r_pickF rfl rfl hb63 rfl) rfl rfl fun a81 h81 => ?_; clear h80
    refine wpList_nil (hK32 _ _ ?_)
    have h82 : St 63 K W a81 w24 [(1, .map p), (2, .pointer (some ⟨b3, 0, none⟩)), (4, .pointer (some ⟨b4, 0, none⟩)), (5, v9), (6, .int .i64 (wrG x)), (7, .int .i64 ((k : Nat) : Int)), (20, .pointer (some ⟨b20, 0, none⟩)), (43, .bool (decide (k = 1)))] [.iter b20 (kindsB x.op) (k + 1), .own 171 (⟨v9, [(⟨.pointer (some ⟨b3, 1, none⟩)⟩ : RV), (⟨.pointer (some ⟨b3, 2, none⟩)⟩ : RV), (⟨.pointer (some ⟨b3, 3, none⟩)⟩ : RV)]⟩ : Ls RV), .blk b4 32 [.int .i64 0, .int .i64 0, .int .i64 0, .int .i64 0], .blk b3 32 [.int .i64 y.op, .int .i64 y.a, .int .i64 y.b, .int .i64 y.c], .mapO p l] := h81.nrm ⟨rfl, rfl, rfl, rfl, rfl, rfl, rfl, rfl, trivial⟩ [0, 1, 2, 3, 4] (by decide) ⟨rfl, rfl, rfl, rfl, rfl, trivial⟩
    clear h81
    refine x_condF h82 rfl (decide_eq_false (by omega)) ?_
    refine wp_skip ?_
    refine hK31 _ _ ?_
    refine wp_seq_k fun K83 hK83 => wp_region_lit ?_
    refine wms 3 h82 rfl fun a84 h84 => ?_; clear h82
    have hl85 : ([(⟨.pointer (some ⟨b3, 1, none⟩)⟩ : RV), (⟨.pointer (some ⟨b3, 2, none⟩)⟩ : RV), (⟨.pointer (some ⟨b3, 3, none⟩)⟩ : RV)]).length ≤ 140737488355328 := (h84.sh.own 1 rfl).len
    refine wv h84 (r_ixN (s := (⟨v9, [(⟨.pointer (some ⟨b3, 1, none⟩)⟩ : RV), (⟨.pointer (some ⟨b3, 2, none⟩)⟩ : RV), (⟨.pointer (some ⟨b3, 3, none⟩)⟩ : RV)]⟩ : Ls RV)) (q := k) sl_172 ti_171 rfl rfl rfl (fun w h => (h.own 1 rfl)) (show k < ([(⟨.pointer (some ⟨b3, 1, none⟩)⟩ : RV), (⟨.pointer (some ⟨b3, 2, none⟩)⟩ : RV), (⟨.pointer (some ⟨b3, 3, none⟩)⟩ : RV)]).length from (by first | omega | (simp only [lens9]; omega)))) rfl rfl fun a86 h86 => ?_; clear h84
    refine wv h86 (Rn.same (r_lde (s := (⟨v9, [(⟨.pointer (some ⟨b3, 1, none⟩)⟩ : RV), (⟨.pointer (some ⟨b3, 2, none⟩)⟩ : RV), (⟨.pointer (some ⟨b3, 3, none⟩)⟩ : RV)]⟩ : Ls RV)) (i := k) (v := ((nth ([(⟨.pointer (some ⟨b3, 1, none⟩)⟩ : RV), (⟨.pointer (some ⟨b3, 2, none⟩)⟩ : RV), (⟨.pointer (some ⟨b3, 3, none⟩)⟩ : RV)]) k).v)) ti_171 rfl rfl rfl (fun w h => (h.own 1 rfl)) (show k < ([(⟨.pointer (some ⟨b3, 1, none⟩)⟩ : RV), (⟨.pointer (some ⟨b3, 2, none⟩)⟩ : RV), (⟨.pointer (some ⟨b3, 3, none⟩)⟩ : RV)]).length from (by first | omega | (simp only [lens9]; omega))) (Nat.le_of_ble_eq_true rfl) rfl) (congrArg RV.v (ix_Bk (⟨0, 0, 0, 0⟩ : Ins) b3 k (by omega)))) rfl rfl fun a87 h87 => ?_; clear h86
    refine wv h87 (r_nil rfl rfl) rfl rfl fun a88 h88 => ?_; clear h87
    refine wv h88 (r_ldBk (i := 3) (x := y) (k := k) ti_3 rfl rfl rfl (show k < 3 from (by omega))) rfl rfl fun a89 h89 => ?_; clear h88
    refine wv h89 (r_lookZ (i := 4) (k := (nth [y.a, y.b, y.c] k)) (l := l) mz_81 rfl rfl rfl rfl) rfl rfl fun a90 h90 => ?_; clear h89
    refine wms 1 h90 rfl fun a91 h91 => ?_; clear h90
    refine wv h91 (r_extract rfl rfl rfl) rfl rfl fun a92 h92 => ?_; clear h91
    refine wv h92 (r_extract rfl rfl rfl) rfl rfl fun a93 h93 => ?_; clear h92
    refine wms 2 h93 rfl fun a94 h94 => ?_; clear h93
    refine wpList_nil (hK83 _ _ ?_)
    refine wp_seq_k fun K95 hK95 => wp_region_lit ?_
    refine wms 1 h94 rfl fun a96 h96 => ?_; clear h94
    refine wpList_nil (hK95 _ _ ?_)
    refine x_cond h96 rfl (fun hb97 => ?_) (fun hb97 => ?_)
    ·
     skip
     refine wp_region_lit ?_
     refine wms 2 h96 rfl fun a98 h98 => ?_; clear h96
     refine wv h98 (r_ixN (s := (⟨v9, [(⟨.pointer (some ⟨b3, 1, none⟩)⟩ : RV), (⟨.pointer (some ⟨b3, 2, none⟩)⟩ : RV), (⟨.pointer (some ⟨b3, 3, none⟩)⟩ : RV)]⟩ : Ls RV)) (q := k) sl_172 ti_171 rfl rfl rfl (fun w h => (h.own 1 rfl)) (show k < ([(⟨.pointer (some ⟨b3, 1, none⟩)⟩ : RV), (⟨.pointer (some ⟨b3, 2, none⟩)⟩ : RV), (⟨.pointer (some ⟨b3, 3, none⟩)⟩ : RV)]).length from (by first | omega | (simp only [lens9]; omega)))) rfl rfl fun a99 h99 => ?_; clear h98
     refine wv h99 (Rn.same (r_lde (s := (⟨v9, [(⟨.pointer (some ⟨b3, 1, none⟩)⟩ : RV), (⟨.pointer (some ⟨b3, 2, none⟩)⟩ : RV), (⟨.pointer (some ⟨b3, 3, none⟩)⟩ : RV)]⟩ : Ls RV)) (i := k) (v := ((nth ([(⟨.pointer (some ⟨b3, 1, none⟩)⟩ : RV), (⟨.pointer (some ⟨b3, 2, none⟩)⟩ : RV), (⟨.pointer (some ⟨b3, 3, none⟩)⟩ : RV)]) k).v)) ti_171 rfl rfl rfl (fun w h => (h.own 1 rfl)) (show k < ([(⟨.pointer (some ⟨b3, 1, none⟩)⟩ : RV), (⟨.pointer (some ⟨b3, 2, none⟩)⟩ : RV), (⟨.pointer (some ⟨b3, 3, none⟩)⟩ : RV)]).length from (by first | omega | (simp only [lens9]; omega))) (Nat.le_of_ble_eq_true rfl) rfl) (congrArg RV.v (ix_Bk (⟨0, 0, 0, 0⟩ : Ins) b3 k (by omega)))) rfl rfl fun a100 h100 => ?_; clear h99
     refine wms 1 h100 rfl fun a101 h101 => ?_; clear h100
     refine wv h101 (r_nil rfl rfl) rfl rfl fun a102 h102 => ?_; clear h101
     refine wl_ex (x_stBk (i := 3) (x := y) (k := k) (v := (getZ (nth [y.a, y.b, y.c] k) l).getD 0) h102 ti_3 rfl rfl rfl rfl rfl (show k < 3 from (by omega))) (wanted_none rfl _) ?_
     rintro a103 w103 h103
     clear h102
     refine wpList_nil ?_
     change ∃ _m, _m < _ ∧ _
     refine ⟨_, ?_, (k + 1), (putK y k ((getZ (nth [y.a, y.b, y.c] k) l).getD 0)), ?_, ?_, h103.nrm ⟨rfl, rfl, rfl, rfl, rfl, rfl, trivial⟩ [0, 1, 2, 3, 4] (by decide) ⟨rfl, rfl, rfl, rfl, rfl, trivial⟩, rfl⟩
     · rw [hm21]; first | omega | (simp only [lens9]; omega)
     · omega
     · first | (exact cp_some hy (cpK_y (by rw [kAt_at (by assumption)]; first | assumption | omega) (by omega) (by omega)) (some_getD (by assumption))) | (exact cp_none hy (Option.not_isSome_iff_eq_none.1 (by rw [(by assumption : (getZ _ l).isSome = false)]; decide))) | (exact cp_no hy (cpK_n (by rw [kAt_at (by assumption)]; first | assumption | omega))) | (exact cp_no hy (cpK_w (by omega) (by omega))) | (exact cp_no hy (cpK_c (by omega) (by omega)))
    refine wp_skip ?_
    change ∃ _m, _m < _ ∧ _
    refine ⟨_, ?_, (k + 1), y, ?_, ?_, h96.nrm ⟨rfl, rfl, rfl, rfl, rfl, rfl, trivial⟩ [0, 1, 2, 3, 4] (by decide) ⟨rfl, rfl, rfl, rfl, rfl, trivial⟩, rfl⟩
    · rw [hm21]; first | omega | (simp only [lens9]; omega)
    · omega
    · first | (exact cp_some hy (cpK_y (by rw [kAt_at (by assumption)]; first | assumption | omega) (by omega) (by omega)) (some_getD (by assumption))) | (exact cp_none hy (Option.not_isSome_iff_eq_none.1 (by rw [(by assumption : (getZ _ l).isSome = false)]; decide))) | (exact cp_no hy (cpK_n (by rw [kAt_at (by assumption)]; first | assumption | omega))) | (exact cp_no hy (cpK_w (by omega) (by omega))) | (exact cp_no hy (cpK_c (by omega) (by omega)))
   have hp77 : ¬ (y.op = 13) := of_decide_eq_false hb77
   refine wl_skip h76 (wanted_no h76.fr rfl rfl rfl rfl hb77) rfl rfl fun a104 h104 => ?_; clear h76
   refine wl_skip h104 (wanted_no h104.fr rfl rfl rfl rfl hb77) rfl rfl fun a105 h105 => ?_; clear h104
   refine wl_val h105 (r_pickF rfl rfl hb77 rfl) (wanted_yes h105.fr rfl rfl rfl rfl hb63) rfl rfl fun a106 h106 => ?_; clear h105
   refine wv h106 (r_pickF rfl rfl hb63 rfl) rfl rfl fun a107 h107 => ?_; clear h106
   refine wpList_nil (hK32 _ _ ?_)
   have h108 : St 63 K W a107 w24 [(1, .map p), (2, .pointer (some ⟨b3, 0, none⟩)), (4, .pointer (some ⟨b4, 0, none⟩)), (5, v9), (6, .int .i64 (wrG x)), (7, .int .i64 ((k : Nat) : Int)), (20, .pointer (some ⟨b20, 0, none⟩)), (43, .bool false)] [.iter b20 (kindsB x.op) (k + 1), .own 171 (⟨v9, [(⟨.pointer (some ⟨b3, 1, none⟩)⟩ : RV), (⟨.pointer (some ⟨b3, 2, none⟩)⟩ : RV), (⟨.pointer (some ⟨b3, 3, none⟩)⟩ : RV)]⟩ : Ls RV), .blk b4 32 [.int .i64 0, .int .i64 0, .int .i64 0, .int .i64 0], .blk b3 32 [.int .i64 y.op, .int .i64 y.a, .int .i64 y.b, .int .i64 y.c], .mapO p l] := h107.nrm ⟨rfl, rfl, rfl, rfl, rfl, rfl, rfl, rfl, trivial⟩ [0, 1, 2, 3, 4] (by decide) ⟨rfl, rfl, rfl, rfl, rfl, trivial⟩
   clear h107
   refine x_condF h108 rfl rfl ?_
   refine wp_skip ?_
   refine hK31 _ _ ?_
   refine wp_seq_k fun K109 hK109 => wp_region_lit ?_
   refine wms 3 h108 rfl fun a110 h110 => ?_; clear h108
   have hl111 : ([(⟨.pointer (some ⟨b3, 1, none⟩)⟩ : RV), (⟨.pointer (some ⟨b3, 2, none⟩)⟩ : RV), (⟨.pointer (some ⟨b3, 3, none⟩)⟩ : RV)]).length ≤ 140737488355328 := (h110.sh.own 1 rfl).len
   refine wv h110 (r_ixN (s := (⟨v9, [(⟨.pointer (some ⟨b3, 1, none⟩)⟩ : RV), (⟨.pointer (some ⟨b3, 2, none⟩)⟩ : RV), (⟨.pointer (some ⟨b3, 3, none⟩)⟩ : RV)]⟩ : Ls RV)) (q := k) sl_172 ti_171 rfl rfl rfl (fun w h => (h.own 1 rfl)) (show k < ([(⟨.pointer (some ⟨b3, 1, none⟩)⟩ : RV), (⟨.pointer (some ⟨b3, 2, none⟩)⟩ : RV), (⟨.pointer (some ⟨b3, 3, none⟩)⟩ : RV)]).length from (by first | omega | (simp only [lens9]; omega)))) rfl rfl fun a112 h112 => ?_; clear h110
   refine wv h112 (Rn.same (r_lde (s := (⟨v9, [(⟨.pointer (some ⟨b3, 1, none⟩)⟩ : RV), (⟨.pointer (some ⟨b3, 2, none⟩)⟩ : RV), (⟨.pointer (some ⟨b3, 3, none⟩)⟩ : RV)]⟩ : Ls RV)) (i := k) (v := ((nth ([(⟨.pointer (some ⟨b3, 1, none⟩)⟩ : RV), (⟨.pointer (some ⟨b3, 2, none⟩)⟩ : RV), (⟨.pointer (some ⟨b3, 3, none⟩)⟩ : RV)]) k).v)) ti_171 rfl rfl rfl (fun w h => (h.own 1 rfl)) (show k < ([(⟨.pointer (some ⟨b3, 1, none⟩)⟩ : RV), (⟨.pointer (some ⟨b3, 2, none⟩)⟩ : RV), (⟨.pointer (some ⟨b3, 3, none⟩)⟩ : RV)]).length from (by first | omega | (simp only [lens9]; omega))) (Nat.le_of_ble_eq_true rfl) rfl) (congrArg RV.v (ix_Bk (⟨0, 0, 0, 0⟩ : Ins) b3 k (by omega)))) rfl rfl fun a113 h113 => ?_; clear h112
   refine wv h113 (r_nil rfl rfl) rfl rfl fun a114 h114 => ?_; clear h113
   refine wv h114 (r_ldBk (i := 3) (x := y) (k := k) ti_3 rfl rfl rfl (show k < 3 from (by omega))) rfl rfl fun a115 h115 => ?_; clear h114
   refine wv h115 (r_lookZ (i := 4) (k := (nth [y.a, y.b, y.c] k)) (l := l) mz_81 rfl rfl rfl rfl) rfl rfl fun a116 h116 => ?_; clear h115
   refine wms 1 h116 rfl fun a117 h117 => ?_; clear h116
   refine wv h117 (r_extract rfl rfl rfl) rfl rfl fun a118 h118 => ?_; clear h117
   refine wv h118 (r_extract rfl rfl rfl) rfl rfl fun a119 h119 => ?_; clear h118
   refine wms 2 h119 rfl fun a120 h120 => ?_; clear h119
   refine wpList_nil (hK109 _ _ ?_)
   refine wp_seq_k fun K121 hK121 => wp_region_lit ?_
   refine wms 1 h120 rfl fun a122 h122 => ?_; clear h120
   refine wpList_nil (hK121 _ _ ?_)
   refine x_cond h122 rfl (fun hb123 => ?_) (fun hb123 => ?_)
   ·
    skip
    refine wp_region_lit ?_
    refine wms 2 h122 rfl fun a124 h124 => ?_; clear h122
    refine wv h124 (r_ixN (s := (⟨v9, [(⟨.pointer (some ⟨b3, 1, none⟩)⟩ : RV), (⟨.pointer (some ⟨b3, 2, none⟩)⟩ : RV), (⟨.pointer (some ⟨b3, 3, none⟩)⟩ : RV)]⟩ : Ls RV)) (q := k) sl_172 ti_171 rfl rfl rfl (fun w h => (h.own 1 rfl)) (show k < ([(⟨.pointer (some ⟨b3, 1, none⟩)⟩ : RV), (⟨.pointer (some ⟨b3, 2, none⟩)⟩ : RV), (⟨.pointer (some ⟨b3, 3, none⟩)⟩ : RV)]).length from (by first | omega | (simp only [lens9]; omega)))) rfl rfl fun a125 h125 => ?_; clear h124
    refine wv h125 (Rn.same (r_lde (s := (⟨v9, [(⟨.pointer (some ⟨b3, 1, none⟩)⟩ : RV), (⟨.pointer (some ⟨b3, 2, none⟩)⟩ : RV), (⟨.pointer (some ⟨b3, 3, none⟩)⟩ : RV)]⟩ : Ls RV)) (i := k) (v := ((nth ([(⟨.pointer (some ⟨b3, 1, none⟩)⟩ : RV), (⟨.pointer (some ⟨b3, 2, none⟩)⟩ : RV), (⟨.pointer (some ⟨b3, 3, none⟩)⟩ : RV)]) k).v)) ti_171 rfl rfl rfl (fun w h => (h.own 1 rfl)) (show k < ([(⟨.pointer (some ⟨b3, 1, none⟩)⟩ : RV), (⟨.pointer (some ⟨b3, 2, none⟩)⟩ : RV), (⟨.pointer (some ⟨b3, 3, none⟩)⟩ : RV)]).length from (by first | omega | (simp only [lens9]; omega))) (Nat.le_of_ble_eq_true rfl) rfl) (congrArg RV.v (ix_Bk (⟨0, 0, 0, 0⟩ : Ins) b3 k (by omega)))) rfl rfl fun a126 h126 => ?_; clear h125
    refine wms 1 h126 rfl fun a127 h127 => ?_; clear h126
    refine wv h127 (r_nil rfl rfl) rfl rfl fun a128 h128 => ?_; clear h127
    refine wl_ex (x_stBk (i := 3) (x := y) (k := k) (v := (getZ (nth [y.a, y.b, y.c] k) l).getD 0) h128 ti_3 rfl rfl rfl rfl rfl (show k < 3 from (by omega))) (wanted_none rfl _) ?_
    rintro a129 w129 h129
    clear h128
    refine wpList_nil ?_
    change ∃ _m, _m < _ ∧ _
    refine ⟨_, ?_, (k + 1), (putK y k ((getZ (nth [y.a, y.b, y.c] k) l).getD 0)), ?_, ?_, h129.nrm ⟨rfl, rfl, rfl, rfl, rfl, rfl, trivial⟩ [0, 1, 2, 3, 4] (by decide) ⟨rfl, rfl, rfl, rfl, rfl, trivial⟩, rfl⟩
    · rw [hm21]; first | omega | (simp only [lens9]; omega)
    · omega
    · first | (exact cp_some hy (cpK_y (by rw [kAt_at (by assumption)]; first | assumption | omega) (by omega) (by omega)) (some_getD (by assumption))) | (exact cp_none hy (Option.not_isSome_iff_eq_none.1 (by rw [(by assumption : (getZ _ l).isSome = false)]; decide))) | (exact cp_no hy (cpK_n (by rw [kAt_at (by assumption)]; first | assumption | omega))) | (exact cp_no hy (cpK_w (by omega) (by omega))) | (exact cp_no hy (cpK_c (by omega) (by omega)))
   refine wp_skip ?_
   change ∃ _m, _m < _ ∧ _
   refine ⟨_, ?_, (k + 1), y, ?_, ?_, h122.nrm ⟨rfl, rfl, rfl, rfl, rfl, rfl, trivial⟩ [0, 1, 2, 3, 4] (by decide) ⟨rfl, rfl, rfl, rfl, rfl, trivial⟩, rfl⟩
   · rw [hm21]; first | omega | (simp only [lens9]; omega)
   · omega
   · first | (exact cp_some hy (cpK_y (by rw [kAt_at (by assumption)]; first | assumption | omega) (by omega) (by omega)) (some_getD (by assumption))) | (exact cp_none hy (Option.not_isSome_iff_eq_none.1 (by rw [(by assumption : (getZ _ l).isSome = false)]; decide))) | (exact cp_no hy (cpK_n (by rw [kAt_at (by assumption)]; first | assumption | omega))) | (exact cp_no hy (cpK_w (by omega) (by omega))) | (exact cp_no hy (cpK_c (by omega) (by omega)))
  have hp57 : ¬ (k = 0) := of_decide_eq_false hb57
  refine wl_skip h56 (wanted_no h56.fr rfl rfl rfl rfl hb57) rfl rfl fun a130 h130 => ?_; clear h56
  refine wl_skip h130 (wanted_no h130.fr rfl rfl rfl rfl hb57) rfl rfl fun a131 h131 => ?_; clear h130
  refine wl_val h131 (r_pickF rfl rfl hb57 rfl) (wanted_yes h131.fr rfl rfl rfl rfl hb36) rfl rfl fun a132 h132 => ?_; clear h131
  refine wv h132 (r_pickF rfl rfl hb36 rfl) rfl rfl fun a133 h133 => ?_; clear h132
  refine wms 1 h133 rfl fun a134 h134 => ?_; clear h133
  refine wl_val h134 (r_fieldB (r := 0) fl_32_0 rfl rfl rfl) (wanted_yes h134.fr rfl rfl rfl rfl rfl) rfl rfl fun a135 h135 => ?_; clear h134
  refine wl_val h135 (r_ldb (i := 3) ti_3 rfl rfl rfl rfl) (wanted_yes h135.fr rfl rfl rfl rfl rfl) rfl rfl fun a136 h136 => ?_; clear h135
  refine wl_val h136 (r_eqlI (p := y.op) (q := 13) rfl rfl rfl) (wanted_yes h136.fr rfl rfl rfl rfl rfl) rfl rfl fun a137 h137 => ?_; clear h136
  refine wl_val h137 (r_move rfl rfl) (wanted_yes h137.fr rfl rfl rfl rfl rfl) rfl rfl fun a138 h138 => ?_; clear h137
  rcases Bool.eq_false_or_eq_true (decide (y.op = 13)) with hb139 | hb139
  ·
   have hp139 : y.op = 13 := of_decide_eq_true hb139
   refine wl_val h138 (r_move rfl rfl) (wanted_yes h138.fr rfl rfl rfl rfl hb139) rfl rfl fun a140 h140 => ?_; clear h138
   refine wl_val h140 (r_eqlN (p := k) (q := 1) rfl rfl rfl) (wanted_yes h140.fr rfl rfl rfl rfl hb139) rfl rfl fun a141 h141 => ?_; clear h140
   refine wl_val h141 (r_pickT rfl rfl hb139 rfl) (wanted_yes h141.fr rfl rfl rfl rfl rfl) rfl rfl fun a142 h142 => ?_; clear h141
   refine wv h142 (r_pickF rfl rfl rfl rfl) rfl rfl fun a143 h143 => ?_; clear h142
   refine wpList_nil (hK32 _ _ ?_)
   have h144 : St 63 K W a143 w24 [(1, .map p), (2, .pointer (some ⟨b3, 0, none⟩)), (4, .pointer (some ⟨b4, 0, none⟩)), (5, v9), (6, .int .i64 (wrG x)), (7, .int .i64 ((k : Nat) : Int)), (20, .pointer (some ⟨b20, 0, none⟩)), (43, .bool (decide (k = 1)))] [.iter b20 (kindsB x.op) (k + 1), .own 171 (⟨v9, [(⟨.pointer (some ⟨b3, 1, none⟩)⟩ : RV), (⟨.pointer (some ⟨b3, 2, none⟩)⟩ : RV), (⟨.pointer (some ⟨b3, 3, none⟩)⟩ : RV)]⟩ : Ls RV), .blk b4 32 [.int .i64 0, .int .i64 0, .int .i64 0, .int .i64 0], .blk b3 32 [.int .i64 y.op, .int .i64 y.a, .int .i64 y.b, .int .i64 y.c], .mapO p l] := h143.nrm ⟨rfl, rfl, rfl, rfl, rfl, rfl, rfl, rfl, trivial⟩ [0, 1, 2, 3, 4] (by decide) ⟨rfl, rfl, rfl, rfl, rfl, trivial⟩
   clear h143
   refine x_cond h144 rfl (fun hb145 => ?_) (fun hb145 => ?_)
   ·
    have hp145 : k = 1 := of_decide_eq_true hb145
    refine wp_exit ?_
    change ∃ _m, _m < _ ∧ _
    refine ⟨_, ?_, (k + 1), y, ?_, ?_, h144.nrm ⟨rfl, rfl, rfl, rfl, rfl, rfl, trivial⟩ [0, 1, 2, 3, 4] (by decide) ⟨rfl, rfl, rfl, rfl, rfl, trivial⟩, rfl⟩
    · rw [hm21]; first | omega | (simp only [lens9]; omega)
    · omega
    · first | (exact cp_some hy (cpK_y (by rw [kAt_at (by assumption)]; first | assumption | omega) (by omega) (by omega)) (some_getD (by assumption))) | (exact cp_none hy (Option.not_isSome_iff_eq_none.1 (by rw [(by assumption : (getZ _ l).isSome = false)]; decide))) | (exact cp_no hy (cpK_n (by rw [kAt_at (by assumption)]; first | assumption | omega))) | (exact cp_no hy (cpK_w (by omega) (by omega))) | (exact cp_no hy (cpK_c (by omega) (by omega)))
   have hp145 : ¬ (k = 1) := of_decide_eq_false hb145
   refine wp_skip ?_
   refine hK31 _ _ ?_
   refine wp_seq_k fun K146 hK146 => wp_region_lit ?_
   refine wms 3 h144 rfl fun a147 h147 => ?_; clear h144
   have hl148 : ([(⟨.pointer (some ⟨b3, 1, none⟩)⟩ : RV), (⟨.pointer (some ⟨b3, 2, none⟩)⟩ : RV), (⟨.pointer (some ⟨b3, 3, none⟩)⟩ : RV)]).length ≤ 140737488355328 := (h147.sh.own 1 rfl).len
   refine wv h147 (r_ixN (s := (⟨v9, [(⟨.pointer (some ⟨b3, 1, none⟩)⟩ : RV), (⟨.pointer (some ⟨b3, 2, none⟩)⟩ : RV), (⟨.pointer (some ⟨b3, 3, none⟩)⟩ : RV)]⟩ : Ls RV)) (q := k) sl_172 ti_171 rfl rfl rfl (fun w h => (h.own 1 rfl)) (show k < ([(⟨.pointer (some ⟨b3, 1, none⟩)⟩ : RV), (⟨.pointer (some ⟨b3, 2, none⟩)⟩ : RV), (⟨.pointer (some ⟨b3, 3, none⟩)⟩ : RV)]).length from (by first | omega | (simp only [lens9]; omega)))) rfl rfl fun a149 h149 => ?_; clear h147
   refine wv h149 (Rn.same (r_lde (s := (⟨v9, [(⟨.pointer (some ⟨b3, 1, none⟩)⟩ : RV), (⟨.pointer (some ⟨b3, 2, none⟩)⟩ : RV), (⟨.pointer (some ⟨b3, 3, none⟩)⟩ : RV)]⟩ : Ls RV)) (i := k) (v := ((nth ([(⟨.pointer (some ⟨b3, 1, none⟩)⟩ : RV), (⟨.pointer (some ⟨b3, 2, none⟩)⟩ : RV), (⟨.pointer (some ⟨b3, 3, none⟩)⟩ : RV)]) k).v)) ti_171 rfl rfl rfl (fun w h => (h.own 1 rfl)) (show k < ([(⟨.pointer (some ⟨b3, 1, none⟩)⟩ : RV), (⟨.pointer (some ⟨b3, 2, none⟩)⟩ : RV), (⟨.pointer (some ⟨b3, 3, none⟩)⟩ : RV)]).length from (by first | omega | (simp only [lens9]; omega))) (Nat.le_of_ble_eq_true rfl) rfl) (congrArg RV.v (ix_Bk (⟨0, 0, 0, 0⟩ : Ins) b3 k (by omega)))) rfl rfl fun a150 h150 => ?_; clear h149
   refine wv h150 (r_nil rfl rfl) rfl rfl fun a151 h151 => ?_; clear h150
   refine wv h151 (r_ldBk (i := 3) (x := y) (k := k) ti_3 rfl rfl rfl (show k < 3 from (by omega))) rfl rfl fun a152 h152 => ?_; clear h151
   refine wv h152 (r_lookZ (i := 4) (k := (nth [y.a, y.b, y.c] k)) (l := l) mz_81 rfl rfl rfl rfl) rfl rfl fun a153 h153 => ?_; clear h152
   refine wms 1 h153 rfl fun a154 h154 => ?_; clear h153
   refine wv h154 (r_extract rfl rfl rfl) rfl rfl fun a155 h155 => ?_; clear h154
   refine wv h155 (r_extract rfl rfl rfl) rfl rfl fun a156 h156 => ?_; clear h155
   refine wms 2 h156 rfl fun a157 h157 => ?_; clear h156
   refine wpList_nil (hK146 _ _ ?_)
   refine wp_seq_k fun K158 hK158 => wp_region_lit ?_
   refine wms 1 h157 rfl fun a159 h159 => ?_; clear h157
   refine wpList_nil (hK158 _ _ ?_)
   refine x_cond h159 rfl (fun hb160 => ?_) (fun hb160 => ?_)
   ·
    skip
    refine wp_region_lit ?_
    refine wms 2 h159 rfl fun a161 h161 => ?_; clear h159
    refine wv h161 (r_ixN (s := (⟨v9, [(⟨.pointer (some ⟨b3, 1, none⟩)⟩ : RV), (⟨.pointer (some ⟨b3, 2, none⟩)⟩ : RV), (⟨.pointer (some ⟨b3, 3, none⟩)⟩ : RV)]⟩ : Ls RV)) (q := k) sl_172 ti_171 rfl rfl rfl (fun w h => (h.own 1 rfl)) (show k < ([(⟨.pointer (some ⟨b3, 1, none⟩)⟩ : RV), (⟨.pointer (some ⟨b3, 2, none⟩)⟩ : RV), (⟨.pointer (some ⟨b3, 3, none⟩)⟩ : RV)]).length from (by first | omega | (simp only [lens9]; omega)))) rfl rfl fun a162 h162 => ?_; clear h161
    refine wv h162 (Rn.same (r_lde (s := (⟨v9, [(⟨.pointer (some ⟨b3, 1, none⟩)⟩ : RV), (⟨.pointer (some ⟨b3, 2, none⟩)⟩ : RV), (⟨.pointer (some ⟨b3, 3, none⟩)⟩ : RV)]⟩ : Ls RV)) (i := k) (v := ((nth ([(⟨.pointer (some ⟨b3, 1, none⟩)⟩ : RV), (⟨.pointer (some ⟨b3, 2, none⟩)⟩ : RV), (⟨.pointer (some ⟨b3, 3, none⟩)⟩ : RV)]) k).v)) ti_171 rfl rfl rfl (fun w h => (h.own 1 rfl)) (show k < ([(⟨.pointer (some ⟨b3, 1, none⟩)⟩ : RV), (⟨.pointer (some ⟨b3, 2, none⟩)⟩ : RV), (⟨.pointer (some ⟨b3, 3, none⟩)⟩ : RV)]).length from (by first | omega | (simp only [lens9]; omega))) (Nat.le_of_ble_eq_true rfl) rfl) (congrArg RV.v (ix_Bk (⟨0, 0, 0, 0⟩ : Ins) b3 k (by omega)))) rfl rfl fun a163 h163 => ?_; clear h162
    refine wms 1 h163 rfl fun a164 h164 => ?_; clear h163
    refine wv h164 (r_nil rfl rfl) rfl rfl fun a165 h165 => ?_; clear h164
    refine wl_ex (x_stBk (i := 3) (x := y) (k := k) (v := (getZ (nth [y.a, y.b, y.c] k) l).getD 0) h165 ti_3 rfl rfl rfl rfl rfl (show k < 3 from (by omega))) (wanted_none rfl _) ?_
    rintro a166 w166 h166
    clear h165
    refine wpList_nil ?_
    change ∃ _m, _m < _ ∧ _
    refine ⟨_, ?_, (k + 1), (putK y k ((getZ (nth [y.a, y.b, y.c] k) l).getD 0)), ?_, ?_, h166.nrm ⟨rfl, rfl, rfl, rfl, rfl, rfl, trivial⟩ [0, 1, 2, 3, 4] (by decide) ⟨rfl, rfl, rfl, rfl, rfl, trivial⟩, rfl⟩
    · rw [hm21]; first | omega | (simp only [lens9]; omega)
    · omega
    · first | (exact cp_some hy (cpK_y (by rw [kAt_at (by assumption)]; first | assumption | omega) (by omega) (by omega)) (some_getD (by assumption))) | (exact cp_none hy (Option.not_isSome_iff_eq_none.1 (by rw [(by assumption : (getZ _ l).isSome = false)]; decide))) | (exact cp_no hy (cpK_n (by rw [kAt_at (by assumption)]; first | assumption | omega))) | (exact cp_no hy (cpK_w (by omega) (by omega))) | (exact cp_no hy (cpK_c (by omega) (by omega)))
   refine wp_skip ?_
   change ∃ _m, _m < _ ∧ _
   refine ⟨_, ?_, (k + 1), y, ?_, ?_, h159.nrm ⟨rfl, rfl, rfl, rfl, rfl, rfl, trivial⟩ [0, 1, 2, 3, 4] (by decide) ⟨rfl, rfl, rfl, rfl, rfl, trivial⟩, rfl⟩
   · rw [hm21]; first | omega | (simp only [lens9]; omega)
   · omega
   · first | (exact cp_some hy (cpK_y (by rw [kAt_at (by assumption)]; first | assumption | omega) (by omega) (by omega)) (some_getD (by assumption))) | (exact cp_none hy (Option.not_isSome_iff_eq_none.1 (by rw [(by assumption : (getZ _ l).isSome = false)]; decide))) | (exact cp_no hy (cpK_n (by rw [kAt_at (by assumption)]; first | assumption | omega))) | (exact cp_no hy (cpK_w (by omega) (by omega))) | (exact cp_no hy (cpK_c (by omega) (by omega)))
  have hp139 : ¬ (y.op = 13) := of_decide_eq_false hb139
  refine wl_skip h138 (wanted_no h138.fr rfl rfl rfl rfl hb139) rfl rfl fun a167 h167 => ?_; clear h138
  refine wl_skip h167 (wanted_no h167.fr rfl rfl rfl rfl hb139) rfl rfl fun a168 h168 => ?_; clear h167
  refine wl_val h168 (r_pickF rfl rfl hb139 rfl) (wanted_yes h168.fr rfl rfl rfl rfl rfl) rfl rfl fun a169 h169 => ?_; clear h168
  refine wv h169 (r_pickF rfl rfl rfl rfl) rfl rfl fun a170 h170 => ?_; clear h169
  refine wpList_nil (hK32 _ _ ?_)
  have h171 : St 63 K W a170 w24 [(1, .map p), (2, .pointer (some ⟨b3, 0, none⟩)), (4, .pointer (some ⟨b4, 0, none⟩)), (5, v9), (6, .int .i64 (wrG x)), (7, .int .i64 ((k : Nat) : Int)), (20, .pointer (some ⟨b20, 0, none⟩)), (43, .bool false)] [.iter b20 (kindsB x.op) (k + 1), .own 171 (⟨v9, [(⟨.pointer (some ⟨b3, 1, none⟩)⟩ : RV), (⟨.pointer (some ⟨b3, 2, none⟩)⟩ : RV), (⟨.pointer (some ⟨b3, 3, none⟩)⟩ : RV)]⟩ : Ls RV), .blk b4 32 [.int .i64 0, .int .i64 0, .int .i64 0, .int .i64 0], .blk b3 32 [.int .i64 y.op, .int .i64 y.a, .int .i64 y.b, .int .i64 y.c], .mapO p l] := h170.nrm ⟨rfl, rfl, rfl, rfl, rfl, rfl, rfl, rfl, trivial⟩ [0, 1, 2, 3, 4] (by decide) ⟨rfl, rfl, rfl, rfl, rfl, trivial⟩
  clear h170
  refine x_condF h171 rfl rfl ?_
  refine wp_skip ?_
  refine hK31 _ _ ?_
  refine wp_seq_k fun K172 hK172 => wp_region_lit ?_
  refine wms 3 h171 rfl fun a173 h173 => ?_; clear h171
  have hl174 : ([(⟨.pointer (some ⟨b3, 1, none⟩)⟩ : RV), (⟨.pointer (some ⟨b3, 2, none⟩)⟩ : RV), (⟨.pointer (some ⟨b3, 3, none⟩)⟩ : RV)]).length ≤ 140737488355328 := (h173.sh.own 1 rfl).len
  refine wv h173 (r_ixN (s := (⟨v9, [(⟨.pointer (some ⟨b3, 1, none⟩)⟩ : RV), (⟨.pointer (some ⟨b3, 2, none⟩)⟩ : RV), (⟨.pointer (some ⟨b3, 3, none⟩)⟩ : RV)]⟩ : Ls RV)) (q := k) sl_172 ti_171 rfl rfl rfl (fun w h => (h.own 1 rfl)) (show k < ([(⟨.pointer (some ⟨b3, 1, none⟩)⟩ : RV), (⟨.pointer (some ⟨b3, 2, none⟩)⟩ : RV), (⟨.pointer (some ⟨b3, 3, none⟩)⟩ : RV)]).length from (by first | omega | (simp only [lens9]; omega)))) rfl rfl fun a175 h175 => ?_; clear h173
  refine wv h175 (Rn.same (r_lde (s := (⟨v9, [(⟨.pointer (some ⟨b3, 1, none⟩)⟩ : RV), (⟨.pointer (some ⟨b3, 2, none⟩)⟩ : RV), (⟨.pointer (some ⟨b3, 3, none⟩)⟩ : RV)]⟩ : Ls RV)) (i := k) (v := ((nth ([(⟨.pointer (some ⟨b3, 1, none⟩)⟩ : RV), (⟨.pointer (some ⟨b3, 2, none⟩)⟩ : RV), (⟨.pointer (some ⟨b3, 3, none⟩)⟩ : RV)]) k).v)) ti_171 rfl rfl rfl (fun w h => (h.own 1 rfl)) (show k < ([(⟨.pointer (some ⟨b3, 1, none⟩)⟩ : RV), (⟨.pointer (some ⟨b3, 2, none⟩)⟩ : RV), (⟨.pointer (some ⟨b3, 3, none⟩)⟩ : RV)]).length from (by first | omega | (simp only [lens9]; omega))) (Nat.le_of_ble_eq_true rfl) rfl) (congrArg RV.v (ix_Bk (⟨0, 0, 0, 0⟩ : Ins) b3 k (by omega)))) rfl rfl fun a176 h176 => ?_; clear h175
  refine wv h176 (r_nil rfl rfl) rfl rfl fun a177 h177 => ?_; clear h176
  refine wv h177 (r_ldBk (i := 3) (x := y) (k := k) ti_3 rfl rfl rfl (show k < 3 from (by omega))) rfl rfl fun a178 h178 => ?_; clear h177
  refine wv h178 (r_lookZ (i := 4) (k := (nth [y.a, y.b, y.c] k)) (l := l) mz_81 rfl rfl rfl rfl) rfl rfl fun a179 h179 => ?_; clear h178
  refine wms 1 h179 rfl fun a180 h180 => ?_; clear h179
  refine wv h180 (r_extract rfl rfl rfl) rfl rfl fun a181 h181 => ?_; clear h180
  refine wv h181 (r_extract rfl rfl rfl) rfl rfl fun a182 h182 => ?_; clear h181
  refine wms 2 h182 rfl fun a183 h183 => ?_; clear h182
  refine wpList_nil (hK172 _ _ ?_)
  refine wp_seq_k fun K184 hK184 => wp_region_lit ?_
  refine wms 1 h183 rfl fun a185 h185 => ?_; clear h183
  refine wpList_nil (hK184 _ _ ?_)
  refine x_cond h185 rfl (fun hb186 => ?_) (fun hb186 => ?_)
  ·
   skip
   refine wp_region_lit ?_
   refine wms 2 h185 rfl fun a187 h187 => ?_; clear h185
   refine wv h187 (r_ixN (s := (⟨v9, [(⟨.pointer (some ⟨b3, 1, none⟩)⟩ : RV), (⟨.pointer (some ⟨b3, 2, none⟩)⟩ : RV), (⟨.pointer (some ⟨b3, 3, none⟩)⟩ : RV)]⟩ : Ls RV)) (q := k) sl_172 ti_171 rfl rfl rfl (fun w h => (h.own 1 rfl)) (show k < ([(⟨.pointer (some ⟨b3, 1, none⟩)⟩ : RV), (⟨.pointer (some ⟨b3, 2, none⟩)⟩ : RV), (⟨.pointer (some ⟨b3, 3, none⟩)⟩ : RV)]).length from (by first | omega | (simp only [lens9]; omega)))) rfl rfl fun a188 h188 => ?_; clear h187
   refine wv h188 (Rn.same (r_lde (s := (⟨v9, [(⟨.pointer (some ⟨b3, 1, none⟩)⟩ : RV), (⟨.pointer (some ⟨b3, 2, none⟩)⟩ : RV), (⟨.pointer (some ⟨b3, 3, none⟩)⟩ : RV)]⟩ : Ls RV)) (i := k) (v := ((nth ([(⟨.pointer (some ⟨b3, 1, none⟩)⟩ : RV), (⟨.pointer (some ⟨b3, 2, none⟩)⟩ : RV), (⟨.pointer (some ⟨b3, 3, none⟩)⟩ : RV)]) k).v)) ti_171 rfl rfl rfl (fun w h => (h.own 1 rfl)) (show k < ([(⟨.pointer (some ⟨b3, 1, none⟩)⟩ : RV), (⟨.pointer (some ⟨b3, 2, none⟩)⟩ : RV), (⟨.pointer (some ⟨b3, 3, none⟩)⟩ : RV)]).length from (by first | omega | (simp only [lens9]; omega))) (Nat.le_of_ble_eq_true rfl) rfl) (congrArg RV.v (ix_Bk (⟨0, 0, 0, 0⟩ : Ins) b3 k (by omega)))) rfl rfl fun a189 h189 => ?_; clear h188
   refine wms 1 h189 rfl fun a190 h190 => ?_; clear h189
   refine wv h190 (r_nil rfl rfl) rfl rfl fun a191 h191 => ?_; clear h190
   refine wl_ex (x_stBk (i := 3) (x := y) (k := k) (v := (getZ (nth [y.a, y.b, y.c] k) l).getD 0) h191 ti_3 rfl rfl rfl rfl rfl (show k < 3 from (by omega))) (wanted_none rfl _) ?_
   rintro a192 w192 h192
   clear h191
   refine wpList_nil ?_
   change ∃ _m, _m < _ ∧ _
   refine ⟨_, ?_, (k + 1), (putK y k ((getZ (nth [y.a, y.b, y.c] k) l).getD 0)), ?_, ?_, h192.nrm ⟨rfl, rfl, rfl, rfl, rfl, rfl, trivial⟩ [0, 1, 2, 3, 4] (by decide) ⟨rfl, rfl, rfl, rfl, rfl, trivial⟩, rfl⟩
   · rw [hm21]; first | omega | (simp only [lens9]; omega)
   · omega
   · first | (exact cp_some hy (cpK_y (by rw [kAt_at (by assumption)]; first | assumption | omega) (by omega) (by omega)) (some_getD (by assumption))) | (exact cp_none hy (Option.not_isSome_iff_eq_none.1 (by rw [(by assumption : (getZ _ l).isSome = false)]; decide))) | (exact cp_no hy (cpK_n (by rw [kAt_at (by assumption)]; first | assumption | omega))) | (exact cp_no hy (cpK_w (by omega) (by omega))) | (exact cp_no hy (cpK_c (by omega) (by omega)))
  refine wp_skip ?_
  change ∃ _m, _m < _ ∧ _
  refine ⟨_, ?_, (k + 1), y, ?_, ?_, h185.nrm ⟨rfl, rfl, rfl, rfl, rfl, rfl, trivial⟩ [0, 1, 2, 3, 4] (by decide) ⟨rfl, rfl, rfl, rfl, rfl, trivial⟩, rfl⟩
  · rw [hm21]; first | omega | (simp only [lens9]; omega)
  · omega
  · first | (exact cp_some hy (cpK_y (by rw [kAt_at (by assumption)]; first | assumption | omega) (by omega) (by omega)) (some_getD (by assumption))) | (exact cp_none hy (Option.not_isSome_iff_eq_none.1 (by rw [(by assumption : (getZ _ l).isSome = false)]; decide))) | (exact cp_no hy (cpK_n (by rw [kAt_at (by assumption)]; first | assumption | omega))) | (exact cp_no hy (cpK_w (by omega) (by omega))) | (exact cp_no hy (cpK_c (by omega) (by omega)))
 refine wv h21 (r_nextEnd (i := 0) (s := (kindsB x.op)) (pos := k) rfl rfl rfl hn23) rfl rfl fun a193 h193 => ?_; clear h21
 refine wv h193 (r_extract rfl rfl rfl) rfl rfl fun a194 h194 => ?_; clear h193
 refine wpList_nil (hK22 _ _ ?_)
 refine wp_seq_k fun K195 hK195 => ?_
 refine x_condF h194 rfl rfl ?_
 refine wp_exit ?_
 refine hK15 _ _ ?_
 refine wp_seq_k fun K196 hK196 => wp_region_lit ?_
 refine wv h194 (r_ldbw (i := 3) (vs := [.int .i64 y.op, .int .i64 y.a, .int .i64 y.b, .int .i64 y.c]) ti_32 rfl rfl rfl rfl rfl) rfl rfl fun a197 h197 => ?_; clear h194
 refine wl_ex (x_stb (i := 2) (vs := [.int .i64 y.op, .int .i64 y.a, .int .i64 y.b, .int .i64 y.c]) (cs' := [.int .i64 y.op, .int .i64 y.a, .int .i64 y.b, .int .i64 y.c]) h197 ti_32 rfl rfl rfl rfl rfl rfl rfl (allOne_cons rfl (allOne_cons rfl (allOne_cons rfl (allOne_cons rfl allOne_nil)))) (Nat.le_of_ble_eq_true rfl) rfl) (wanted_none rfl _) ?_
 rintro a198 w198 h198
 clear h197
 refine wpList_nil (hK196 _ _ ?_)
 refine wp_ret ?_
 try simp only [Exit.then, Exit.inBlock]
 refine x_ret1c (fn := Try.f53) (t := 4) (i := 2) ti_32 rfl h198 rfl rfl rfl ?_
 have he : k = (kindsB x.op).size := by omega
 rw [he] at hy
 refine ⟨?_, (h198.sh.sel (L' := [.mapO p l]) [4] (by decide) ⟨rfl, trivial⟩)⟩
 first | (rw [show copyIns _ x = y from hy.symm]; done) | (rw [show copyIns _ x = y from hy.symm]; rfl)

end Go.Proofs.Ytfpaahkleienoaa
