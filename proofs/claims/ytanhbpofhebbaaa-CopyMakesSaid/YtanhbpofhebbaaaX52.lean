/-
  Contracts of functions of this program and of the references, each walked once.
-/
import Derived.Test.YtanhbpofhebbaaaX51
import Derived.Test.YtanhbpofhebbaaaX33
namespace Go.Proofs.Ytanhbpofhebbaaa
open Go.RowKit
set_option linter.unusedSimpArgs false
set_option linter.unusedVariables false


/-- Is one of an order's numbers a register that is read, and not written? -/
def cpK (x : Ins) (k : Nat) : Bool := decide (kAt (kindsB x.op) k = 114) && !(decide (k = 0) && decide (0 ≤ wrG x)) && !(decide (x.op = 13) && decide (k = 1))
def cpStep (f : Int → Option Int) (x y : Ins) (k : Nat) : Ins := if cpK x k = true then (match f (nth [y.a, y.b, y.c] k) with | some b => putK y k b | none => y) else y
def cpTo (f : Int → Option Int) (x : Ins) : Nat → Ins
  | 0 => x
  | k + 1 => cpStep f x (cpTo f x k) k
/-- The order, reading other registers. -/
def copyIns (f : Int → Option Int) (x : Ins) : Ins := cpTo f x (kindsB x.op).size
theorem cp_no {f : Int → Option Int} {x y : Ins} {k : Nat} (h : y = cpTo f x k) (hk : cpK x k = false) : y = cpTo f x (k + 1) := by
  rw [cpTo, cpStep, if_neg (by rw [hk]; decide)]; exact h
theorem cp_none {f : Int → Option Int} {x y : Ins} {k : Nat} (h : y = cpTo f x k) (hf : f (nth [y.a, y.b, y.c] k) = none) : y = cpTo f x (k + 1) := by
  rw [cpTo, cpStep, ← h, hf]
  split <;> rfl
theorem cp_some {f : Int → Option Int} {x y : Ins} {k : Nat} {b : Int} (h : y = cpTo f x k) (hk : cpK x k = true) (hf : f (nth [y.a, y.b, y.c] k) = some b) : putK y k b = cpTo f x (k + 1) := by
  rw [cpTo, cpStep, if_pos hk, ← h, hf]
theorem putK_op (x : Ins) (k : Nat) (v : Int) : (putK x k v).op = x.op := by unfold putK; split; rfl; split <;> rfl
theorem cpTo_op (f : Int → Option Int) (x : Ins) : ∀ k, (cpTo f x k).op = x.op
  | 0 => rfl
  | k + 1 => by
    rw [cpTo, cpStep]
    split
    · split
      · rw [putK_op]; exact cpTo_op f x k
      · exact cpTo_op f x k
    · exact cpTo_op f x k
theorem putK_nth (y : Ins) (k j : Nat) (b : Int) (h : k < j) : nth [(putK y k b).a, (putK y k b).b, (putK y k b).c] j = nth [y.a, y.b, y.c] j := by
  rcases k with _ | _ | k
  · rcases j with _ | j
    · omega
    · rfl
  · rcases j with _ | _ | j
    · omega
    · omega
    · rfl
  · rcases j with _ | _ | _ | j
    · omega
    · omega
    · omega
    · rfl
theorem cpTo_nth (f : Int → Option Int) (x : Ins) : ∀ k j, k ≤ j → nth [(cpTo f x k).a, (cpTo f x k).b, (cpTo f x k).c] j = nth [x.a, x.b, x.c] j
  | 0, _, _ => rfl
  | k + 1, j, h => by
    rw [cpTo, cpStep]
    split
    · split
      · rw [putK_nth _ _ _ _ (by omega)]; exact cpTo_nth f x k j (by omega)
      · exact cpTo_nth f x k j (by omega)
    · exact cpTo_nth f x k j (by omega)
theorem cpTo_at (f : Int → Option Int) (x : Ins) (k : Nat) : nth [(cpTo f x k).a, (cpTo f x k).b, (cpTo f x k).c] k = nth [x.a, x.b, x.c] k := cpTo_nth f x k k (Nat.le_refl _)
theorem some_getD {q : Option Int} (h : q.isSome = true) : q = some (q.getD 0) := by cases q with | none => cases h | some b => rfl
theorem cpK_n {x : Ins} {k : Nat} (h : ¬ kAt (kindsB x.op) k = 114) : cpK x k = false := by unfold cpK; rw [decide_eq_false h]; rfl
theorem cpK_w {x : Ins} {k : Nat} (h : k = 0) (h2 : 0 ≤ wrG x) : cpK x k = false := by unfold cpK; rw [decide_eq_true h, decide_eq_true h2]; simp
theorem cpK_c {x : Ins} {k : Nat} (h : x.op = 13) (h2 : k = 1) : cpK x k = false := by unfold cpK; rw [decide_eq_true h, decide_eq_true h2]; simp
theorem cpK_y {x : Ins} {k : Nat} (h : kAt (kindsB x.op) k = 114) (h1 : k ≠ 0 ∨ ¬ 0 ≤ wrG x) (h2 : x.op ≠ 13 ∨ k ≠ 1) : cpK x k = true := by
  unfold cpK
  rw [decide_eq_true h]
  have e1 : (decide (k = 0) && decide (0 ≤ wrG x)) = false := by rcases h1 with h1 | h1 <;> simp [h1]
  have e2 : (decide (x.op = 13) && decide (k = 1)) = false := by rcases h2 with h2 | h2 <;> simp [h2]
  rw [e1, e2]; rfl
/-- What a row says of registers. -/
def rowF (l : List Int) (r : Int) : Option Int := if 0 ≤ nth l r.toNat then some (nth l r.toNat) else none
theorem set_putK {y x : Ins} {k : Nat} (v : Int) (hk : k < 3) : [y.a, y.b, y.c].set k v = [(putK y k v).a, (putK y k v).b, (putK y k v).c] := by
  rcases k with _ | _ | _ | k
  · rfl
  · rfl
  · rfl
  · omega
theorem name_r (op : Int) (W : World) : Rets Try.prog 54 [.int .i64 op] W (fun v w' => v = .tuple #[.string (nameB op), .string (kindsB op)] ∧ Sh0 W w' []) := by
  refine (name_any op W).mono fun e w' ⟨h1, h2⟩ => ⟨_, h1, rfl, ?_⟩
  subst h2
  exact Sh0.start W

set_option maxRecDepth 100000 in
set_option maxHeartbeats 4000000 in
theorem become_c (K : Nat → Prop) (x : Ins) (p : Option Nat) (l : List (Int × Int)) (W : World) (hS : Sh K W W [.mapO p l]) (hop : 1 ≤ x.op) :
    Rets Try.prog 87 [.agg #[.int .i64 x.op, .int .i64 x.a, .int .i64 x.b, .int .i64 x.c], .map p] W (fun v w' => v = .agg #[.int .i64 (copyIns (fun r => getZ r l) x).op, .int .i64 (copyIns (fun r => getZ r l) x).a, .int .i64 (copyIns (fun r => getZ r l) x).b, .int .i64 (copyIns (fun r => getZ r l) x).c] ∧ Sh K W w' [.mapO p l]) := by
 refine x_enter (N := 63) Try.func87 rfl Try.ntmps87 (Nat.le_of_ble_eq_true rfl) fun a1 hf1 => ?_
 have h1 : St 63 K W a1 W [(0, .agg #[.int .i64 x.op, .int .i64 x.a, .int .i64 x.b, .int .i64 x.c]), (1, .map p)] [.mapO p l] := ⟨hf1.sub ⟨rfl, rfl, trivial⟩, hS⟩
 clear hf1
 refine wp_seq_k fun K2 hK2 => wp_region_lit ?_
 refine wl_ex (x_box (cs := [.int .i64 x.op, .int .i64 x.a, .int .i64 x.b, .int .i64 x.c]) h1 rfl rfl rfl rfl rfl) (wanted_none rfl _) ?_
 rintro a3 w3 ⟨b3, h3⟩; clear h1
 refine wl_ex (x_alloc h3 ti_73 rfl rfl rfl) (wanted_none rfl _) ?_
 rintro a4 w4 ⟨b4, h4⟩; clear h3
 refine wpList_nil (hK2 _ _ ?_)
 refine wp_seq_k fun K5 hK5 => wp_region_lit ?_
 refine wv h4 (r_fieldB (r := 1) fl_73_1 rfl rfl rfl) rfl rfl fun a6 h6 => ?_; clear h4
 refine wv h6 (r_fieldB (r := 2) fl_73_2 rfl rfl rfl) rfl rfl fun a7 h7 => ?_; clear h6
 refine wv h7 (r_fieldB (r := 3) fl_73_3 rfl rfl rfl) rfl rfl fun a8 h8 => ?_; clear h7
 refine wl_ex (x_lit (n := 3) (cs := [.pointer (some ⟨b3, 1, none⟩), .pointer (some ⟨b3, 2, none⟩), .pointer (some ⟨b3, 3, none⟩)]) ([(⟨.pointer (some ⟨b3, 1, none⟩)⟩ : RV), (⟨.pointer (some ⟨b3, 2, none⟩)⟩ : RV), (⟨.pointer (some ⟨b3, 3, none⟩)⟩ : RV)] : List RV) h8 sl_151 ti_150 rfl rfl rfl (by decide) rfl (by kernel_rfl) rfl (fun q hq w h => Flat.inner _ _) (fun q hq b hb => (Flat.on _ _ hb).elim) rfl rfl) (wanted_none rfl _) ?_
 rintro a9 w9 ⟨v9, h9⟩; clear h8
 refine wms 1 h9 rfl fun a10 h10 => ?_; clear h9
 refine wpList_nil (hK5 _ _ ?_)
 refine wp_seq_k fun K11 hK11 => wp_region_lit ?_
 refine wv h10 (r_ldbw (i := 2) (vs := [.int .i64 x.op, .int .i64 x.a, .int .i64 x.b, .int .i64 x.c]) ti_73 rfl rfl rfl rfl rfl) rfl rfl fun a12 h12 => ?_; clear h10
 refine wl_ex (x_call h12 bd_80 rfl rfl rfl rfl rfl (writes_c x _ hop)) (wanted_none rfl _) ?_
 rintro a13 w13 ⟨_, ⟨rfl, hs13⟩, hf13⟩
 have h13 : St 63 K W a13 w13 _ _ := ⟨hf13, h12.sh.call0 hs13⟩
 clear hf13 hs13
 clear h12
 refine wms 1 h13 rfl fun a14 h14 => ?_; clear h13
 refine wpList_nil (hK11 _ _ ?_)
 refine wp_seq_k fun K15 hK15 => ?_
 refine wp_seq_k fun K16 hK16 => wp_region_lit ?_
 refine wv h14 (r_fieldB (r := 0) fl_73_0 rfl rfl rfl) rfl rfl fun a17 h17 => ?_; clear h14
 refine wv h17 (r_ldb (i := 2) ti_3 rfl rfl rfl rfl) rfl rfl fun a18 h18 => ?_; clear h17
 refine wl_ex (x_call h18 bd_114 rfl rfl rfl rfl rfl (kinds_c x.op _)) (wanted_none rfl _) ?_
 rintro a19 w19 ⟨_, ⟨rfl, hs19⟩, hf19⟩
 have h19 : St 63 K W a19 w19 _ _ := ⟨hf19, h18.sh.call0 hs19⟩
 clear hf19 hs19
 clear h18
 refine wl_ex (x_range (s := kindsB x.op) h19 Try.underlying9 rfl rfl rfl rfl) (wanted_none rfl _) ?_
 rintro a20 w20 ⟨b20, h20⟩; clear h19
 refine wpList_nil (hK16 _ _ ?_)
 refine wp_block ?_
 refine x_loop (fun m a w => ∃ (k : Nat) (y : Ins), (k ≤ (kindsB x.op).size) ∧ (y = cpTo (fun r => getZ r l) x k) ∧ St 63 K W a w [(1, .map p), (2, .pointer (some ⟨b3, 0, none⟩)), (4, .pointer (some ⟨b4, 0, none⟩)), (5, v9), (6, .int .i64 (wrG x)), (20, .pointer (some ⟨b20, 0, none⟩))] [.iter b20 (kindsB x.op) k, .own 150 (⟨v9, [(⟨.pointer (some ⟨b3, 1, none⟩)⟩ : RV), (⟨.pointer (some ⟨b3, 2, none⟩)⟩ : RV), (⟨.pointer (some ⟨b3, 3, none⟩)⟩ : RV)]⟩ : Ls RV), .blk b4 73 [.int .i64 0, .int .i64 0, .int .i64 0, .int .i64 0], .blk b3 73 [.int .i64 y.op, .int .i64 y.a, .int .i64 y.b, .int .i64 y.c], .mapO p l] ∧ m = (kindsB x.op).size - k) ⟨_, 0, x, (Nat.zero_le _), (rfl), h20.nrm ⟨rfl, rfl, rfl, rfl, rfl, rfl, trivial⟩ [0, 1, 2, 3, 4] (by decide) ⟨rfl, rfl, rfl, rfl, rfl, trivial⟩, rfl⟩ ?_
 clear h20
 rintro m21 a21 w21 ⟨k, y, hk, hy, h21, hm21⟩
 have h3 := (kinds_small x.op).1
 have hyo : y.op = x.op := by rw [hy]; exact cpTo_op _ _ _
 refine wp_seq_k fun K22 hK22 => wp_region_lit ?_
 by_cases hn23 : k < (kindsB x.op).size
 ·
  refine wl_ex (x_next (i := 0) (s := (kindsB x.op)) (pos := k) h21 rfl rfl rfl hn23 ((kinds_small x.op).2 _ hn23) rfl rfl) (wanted_none rfl _) ?_
  rintro a24 w24 h24
  clear h21
  refine wv h24 (r_extract rfl rfl rfl) rfl rfl fun a25 h25 => ?_; clear h24
  refine wpList_nil (hK22 _ _ ?_)
  refine wp_seq_k fun K26 hK26 => ?_
  refine x_condT h25 rfl rfl ?_
  refine wp_skip ?_
  refine hK26 _ _ ?_
  refine wp_block ?_
  refine wp_seq_k fun K27 hK27 => wp_region_lit ?_
  refine wv h25 (r_extract rfl rfl rfl) rfl rfl fun a28 h28 => ?_; clear h25
  refine wv h28 (r_extract rfl rfl rfl) rfl rfl fun a29 h29 => ?_; clear h28
  refine wms 2 h29 rfl fun a30 h30 => ?_; clear h29
  refine wpList_nil (hK27 _ _ ?_)
  refine wp_seq_k fun K31 hK31 => ?_
  refine wp_seq_k fun K32 hK32 => wp_region_lit ?_
  refine wms 1 h30 rfl fun a33 h33 => ?_; clear h30
  refine wv h33 (r_neqI (p := (((kindsB x.op)[k]'hn23).toNat : Int)) (q := 114) rfl rfl rfl) rfl rfl fun a34 h34 => ?_; clear h33
  refine wms 1 h34 rfl fun a35 h35 => ?_; clear h34
  rcases Bool.eq_false_or_eq_true (decide ((((kindsB x.op)[k]'hn23).toNat : Int) ≠ 114)) with hb36 | hb36
  ·
   have hp36 : (((kindsB x.op)[k]'hn23).toNat : Int) ≠ 114 := of_decide_eq_true hb36
   refine wl_skip h35 (wanted_no h35.fr rfl rfl rfl rfl hb36) rfl rfl fun a37 h37 => ?_; clear h35
   refine wl_skip h37 (wanted_no h37.fr rfl rfl rfl rfl hb36) rfl rfl fun a38 h38 => ?_; clear h37
   refine wl_skip h38 (wanted_no h38.fr rfl rfl rfl rfl hb36) rfl rfl fun a39 h39 => ?_; clear h38
   refine wl_skip h39 (wanted_no2 h39.fr rfl rfl rfl rfl) rfl rfl fun a40 h40 => ?_; clear h39
   refine wl_skip h40 (wanted_no2 h40.fr rfl rfl rfl rfl) rfl rfl fun a41 h41 => ?_; clear h40
   refine wl_skip h41 (wanted_no h41.fr rfl rfl rfl rfl hb36) rfl rfl fun a42 h42 => ?_; clear h41
   refine wv h42 (r_pickT rfl rfl hb36 rfl) rfl rfl fun a43 h43 => ?_; clear h42
   refine wms 1 h43 rfl fun a44 h44 => ?_; clear h43
   refine wl_skip h44 (wanted_no h44.fr rfl rfl rfl rfl rfl) rfl rfl fun a45 h45 => ?_; clear h44
   refine wl_skip h45 (wanted_no h45.fr rfl rfl rfl rfl rfl) rfl rfl fun a46 h46 => ?_; clear h45
   refine wl_skip h46 (wanted_no h46.fr rfl rfl rfl rfl rfl) rfl rfl fun a47 h47 => ?_; clear h46
   refine wl_skip h47 (wanted_no h47.fr rfl rfl rfl rfl rfl) rfl rfl fun a48 h48 => ?_; clear h47
   refine wl_skip h48 (wanted_no2 h48.fr rfl rfl rfl rfl) rfl rfl fun a49 h49 => ?_; clear h48
   refine wl_skip h49 (wanted_no2 h49.fr rfl rfl rfl rfl) rfl rfl fun a50 h50 => ?_; clear h49
   refine wl_skip h50 (wanted_no h50.fr rfl rfl rfl rfl rfl) rfl rfl fun a51 h51 => ?_; clear h50
   refine wv h51 (r_pickT rfl rfl rfl rfl) rfl rfl fun a52 h52 => ?_; clear h51
   refine wpList_nil (hK32 _ _ ?_)
   have h53 : St 63 K W a52 w24 [(1, .map p), (2, .pointer (some ⟨b3, 0, none⟩)), (4, .pointer (some ⟨b4, 0, none⟩)), (5, v9), (6, .int .i64 (wrG x)), (7, .int .i64 ((k : Nat) : Int)), (20, .pointer (some ⟨b20, 0, none⟩)), (43, .bool true)] [.iter b20 (kindsB x.op) (k + 1), .own 150 (⟨v9, [(⟨.pointer (some ⟨b3, 1, none⟩)⟩ : RV), (⟨.pointer (some ⟨b3, 2, none⟩)⟩ : RV), (⟨.pointer (some ⟨b3, 3, none⟩)⟩ : RV)]⟩ : Ls RV), .blk b4 73 [.int .i64 0, .int .i64 0, .int .i64 0, .int .i64 0], .blk b3 73 [.int .i64 y.op, .int .i64 y.a, .int .i64 y.b, .int .i64 y.c], .mapO p l] := h52.nrm ⟨rfl, rfl, rfl, rfl, rfl, rfl, rfl, rfl, trivial⟩ [0, 1, 2, 3, 4] (by decide) ⟨rfl, rfl, rfl, rfl, rfl, trivial⟩
   clear h52
   refine x_condT h53 rfl rfl ?_
   refine wp_exit ?_
   change ∃ _m, _m < _ ∧ _
   refine ⟨_, ?_, (k + 1), y, ?_, ?_, h53.nrm ⟨rfl, rfl, rfl, rfl, rfl, rfl, trivial⟩ [0, 1, 2, 3, 4] (by decide) ⟨rfl, rfl, rfl, rfl, rfl, trivial⟩, rfl⟩
   · rw [hm21]; first | omega | (simp only [lens9]; omega)
   · omega
   · first | (exact cp_some hy (cpK_y (by rw [kAt_at (by assumption)]; first | assumption | omega) (by omega) (by omega)) (some_getD (by assumption))) | (exact cp_none hy (Option.not_isSome_iff_eq_none.1 (by rw [(by assumption : (getZ _ l).isSome = false)]; decide))) | (exact cp_no hy (cpK_n (by rw [kAt_at (by assumption)]; first | assumption | omega))) | (exact cp_no hy (cpK_w (by omega) (by omega))) | (exact cp_no hy (cpK_c (by omega) (by omega)))
  have hp36 : ¬ ((((kindsB x.op)[k]'hn23).toNat : Int) ≠ 114) := of_decide_eq_false hb36
  refine wl_val h35 (r_move rfl rfl) (wanted_yes h35.fr rfl rfl rfl rfl hb36) rfl rfl fun a54 h54 => ?_; clear h35
  refine wl_val h54 (r_eqlN (p := k) (q := 0) rfl rfl rfl) (wanted_yes h54.fr rfl rfl rfl rfl hb36) rfl rfl fun a55 h55 => ?_; clear h54
  refine wl_val h55 (r_move rfl rfl) (wanted_yes h55.fr rfl rfl rfl rfl hb36) rfl rfl fun a56 h56 => ?_; clear h55
  rcases Bool.eq_false_or_eq_true (decide (k = 0)) with hb57 | hb57
  ·
   have hp57 : k = 0 := of_decide_eq_true hb57
   refine wl_val h56 (r_move rfl rfl) (wanted_yes h56.fr rfl rfl rfl rfl hb57) rfl rfl fun a58 h58 => ?_; clear h56
   refine wl_val h58 (r_geqI (p := wrG x) (q := 0) rfl rfl rfl) (wanted_yes h58.fr rfl rfl rfl rfl hb57) rfl rfl fun a59 h59 => ?_; clear h58
   refine wl_val h59 (r_pickT rfl rfl hb57 rfl) (wanted_yes h59.fr rfl rfl rfl rfl hb36) rfl rfl fun a60 h60 => ?_; clear h59
   refine wv h60 (r_pickF rfl rfl hb36 rfl) rfl rfl fun a61 h61 => ?_; clear h60
   refine wms 1 h61 rfl fun a62 h62 => ?_; clear h61
   rcases Bool.eq_false_or_eq_true (decide (0 ≤ wrG x)) with hb63 | hb63
   ·
    have hp63 : 0 ≤ wrG x := of_decide_eq_true hb63
    refine wl_skip h62 (wanted_no h62.fr rfl rfl rfl rfl hb63) rfl rfl fun a64 h64 => ?_; clear h62
    refine wl_skip h64 (wanted_no h64.fr rfl rfl rfl rfl hb63) rfl rfl fun a65 h65 => ?_; clear h64
    refine wl_skip h65 (wanted_no h65.fr rfl rfl rfl rfl hb63) rfl rfl fun a66 h66 => ?_; clear h65
    refine wl_skip h66 (wanted_no h66.fr rfl rfl rfl rfl hb63) rfl rfl fun a67 h67 => ?_; clear h66
    refine wl_skip h67 (wanted_no2 h67.fr rfl rfl rfl rfl) rfl rfl fun a68 h68 => ?_; clear h67
    refine wl_skip h68 (wanted_no2 h68.fr rfl rfl rfl rfl) rfl rfl fun a69 h69 => ?_; clear h68
    refine wl_skip h69 (wanted_no h69.fr rfl rfl rfl rfl hb63) rfl rfl fun a70 h70 => ?_; clear h69
    refine wv h70 (r_pickT rfl rfl hb63 rfl) rfl rfl fun a71 h71 => ?_; clear h70
    refine wpList_nil (hK32 _ _ ?_)
    have h72 : St 63 K W a71 w24 [(1, .map p), (2, .pointer (some ⟨b3, 0, none⟩)), (4, .pointer (some ⟨b4, 0, none⟩)), (5, v9), (6, .int .i64 (wrG x)), (7, .int .i64 ((k : Nat) : Int)), (20, .pointer (some ⟨b20, 0, none⟩)), (43, .bool true)] [.iter b20 (kindsB x.op) (k + 1), .own 150 (⟨v9, [(⟨.pointer (some ⟨b3, 1, none⟩)⟩ : RV), (⟨.pointer (some ⟨b3, 2, none⟩)⟩ : RV), (⟨.pointer (some ⟨b3, 3, none⟩)⟩ : RV)]⟩ : Ls RV), .blk b4 73 [.int .i64 0, .int .i64 0, .int .i64 0, .int .i64 0], .blk b3 73 [.int .i64 y.op, .int .i64 y.a, .int .i64 y.b, .int .i64 y.c], .mapO p l] := h71.nrm ⟨rfl, rfl, rfl, rfl, rfl, rfl, rfl, rfl, trivial⟩ [0, 1, 2, 3, 4] (by decide) ⟨rfl, rfl, rfl, rfl, rfl, trivial⟩
    clear h71
    refine x_condT h72 rfl rfl ?_
    refine wp_exit ?_
    change ∃ _m, _m < _ ∧ _
    refine ⟨_, ?_, (k + 1), y, ?_, ?_, h72.nrm ⟨rfl, rfl, rfl, rfl, rfl, rfl, trivial⟩ [0, 1, 2, 3, 4] (by decide) ⟨rfl, rfl, rfl, rfl, rfl, trivial⟩, rfl⟩
    · rw [hm21]; first | omega | (simp only [lens9]; omega)
    · omega
    · first | (exact cp_some hy (cpK_y (by rw [kAt_at (by assumption)]; first | assumption | omega) (by omega) (by omega)) (some_getD (by assumption))) | (exact cp_none hy (Option.not_isSome_iff_eq_none.1 (by rw [(by assumption : (getZ _ l).isSome = false)]; decide))) | (exact cp_no hy (cpK_n (by rw [kAt_at (by assumption)]; first | assumption | omega))) | (exact cp_no hy (cpK_w (by omega) (by omega))) | (exact cp_no hy (cpK_c (by omega) (by omega)))
   have hp63 : ¬ (0 ≤ wrG x) := of_decide_eq_false hb63
   refine wl_val h62 (r_fieldB (r := 0) fl_73_0 rfl rfl rfl) (wanted_yes h62.fr rfl rfl rfl rfl hb63) rfl rfl fun a73 h73 => ?_; clear h62
   refine wl_val h73 (r_ldb (i := 3) ti_3 rfl rfl rfl rfl) (wanted_yes h73.fr rfl rfl rfl rfl hb63) rfl rfl fun a74 h74 => ?_; clear h73
   refine wl_val h74 (r_eqlI (p := y.op) (q := 13) rfl rfl rfl) (wanted_yes h74.fr rfl rfl rfl rfl hb63) rfl rfl fun a75 h75 => ?_; clear h74
   refine wl_val h75 (r_move rfl rfl) (wanted_yes h75.fr rfl rfl rfl rfl hb63) rfl rfl fun a76 h76 => ?_; clear h75
   rcases Bool.eq_false_or_eq_true (decide (y.op = 13)) with hb77 | hb77
   ·
    have hp77 : y.op = 13 := of_decide_eq_true hb77
    refine wl_val h76 (r_move rfl rfl) (wanted_yes h76.fr rfl rfl rfl rfl hb77) rfl rfl fun a78 h78 => ?_; clear h76
    refine wl_val h78 (r_eqlN (p := k) (q := 1) rfl rfl rfl) (wanted_yes h78.fr rfl rfl rfl rfl hb77) rfl rfl fun a79 h79 => ?_; clear h78
    refine wl_val h79 (r_pickT rfl rfl hb77 rfl) (wanted_yes h79.fr rfl rfl rfl rfl hb63) rfl rfl fun a80 h80 => ?_; clear h79
    refine wv h80 (r_pickF rfl rfl hb63 rfl) rfl rfl fun a81 h81 => ?_; clear h80
    refine wpList_nil (hK32 _ _ ?_)
    have h82 : St 63 K W a81 w24 [(1, .map p), (2, .pointer (some ⟨b3, 0, none⟩)), (4, .pointer (some ⟨b4, 0, none⟩)), (5, v9), (6, .int .i64 (wrG x)), (7, .int .i64 ((k : Nat) : Int)), (20, .pointer (some ⟨b20, 0, none⟩)), (43, .bool (decide (k = 1)))] [.iter b20 (kindsB x.op) (k + 1), .own 150 (⟨v9, [(⟨.pointer (some ⟨b3, 1, none⟩)⟩ : RV), (⟨.pointer (some ⟨b3, 2, none⟩)⟩ : RV), (⟨.pointer (some ⟨b3, 3, none⟩)⟩ : RV)]⟩ : Ls RV), .blk b4 73 [.int .i64 0, .int .i64 0, .int .i64 0, .int .i64 0], .blk b3 73 [.int .i64 y.op, .int .i64 y.a, .int .i64 y.b, .int .i64 y.c], .mapO p l] := h81.nrm ⟨rfl, rfl, rfl, rfl, rfl, rfl, rfl, rfl, trivial⟩ [0, 1, 2, 3, 4] (by decide) ⟨rfl, rfl, rfl, rfl, rfl, trivial⟩
    clear h81
    refine x_condF h82 rfl (decide_eq_false (by omega)) ?_
    refine wp_skip ?_
    refine hK31 _ _ ?_
    refine wp_seq_k fun K83 hK83 => wp_region_lit ?_
    refine wms 3 h82 rfl fun a84 h84 => ?_; clear h82
    have hl85 : ([(⟨.pointer (some ⟨b3, 1, none⟩)⟩ : RV), (⟨.pointer (some ⟨b3, 2, none⟩)⟩ : RV), (⟨.pointer (some ⟨b3, 3, none⟩)⟩ : RV)]).length ≤ 140737488355328 := (h84.sh.own 1 rfl).len
    refine wv h84 (r_ixN (s := (⟨v9, [(⟨.pointer (some ⟨b3, 1, none⟩)⟩ : RV), (⟨.pointer (some ⟨b3, 2, none⟩)⟩ : RV), (⟨.pointer (some ⟨b3, 3, none⟩)⟩ : RV)]⟩ : Ls RV)) (q := k) sl_151 ti_150 rfl rfl rfl (fun w h => (h.own 1 rfl)) (show k < ([(⟨.pointer (some ⟨b3, 1, none⟩)⟩ : RV), (⟨.pointer (some ⟨b3, 2, none⟩)⟩ : RV), (⟨.pointer (some ⟨b3, 3, none⟩)⟩ : RV)]).length from (by first | omega | (simp only [lens9]; omega)))) rfl rfl fun a86 h86 => ?_; clear h84
    refine wv h86 (Rn.same (r_lde (s := (⟨v9, [(⟨.pointer (some ⟨b3, 1, none⟩)⟩ : RV), (⟨.pointer (some ⟨b3, 2, none⟩)⟩ : RV), (⟨.pointer (some ⟨b3, 3, none⟩)⟩ : RV)]⟩ : Ls RV)) (i := k) (v := ((nth ([(⟨.pointer (some ⟨b3, 1, none⟩)⟩ : RV), (⟨.pointer (some ⟨b3, 2, none⟩)⟩ : RV), (⟨.pointer (some ⟨b3, 3, none⟩)⟩ : RV)]) k).v)) ti_150 rfl rfl rfl (fun w h => (h.own 1 rfl)) (show k < ([(⟨.pointer (some ⟨b3, 1, none⟩)⟩ : RV), (⟨.pointer (some ⟨b3, 2, none⟩)⟩ : RV), (⟨.pointer (some ⟨b3, 3, none⟩)⟩ : RV)]).length from (by first | omega | (simp only [lens9]; omega))) (Nat.le_of_ble_eq_true rfl) rfl) (congrArg RV.v (ix_Bk (⟨0, 0, 0, 0⟩ : Ins) b3 k (by omega)))) rfl rfl fun a87 h87 => ?_; clear h86
    refine wv h87 (r_nil rfl rfl) rfl rfl fun a88 h88 => ?_; clear h87
    refine wv h88 (r_ldBk (i := 3) (x := y) (k := k) ti_3 rfl rfl rfl (show k < 3 from (by omega))) rfl rfl fun a89 h89 => ?_; clear h88
    refine wv h89 (r_lookZ (i := 4) (k := (nth [y.a, y.b, y.c] k)) (l := l) mz_130 rfl rfl rfl rfl) rfl rfl fun a90 h90 => ?_; clear h89
    refine wms 1 h90 rfl fun a91 h91 => ?_; clear h90
    refine wv h91 (r_extract rfl rfl rfl) rfl rfl fun a92 h92 => ?_; clear h91
    refine wv h92 (r_extract rfl rfl rfl) rfl rfl fun a93 h93 => ?_; clear h92
    refine wms 2 h93 rfl fun a94 h94 => ?_; clear h93
    refine wpList_nil (hK83 _ _ ?_)
    refine wp_seq_k fun K95 hK95 => wp_region_lit ?_
    refine wms 1 h94 rfl fun a96 h96 => ?_; clear h94
    refine wpList_nil (hK95 _ _ ?_)
    refine x_cond h96 rfl (fun hb97 => ?_) (fun hb97 => ?_)
    ·
     skip
     refine wp_region_lit ?_
     refine wms 2 h96 rfl fun a98 h98 => ?_; clear h96
     refine wv h98 (r_ixN (s := (⟨v9, [(⟨.pointer (some ⟨b3, 1, none⟩)⟩ : RV), (⟨.pointer (some ⟨b3, 2, none⟩)⟩ : RV), (⟨.pointer (some ⟨b3, 3, none⟩)⟩ : RV)]⟩ : Ls RV)) (q := k) sl_151 ti_150 rfl rfl rfl (fun w h => (h.own 1 rfl)) (show k < ([(⟨.pointer (some ⟨b3, 1, none⟩)⟩ : RV), (⟨.pointer (some ⟨b3, 2, none⟩)⟩ : RV), (⟨.pointer (some ⟨b3, 3, none⟩)⟩ : RV)]).length from (by first | omega | (simp only [lens9]; omega)))) rfl rfl fun a99 h99 => ?_; clear h98
     refine wv h99 (Rn.same (r_lde (s := (⟨v9, [(⟨.pointer (some ⟨b3, 1, none⟩)⟩ : RV), (⟨.pointer (some ⟨b3, 2, none⟩)⟩ : RV), (⟨.pointer (some ⟨b3, 3, none⟩)⟩ : RV)]⟩ : Ls RV)) (i := k) (v := ((nth ([(⟨.pointer (some ⟨b3, 1, none⟩)⟩ : RV), (⟨.pointer (some ⟨b3, 2, none⟩)⟩ : RV), (⟨.pointer (some ⟨b3, 3, none⟩)⟩ : RV)]) k).v)) ti_150 rfl rfl rfl (fun w h => (h.own 1 rfl)) (show k < ([(⟨.pointer (some ⟨b3, 1, none⟩)⟩ : RV), (⟨.pointer (some ⟨b3, 2, none⟩)⟩ : RV), (⟨.pointer (some ⟨b3, 3, none⟩)⟩ : RV)]).length from (by first | omega | (simp only [lens9]; omega))) (Nat.le_of_ble_eq_true rfl) rfl) (congrArg RV.v (ix_Bk (⟨0, 0, 0, 0⟩ : Ins) b3 k (by omega)))) rfl rfl fun a100 h100 => ?_; clear h99
     refine wms 1 h100 rfl fun a101 h101 => ?_; clear h100
     refine wv h101 (r_nil rfl rfl) rfl rfl fun a102 h102 => ?_; clear h101
     refine wl_ex (x_stBk (i := 3) (x := y) (k := k) (v := (getZ (nth [y.a, y.b, y.c] k) l).getD 0) h102 ti_3 rfl rfl rfl rfl rfl (show k < 3 from (by omega))) (wanted_none rfl _) ?_
     rintro a103 w103 h103
     clear h102
     refine wpList_nil ?_
     change ∃ _m, _m < _ ∧ _
     refine ⟨_, ?_, (k + 1), (putK y k ((getZ (nth [y.a, y.b, y.c] k) l).getD 0)), ?_, ?_, h103.nrm ⟨rfl, rfl, rfl, rfl, rfl, rfl, trivial⟩ [0, 1, 2, 3, 4] (by decide) ⟨rfl, rfl, rfl, rfl, rfl, trivial⟩, rfl⟩
     · rw [hm21]; first | omega | (simp only [lens9]; omega)
     · omega
     · first | (exact cp_some hy (cpK_y (by rw [kAt_at (by assumption)]; first | assumption | omega) (by omega) (by omega)) (some_getD (by assumption))) | (exact cp_none hy (Option.not_isSome_iff_eq_none.1 (by rw [(by assumption : (getZ _ l).isSome = false)]; decide))) | (exact cp_no hy (cpK_n (by rw [kAt_at (by assumption)]; first | assumption | omega))) | (exact cp_no hy (cpK_w (by omega) (by omega))) | (exact cp_no hy (cpK_c (by omega) (by omega)))
    refine wp_skip ?_
    change ∃ _m, _m < _ ∧ _
    refine ⟨_, ?_, (k + 1), y, ?_, ?_, h96.nrm ⟨rfl, rfl, rfl, rfl, rfl, rfl, trivial⟩ [0, 1, 2, 3, 4] (by decide) ⟨rfl, rfl, rfl, rfl, rfl, trivial⟩, rfl⟩
    · rw [hm21]; first | omega | (simp only [lens9]; omega)
    · omega
    · first | (exact cp_some hy (cpK_y (by rw [kAt_at (by assumption)]; first | assumption | omega) (by omega) (by omega)) (some_getD (by assumption))) | (exact cp_none hy (Option.not_isSome_iff_eq_none.1 (by rw [(by assumption : (getZ _ l).isSome = false)]; decide))) | (exact cp_no hy (cpK_n (by rw [kAt_at (by assumption)]; first | assumption | omega))) | (exact cp_no hy (cpK_w (by omega) (by omega))) | (exact cp_no hy (cpK_c (by omega) (by omega)))
   have hp77 : ¬ (y.op = 13) := of_decide_eq_false hb77
   refine wl_skip h76 (wanted_no h76.fr rfl rfl rfl rfl hb77) rfl rfl fun a104 h104 => ?_; clear h76
   refine wl_skip h104 (wanted_no h104.fr rfl rfl rfl rfl hb77) rfl rfl fun a105 h105 => ?_; clear h104
   refine wl_val h105 (r_pickF rfl rfl hb77 rfl) (wanted_yes h105.fr rfl rfl rfl rfl hb63) rfl rfl fun a106 h106 => ?_; clear h105
   refine wv h106 (r_pickF rfl rfl hb63 rfl) rfl rfl fun a107 h107 => ?_; clear h106
   refine wpList_nil (hK32 _ _ ?_)
   have h108 : St 63 K W a107 w24 [(1, .map p), (2, .pointer (some ⟨b3, 0, none⟩)), (4, .pointer (some ⟨b4, 0, none⟩)), (5, v9), (6, .int .i64 (wrG x)), (7, .int .i64 ((k : Nat) : Int)), (20, .pointer (some ⟨b20, 0, none⟩)), (43, .bool false)] [.iter b20 (kindsB x.op) (k + 1), .own 150 (⟨v9, [(⟨.pointer (some ⟨b3, 1, none⟩)⟩ : RV), (⟨.pointer (some ⟨b3, 2, none⟩)⟩ : RV), (⟨.pointer (some ⟨b3, 3, none⟩)⟩ : RV)]⟩ : Ls RV), .blk b4 73 [.int .i64 0, .int .i64 0, .int .i64 0, .int .i64 0], .blk b3 73 [.int .i64 y.op, .int .i64 y.a, .int .i64 y.b, .int .i64 y.c], .mapO p l] := h107.nrm ⟨rfl, rfl, rfl, rfl, rfl, rfl, rfl, rfl, trivial⟩ [0, 1, 2, 3, 4] (by decide) ⟨rfl, rfl, rfl, rfl, rfl, trivial⟩
   clear h107
   refine x_condF h108 rfl rfl ?_
   refine wp_skip ?_
   refine hK31 _ _ ?_
   refine wp_seq_k fun K109 hK109 => wp_region_lit ?_
   refine wms 3 h108 rfl fun a110 h110 => ?_; clear h108
   have hl111 : ([(⟨.pointer (some ⟨b3, 1, none⟩)⟩ : RV), (⟨.pointer (some ⟨b3, 2, none⟩)⟩ : RV), (⟨.pointer (some ⟨b3, 3, none⟩)⟩ : RV)]).length ≤ 140737488355328 := (h110.sh.own 1 rfl).len
   refine wv h110 (r_ixN (s := (⟨v9, [(⟨.pointer (some ⟨b3, 1, none⟩)⟩ : RV), (⟨.pointer (some ⟨b3, 2, none⟩)⟩ : RV), (⟨.pointer (some ⟨b3, 3, none⟩)⟩ : RV)]⟩ : Ls RV)) (q := k) sl_151 ti_150 rfl rfl rfl (fun w h => (h.own 1 rfl)) (show k < ([(⟨.pointer (some ⟨b3, 1, none⟩)⟩ : RV), (⟨.pointer (some ⟨b3, 2, none⟩)⟩ : RV), (⟨.pointer (some ⟨b3, 3, none⟩)⟩ : RV)]).length from (by first | omega | (simp only [lens9]; omega)))) rfl rfl fun a112 h112 => ?_; clear h110
   refine wv h112 (Rn.same (r_lde (s := (⟨v9, [(⟨.pointer (some ⟨b3, 1, none⟩)⟩ : RV), (⟨.pointer (some ⟨b3, 2, none⟩)⟩ : RV), (⟨.pointer (some ⟨b3, 3, none⟩)⟩ : RV)]⟩ : Ls RV)) (i := k) (v := ((nth ([(⟨.pointer (some ⟨b3, 1, none⟩)⟩ : RV), (⟨.pointer (some ⟨b3, 2, none⟩)⟩ : RV), (⟨.pointer (some ⟨b3, 3, none⟩)⟩ : RV)]) k).v)) ti_150 rfl rfl rfl (fun w h => (h.own 1 rfl)) (show k < ([(⟨.pointer (some ⟨b3, 1, none⟩)⟩ : RV), (⟨.pointer (some ⟨b3, 2, none⟩)⟩ : RV), (⟨.pointer (some ⟨b3, 3, none⟩)⟩ : RV)]).length from (by first | omega | (simp only [lens9]; omega))) (Nat.le_of_ble_eq_true rfl) rfl) (congrArg RV.v (ix_Bk (⟨0, 0, 0, 0⟩ : Ins) b3 k (by omega)))) rfl rfl fun a113 h113 => ?_; clear h112
   refine wv h113 (r_nil rfl rfl) rfl rfl fun a114 h114 => ?_; clear h113
   refine wv h114 (r_ldBk (i := 3) (x := y) (k := k) ti_3 rfl rfl rfl (show k < 3 from (by omega))) rfl rfl fun a115 h115 => ?_; clear h114
   refine wv h115 (r_lookZ (i := 4) (k := (nth [y.a, y.b, y.c] k)) (l := l) mz_130 rfl rfl rfl rfl) rfl rfl fun a116 h116 => ?_; clear h115
   refine wms 1 h116 rfl fun a117 h117 => ?_; clear h116
   refine wv h117 (r_extract rfl rfl rfl) rfl rfl fun a118 h118 => ?_; clear h117
   refine wv h118 (r_extract rfl rfl rfl) rfl rfl fun a119 h119 => ?_; clear h118
   refine wms 2 h119 rfl fun a120 h120 => ?_; clear h119
   refine wpList_nil (hK109 _ _ ?_)
   refine wp_seq_k fun K121 hK121 => wp_region_lit ?_
   refine wms 1 h120 rfl fun a122 h122 => ?_; clear h120
   refine wpList_nil (hK121 _ _ ?_)
   refine x_cond h122 rfl (fun hb123 => ?_) (fun hb123 => ?_)
   ·
    skip
    refine wp_region_lit ?_
    refine wms 2 h122 rfl fun a124 h124 => ?_; clear h122
    refine wv h124 (r_ixN (s := (⟨v9, [(⟨.pointer (some ⟨b3, 1, none⟩)⟩ : RV), (⟨.pointer (some ⟨b3, 2, none⟩)⟩ : RV), (⟨.pointer (some ⟨b3, 3, none⟩)⟩ : RV)]⟩ : Ls RV)) (q := k) sl_151 ti_150 rfl rfl rfl (fun w h => (h.own 1 rfl)) (show k < ([(⟨.pointer (some ⟨b3, 1, none⟩)⟩ : RV), (⟨.pointer (some ⟨b3, 2, none⟩)⟩ : RV), (⟨.pointer (some ⟨b3, 3, none⟩)⟩ : RV)]).length from (by first | omega | (simp only [lens9]; omega)))) rfl rfl fun a125 h125 => ?_; clear h124
    refine wv h125 (Rn.same (r_lde (s := (⟨v9, [(⟨.pointer (some ⟨b3, 1, none⟩)⟩ : RV), (⟨.pointer (some ⟨b3, 2, none⟩)⟩ : RV), (⟨.pointer (some ⟨b3, 3, none⟩)⟩ : RV)]⟩ : Ls RV)) (i := k) (v := ((nth ([(⟨.pointer (some ⟨b3, 1, none⟩)⟩ : RV), (⟨.pointer (some ⟨b3, 2, none⟩)⟩ : RV), (⟨.pointer (some ⟨b3, 3, none⟩)⟩ : RV)]) k).v)) ti_150 rfl rfl rfl (fun w h => (h.own 1 rfl)) (show k < ([(⟨.pointer (some ⟨b3, 1, none⟩)⟩ : RV), (⟨.pointer (some ⟨b3, 2, none⟩)⟩ : RV), (⟨.pointer (some ⟨b3, 3, none⟩)⟩ : RV)]).length from (by first | omega | (simp only [lens9]; omega))) (Nat.le_of_ble_eq_true rfl) rfl) (congrArg RV.v (ix_Bk (⟨0, 0, 0, 0⟩ : Ins) b3 k (by omega)))) rfl rfl fun a126 h126 => ?_; clear h125
    refine wms 1 h126 rfl fun a127 h127 => ?_; clear h126
    refine wv h127 (r_nil rfl rfl) rfl rfl fun a128 h128 => ?_; clear h127
    refine wl_ex (x_stBk (i := 3) (x := y) (k := k) (v := (getZ (nth [y.a, y.b, y.c] k) l).getD 0) h128 ti_3 rfl rfl rfl rfl rfl (show k < 3 from (by omega))) (wanted_none rfl _) ?_
    rintro a129 w129 h129
    clear h128
    refine wpList_nil ?_
    change ∃ _m, _m < _ ∧ _
    refine ⟨_, ?_, (k + 1), (putK y k ((getZ (nth [y.a, y.b, y.c] k) l).getD 0)), ?_, ?_, h129.nrm ⟨rfl, rfl, rfl, rfl, rfl, rfl, trivial⟩ [0, 1, 2, 3, 4] (by decide) ⟨rfl, rfl, rfl, rfl, rfl, trivial⟩, rfl⟩
    · rw [hm21]; first | omega | (simp only [lens9]; omega)
    · omega
    · first | (exact cp_some hy (cpK_y (by rw [kAt_at (by assumption)]; first | assumption | omega) (by omega) (by omega)) (some_getD (by assumption))) | (exact cp_none hy (Option.not_isSome_iff_eq_none.1 (by rw [(by assumption : (getZ _ l).isSome = false)]; decide))) | (exact cp_no hy (cpK_n (by rw [kAt_at (by assumption)]; first | assumption | omega))) | (exact cp_no hy (cpK_w (by omega) (by omega))) | (exact cp_no hy (cpK_c (by omega) (by omega)))
   refine wp_skip ?_
   change ∃ _m, _m < _ ∧ _
   refine ⟨_, ?_, (k + 1), y, ?_, ?_, h122.nrm ⟨rfl, rfl, rfl, rfl, rfl, rfl, trivial⟩ [0, 1, 2, 3, 4] (by decide) ⟨rfl, rfl, rfl, rfl, rfl, trivial⟩, rfl⟩
   · rw [hm21]; first | omega | (simp only [lens9]; omega)
   · omega
   · first | (exact cp_some hy (cpK_y (by rw [kAt_at (by assumption)]; first | assumption | omega) (by omega) (by omega)) (some_getD (by assumption))) | (exact cp_none hy (Option.not_isSome_iff_eq_none.1 (by rw [(by assumption : (getZ _ l).isSome = false)]; decide))) | (exact cp_no hy (cpK_n (by rw [kAt_at (by assumption)]; first | assumption | omega))) | (exact cp_no hy (cpK_w (by omega) (by omega))) | (exact cp_no hy (cpK_c (by omega) (by omega)))
  have hp57 : ¬ (k = 0) := of_decide_eq_false hb57
  refine wl_skip h56 (wanted_no h56.fr rfl rfl rfl rfl hb57) rfl rfl fun a130 h130 => ?_; clear h56
  refine wl_skip h130 (wanted_no h130.fr rfl rfl rfl rfl hb57) rfl rfl fun a131 h131 => ?_; clear h130
  refine wl_val h131 (r_pickF rfl rfl hb57 rfl) (wanted_yes h131.fr rfl rfl rfl rfl hb36) rfl rfl fun a132 h132 => ?_; clear h131
  refine wv h132 (r_pickF rfl rfl hb36 rfl) rfl rfl fun a133 h133 => ?_; clear h132
  refine wms 1 h133 rfl fun a134 h134 => ?_; clear h133
  refine wl_val h134 (r_fieldB (r := 0) fl_73_0 rfl rfl rfl) (wanted_yes h134.fr rfl rfl rfl rfl rfl) rfl rfl fun a135 h135 => ?_; clear h134
  refine wl_val h135 (r_ldb (i := 3) ti_3 rfl rfl rfl rfl) (wanted_yes h135.fr rfl rfl rfl rfl rfl) rfl rfl fun a136 h136 => ?_; clear h135
  refine wl_val h136 (r_eqlI (p := y.op) (q := 13) rfl rfl rfl) (wanted_yes h136.fr rfl rfl rfl rfl rfl) rfl rfl fun a137 h137 => ?_; clear h136
  refine wl_val h137 (r_move rfl rfl) (wanted_yes h137.fr rfl rfl rfl rfl rfl) rfl rfl fun a138 h138 => ?_; clear h137
  rcases Bool.eq_false_or_eq_true (decide (y.op = 13)) with hb139 | hb139
  ·
   have hp139 : y.op = 13 := of_decide_eq_true hb139
   refine wl_val h138 (r_move rfl rfl) (wanted_yes h138.fr rfl rfl rfl rfl hb139) rfl rfl fun a140 h140 => ?_; clear h138
   refine wl_val h140 (r_eqlN (p := k) (q := 1) rfl rfl rfl) (wanted_yes h140.fr rfl rfl rfl rfl hb139) rfl rfl fun a141 h141 => ?_; clear h140
   refine wl_val h141 (r_pickT rfl rfl hb139 rfl) (wanted_yes h141.fr rfl rfl rfl rfl rfl) rfl rfl fun a142 h142 => ?_; clear h141
   refine wv h142 (r_pickF rfl rfl rfl rfl) rfl rfl fun a143 h143 => ?_; clear h142
   refine wpList_nil (hK32 _ _ ?_)
   have h144 : St 63 K W a143 w24 [(1, .map p), (2, .pointer (some ⟨b3, 0, none⟩)), (4, .pointer (some ⟨b4, 0, none⟩)), (5, v9), (6, .int .i64 (wrG x)), (7, .int .i64 ((k : Nat) : Int)), (20, .pointer (some ⟨b20, 0, none⟩)), (43, .bool (decide (k = 1)))] [.iter b20 (kindsB x.op) (k + 1), .own 150 (⟨v9, [(⟨.pointer (some ⟨b3, 1, none⟩)⟩ : RV), (⟨.pointer (some ⟨b3, 2, none⟩)⟩ : RV), (⟨.pointer (some ⟨b3, 3, none⟩)⟩ : RV)]⟩ : Ls RV), .blk b4 73 [.int .i64 0, .int .i64 0, .int .i64 0, .int .i64 0], .blk b3 73 [.int .i64 y.op, .int .i64 y.a, .int .i64 y.b, .int .i64 y.c], .mapO p l] := h143.nrm ⟨rfl, rfl, rfl, rfl, rfl, rfl, rfl, rfl, trivial⟩ [0, 1, 2, 3, 4] (by decide) ⟨rfl, rfl, rfl, rfl, rfl, trivial⟩
   clear h143
   refine x_cond h144 rfl (fun hb145 => ?_) (fun hb145 => ?_)
   ·
    have hp145 : k = 1 := of_decide_eq_true hb145
    refine wp_exit ?_
    change ∃ _m, _m < _ ∧ _
    refine ⟨_, ?_, (k + 1), y, ?_, ?_, h144.nrm ⟨rfl, rfl, rfl, rfl, rfl, rfl, trivial⟩ [0, 1, 2, 3, 4] (by decide) ⟨rfl, rfl, rfl, rfl, rfl, trivial⟩, rfl⟩
    · rw [hm21]; first | omega | (simp only [lens9]; omega)
    · omega
    · first | (exact cp_some hy (cpK_y (by rw [kAt_at (by assumption)]; first | assumption | omega) (by omega) (by omega)) (some_getD (by assumption))) | (exact cp_none hy (Option.not_isSome_iff_eq_none.1 (by rw [(by assumption : (getZ _ l).isSome = false)]; decide))) | (exact cp_no hy (cpK_n (by rw [kAt_at (by assumption)]; first | assumption | omega))) | (exact cp_no hy (cpK_w (by omega) (by omega))) | (exact cp_no hy (cpK_c (by omega) (by omega)))
   have hp145 : ¬ (k = 1) := of_decide_eq_false hb145
   refine wp_skip ?_
   refine hK31 _ _ ?_
   refine wp_seq_k fun K146 hK146 => wp_region_lit ?_
   refine wms 3 h144 rfl fun a147 h147 => ?_; clear h144
   have hl148 : ([(⟨.pointer (some ⟨b3, 1, none⟩)⟩ : RV), (⟨.pointer (some ⟨b3, 2, none⟩)⟩ : RV), (⟨.pointer (some ⟨b3, 3, none⟩)⟩ : RV)]).length ≤ 140737488355328 := (h147.sh.own 1 rfl).len
   refine wv h147 (r_ixN (s := (⟨v9, [(⟨.pointer (some ⟨b3, 1, none⟩)⟩ : RV), (⟨.pointer (some ⟨b3, 2, none⟩)⟩ : RV), (⟨.pointer (some ⟨b3, 3, none⟩)⟩ : RV)]⟩ : Ls RV)) (q := k) sl_151 ti_150 rfl rfl rfl (fun w h => (h.own 1 rfl)) (show k < ([(⟨.pointer (some ⟨b3, 1, none⟩)⟩ : RV), (⟨.pointer (some ⟨b3, 2, none⟩)⟩ : RV), (⟨.pointer (some ⟨b3, 3, none⟩)⟩ : RV)]).length from (by first | omega | (simp only [lens9]; omega)))) rfl rfl fun a149 h149 => ?_; clear h147
   refine wv h149 (Rn.same (r_lde (s := (⟨v9, [(⟨.pointer (some ⟨b3, 1, none⟩)⟩ : RV), (⟨.pointer (some ⟨b3, 2, none⟩)⟩ : RV), (⟨.pointer (some ⟨b3, 3, none⟩)⟩ : RV)]⟩ : Ls RV)) (i := k) (v := ((nth ([(⟨.pointer (some ⟨b3, 1, none⟩)⟩ : RV), (⟨.pointer (some ⟨b3, 2, none⟩)⟩ : RV), (⟨.pointer (some ⟨b3, 3, none⟩)⟩ : RV)]) k).v)) ti_150 rfl rfl rfl (fun w h => (h.own 1 rfl)) (show k < ([(⟨.pointer (some ⟨b3, 1, none⟩)⟩ : RV), (⟨.pointer (some ⟨b3, 2, none⟩)⟩ : RV), (⟨.pointer (some ⟨b3, 3, none⟩)⟩ : RV)]).length from (by first | omega | (simp only [lens9]; omega))) (Nat.le_of_ble_eq_true rfl) rfl) (congrArg RV.v (ix_Bk (⟨0, 0, 0, 0⟩ : Ins) b3 k (by omega)))) rfl rfl fun a150 h150 => ?_; clear h149
   refine wv h150 (r_nil rfl rfl) rfl rfl fun a151 h151 => ?_; clear h150
   refine wv h151 (r_ldBk (i := 3) (x := y) (k := k) ti_3 rfl rfl rfl (show k < 3 from (by omega))) rfl rfl fun a152 h152 => ?_; clear h151
   refine wv h152 (r_lookZ (i := 4) (k := (nth [y.a, y.b, y.c] k)) (l := l) mz_130 rfl rfl rfl rfl) rfl rfl fun a153 h153 => ?_; clear h152
   refine wms 1 h153 rfl fun a154 h154 => ?_; clear h153
   refine wv h154 (r_extract rfl rfl rfl) rfl rfl fun a155 h155 => ?_; clear h154
   refine wv h155 (r_extract rfl rfl rfl) rfl rfl fun a156 h156 => ?_; clear h155
   refine wms 2 h156 rfl fun a157 h157 => ?_; clear h156
   refine wpList_nil (hK146 _ _ ?_)
   refine wp_seq_k fun K158 hK158 => wp_region_lit ?_
   refine wms 1 h157 rfl fun a159 h159 => ?_; clear h157
   refine wpList_nil (hK158 _ _ ?_)
   refine x_cond h159 rfl (fun hb160 => ?_) (fun hb160 => ?_)
   ·
    skip
    refine wp_region_lit ?_
    refine wms 2 h159 rfl fun a161 h161 => ?_; clear h159
    refine wv h161 (r_ixN (s := (⟨v9, [(⟨.pointer (some ⟨b3, 1, none⟩)⟩ : RV), (⟨.pointer (some ⟨b3, 2, none⟩)⟩ : RV), (⟨.pointer (some ⟨b3, 3, none⟩)⟩ : RV)]⟩ : Ls RV)) (q := k) sl_151 ti_150 rfl rfl rfl (fun w h => (h.own 1 rfl)) (show k < ([(⟨.pointer (some ⟨b3, 1, none⟩)⟩ : RV), (⟨.pointer (some ⟨b3, 2, none⟩)⟩ : RV), (⟨.pointer (some ⟨b3, 3, none⟩)⟩ : RV)]).length from (by first | omega | (simp only [lens9]; omega)))) rfl rfl fun a162 h162 => ?_; clear h161
    refine wv h162 (Rn.same (r_lde (s := (⟨v9, [(⟨.pointer (some ⟨b3, 1, none⟩)⟩ : RV), (⟨.pointer (some ⟨b3, 2, none⟩)⟩ : RV), (⟨.pointer (some ⟨b3, 3, none⟩)⟩ : RV)]⟩ : Ls RV)) (i := k) (v := ((nth ([(⟨.pointer (some ⟨b3, 1, none⟩)⟩ : RV), (⟨.pointer (some ⟨b3, 2, none⟩)⟩ : RV), (⟨.pointer (some ⟨b3, 3, none⟩)⟩ : RV)]) k).v)) ti_150 rfl rfl rfl (fun w h => (h.own 1 rfl)) (show k < ([(⟨.pointer (some ⟨b3, 1, none⟩)⟩ : RV), (⟨.pointer (some ⟨b3, 2, none⟩)⟩ : RV), (⟨.pointer (some ⟨b3, 3, none⟩)⟩ : RV)]).length from (by first | omega | (simp only [lens9]; omega))) (Nat.le_of_ble_eq_true rfl) rfl) (congrArg RV.v (ix_Bk (⟨0, 0, 0, 0⟩ : Ins) b3 k (by omega)))) rfl rfl fun a163 h163 => ?_; clear h162
    refine wms 1 h163 rfl fun a164 h164 => ?_; clear h163
    refine wv h164 (r_nil rfl rfl) rfl rfl fun a165 h165 => ?_; clear h164
    refine wl_ex (x_stBk (i := 3) (x := y) (k := k) (v := (getZ (nth [y.a, y.b, y.c] k) l).getD 0) h165 ti_3 rfl rfl rfl rfl rfl (show k < 3 from (by omega))) (wanted_none rfl _) ?_
    rintro a166 w166 h166
    clear h165
    refine wpList_nil ?_
    change ∃ _m, _m < _ ∧ _
    refine ⟨_, ?_, (k + 1), (putK y k ((getZ (nth [y.a, y.b, y.c] k) l).getD 0)), ?_, ?_, h166.nrm ⟨rfl, rfl, rfl, rfl, rfl, rfl, trivial⟩ [0, 1, 2, 3, 4] (by decide) ⟨rfl, rfl, rfl, rfl, rfl, trivial⟩, rfl⟩
    · rw [hm21]; first | omega | (simp only [lens9]; omega)
    · omega
    · first | (exact cp_some hy (cpK_y (by rw [kAt_at (by assumption)]; first | assumption | omega) (by omega) (by omega)) (some_getD (by assumption))) | (exact cp_none hy (Option.not_isSome_iff_eq_none.1 (by rw [(by assumption : (getZ _ l).isSome = false)]; decide))) | (exact cp_no hy (cpK_n (by rw [kAt_at (by assumption)]; first | assumption | omega))) | (exact cp_no hy (cpK_w (by omega) (by omega))) | (exact cp_no hy (cpK_c (by omega) (by omega)))
   refine wp_skip ?_
   change ∃ _m, _m < _ ∧ _
   refine ⟨_, ?_, (k + 1), y, ?_, ?_, h159.nrm ⟨rfl, rfl, rfl, rfl, rfl, rfl, trivial⟩ [0, 1, 2, 3, 4] (by decide) ⟨rfl, rfl, rfl, rfl, rfl, trivial⟩, rfl⟩
   · rw [hm21]; first | omega | (simp only [lens9]; omega)
   · omega
   · first | (exact cp_some hy (cpK_y (by rw [kAt_at (by assumption)]; first | assumption | omega) (by omega) (by omega)) (some_getD (by assumption))) | (exact cp_none hy (Option.not_isSome_iff_eq_none.1 (by rw [(by assumption : (getZ _ l).isSome = false)]; decide))) | (exact cp_no hy (cpK_n (by rw [kAt_at (by assumption)]; first | assumption | omega))) | (exact cp_no hy (cpK_w (by omega) (by omega))) | (exact cp_no hy (cpK_c (by omega) (by omega)))
  have hp139 : ¬ (y.op = 13) := of_decide_eq_false hb139
  refine wl_skip h138 (wanted_no h138.fr rfl rfl rfl rfl hb139) rfl rfl fun a167 h167 => ?_; clear h138
  refine wl_skip h167 (wanted_no h167.fr rfl rfl rfl rfl hb139) rfl rfl fun a168 h168 => ?_; clear h167
  refine wl_val h168 (r_pickF rfl rfl hb139 rfl) (wanted_yes h168.fr rfl rfl rfl rfl rfl) rfl rfl fun a169 h169 => ?_; clear h168
  refine wv h169 (r_pickF rfl rfl rfl rfl) rfl rfl fun a170 h170 => ?_; clear h169
  refine wpList_nil (hK32 _ _ ?_)
  have h171 : St 63 K W a170 w24 [(1, .map p), (2, .pointer (some ⟨b3, 0, none⟩)), (4, .pointer (some ⟨b4, 0, none⟩)), (5, v9), (6, .int .i64 (wrG x)), (7, .int .i64 ((k : Nat) : Int)), (20, .pointer (some ⟨b20, 0, none⟩)), (43, .bool false)] [.iter b20 (kindsB x.op) (k + 1), .own 150 (⟨v9, [(⟨.pointer (some ⟨b3, 1, none⟩)⟩ : RV), (⟨.pointer (some ⟨b3, 2, none⟩)⟩ : RV), (⟨.pointer (some ⟨b3, 3, none⟩)⟩ : RV)]⟩ : Ls RV), .blk b4 73 [.int .i64 0, .int .i64 0, .int .i64 0, .int .i64 0], .blk b3 73 [.int .i64 y.op, .int .i64 y.a, .int .i64 y.b, .int .i64 y.c], .mapO p l] := h170.nrm ⟨rfl, rfl, rfl, rfl, rfl, rfl, rfl, rfl, trivial⟩ [0, 1, 2, 3, 4] (by decide) ⟨rfl, rfl, rfl, rfl, rfl, trivial⟩
  clear h170
  refine x_condF h171 rfl rfl ?_
  refine wp_skip ?_
  refine hK31 _ _ ?_
  refine wp_seq_k fun K172 hK172 => wp_region_lit ?_
  refine wms 3 h171 rfl fun a173 h173 => ?_; clear h171
  have hl174 : ([(⟨.pointer (some ⟨b3, 1, none⟩)⟩ : RV), (⟨.pointer (some ⟨b3, 2, none⟩)⟩ : RV), (⟨.pointer (some ⟨b3, 3, none⟩)⟩ : RV)]).length ≤ 140737488355328 := (h173.sh.own 1 rfl).len
  refine wv h173 (r_ixN (s := (⟨v9, [(⟨.pointer (some ⟨b3, 1, none⟩)⟩ : RV), (⟨.pointer (some ⟨b3, 2, none⟩)⟩ : RV), (⟨.pointer (some ⟨b3, 3, none⟩)⟩ : RV)]⟩ : Ls RV)) (q := k) sl_151 ti_150 rfl rfl rfl (fun w h => (h.own 1 rfl)) (show k < ([(⟨.pointer (some ⟨b3, 1, none⟩)⟩ : RV), (⟨.pointer (some ⟨b3, 2, none⟩)⟩ : RV), (⟨.pointer (some ⟨b3, 3, none⟩)⟩ : RV)]).length from (by first | omega | (simp only [lens9]; omega)))) rfl rfl fun a175 h175 => ?_; clear h173
  refine wv h175 (Rn.same (r_lde (s := (⟨v9, [(⟨.pointer (some ⟨b3, 1, none⟩)⟩ : RV), (⟨.pointer (some ⟨b3, 2, none⟩)⟩ : RV), (⟨.pointer (some ⟨b3, 3, none⟩)⟩ : RV)]⟩ : Ls RV)) (i := k) (v := ((nth ([(⟨.pointer (some ⟨b3, 1, none⟩)⟩ : RV), (⟨.pointer (some ⟨b3, 2, none⟩)⟩ : RV), (⟨.pointer (some ⟨b3, 3, none⟩)⟩ : RV)]) k).v)) ti_150 rfl rfl rfl (fun w h => (h.own 1 rfl)) (show k < ([(⟨.pointer (some ⟨b3, 1, none⟩)⟩ : RV), (⟨.pointer (some ⟨b3, 2, none⟩)⟩ : RV), (⟨.pointer (some ⟨b3, 3, none⟩)⟩ : RV)]).length from (by first | omega | (simp only [lens9]; omega))) (Nat.le_of_ble_eq_true rfl) rfl) (congrArg RV.v (ix_Bk (⟨0, 0, 0, 0⟩ : Ins) b3 k (by omega)))) rfl rfl fun a176 h176 => ?_; clear h175
  refine wv h176 (r_nil rfl rfl) rfl rfl fun a177 h177 => ?_; clear h176
  refine wv h177 (r_ldBk (i := 3) (x := y) (k := k) ti_3 rfl rfl rfl (show k < 3 from (by omega))) rfl rfl fun a178 h178 => ?_; clear h177
  refine wv h178 (r_lookZ (i := 4) (k := (nth [y.a, y.b, y.c] k)) (l := l) mz_130 rfl rfl rfl rfl) rfl rfl fun a179 h179 => ?_; clear h178
  refine wms 1 h179 rfl fun a180 h180 => ?_; clear h179
  refine wv h180 (r_extract rfl rfl rfl) rfl rfl fun a181 h181 => ?_; clear h180
  refine wv h181 (r_extract rfl rfl rfl) rfl rfl fun a182 h182 => ?_; clear h181
  refine wms 2 h182 rfl fun a183 h183 => ?_; clear h182
  refine wpList_nil (hK172 _ _ ?_)
  refine wp_seq_k fun K184 hK184 => wp_region_lit ?_
  refine wms 1 h183 rfl fun a185 h185 => ?_; clear h183
  refine wpList_nil (hK184 _ _ ?_)
  refine x_cond h185 rfl (fun hb186 => ?_) (fun hb186 => ?_)
  ·
   skip
   refine wp_region_lit ?_
   refine wms 2 h185 rfl fun a187 h187 => ?_; clear h185
   refine wv h187 (r_ixN (s := (⟨v9, [(⟨.pointer (some ⟨b3, 1, none⟩)⟩ : RV), (⟨.pointer (some ⟨b3, 2, none⟩)⟩ : RV), (⟨.pointer (some ⟨b3, 3, none⟩)⟩ : RV)]⟩ : Ls RV)) (q := k) sl_151 ti_150 rfl rfl rfl (fun w h => (h.own 1 rfl)) (show k < ([(⟨.pointer (some ⟨b3, 1, none⟩)⟩ : RV), (⟨.pointer (some ⟨b3, 2, none⟩)⟩ : RV), (⟨.pointer (some ⟨b3, 3, none⟩)⟩ : RV)]).length from (by first | omega | (simp only [lens9]; omega)))) rfl rfl fun a188 h188 => ?_; clear h187
   refine wv h188 (Rn.same (r_lde (s := (⟨v9, [(⟨.pointer (some ⟨b3, 1, none⟩)⟩ : RV), (⟨.pointer (some ⟨b3, 2, none⟩)⟩ : RV), (⟨.pointer (some ⟨b3, 3, none⟩)⟩ : RV)]⟩ : Ls RV)) (i := k) (v := ((nth ([(⟨.pointer (some ⟨b3, 1, none⟩)⟩ : RV), (⟨.pointer (some ⟨b3, 2, none⟩)⟩ : RV), (⟨.pointer (some ⟨b3, 3, none⟩)⟩ : RV)]) k).v)) ti_150 rfl rfl rfl (fun w h => (h.own 1 rfl)) (show k < ([(⟨.pointer (some ⟨b3, 1, none⟩)⟩ : RV), (⟨.pointer (some ⟨b3, 2, none⟩)⟩ : RV), (⟨.pointer (some ⟨b3, 3, none⟩)⟩ : RV)]).length from (by first | omega | (simp only [lens9]; omega))) (Nat.le_of_ble_eq_true rfl) rfl) (congrArg RV.v (ix_Bk (⟨0, 0, 0, 0⟩ : Ins) b3 k (by omega)))) rfl rfl fun a189 h189 => ?_; clear h188
   refine wms 1 h189 rfl fun a190 h190 => ?_; clear h189
   refine wv h190 (r_nil rfl rfl) rfl rfl fun a191 h191 => ?_; clear h190
   refine wl_ex (x_stBk (i := 3) (x := y) (k := k) (v := (getZ (nth [y.a, y.b, y.c] k) l).getD 0) h191 ti_3 rfl rfl rfl rfl rfl (show k < 3 from (by omega))) (wanted_none rfl _) ?_
   rintro a192 w192 h192
   clear h191
   refine wpList_nil ?_
   change ∃ _m, _m < _ ∧ _
   refine ⟨_, ?_, (k + 1), (putK y k ((getZ (nth [y.a, y.b, y.c] k) l).getD 0)), ?_, ?_, h192.nrm ⟨rfl, rfl, rfl, rfl, rfl, rfl, trivial⟩ [0, 1, 2, 3, 4] (by decide) ⟨rfl, rfl, rfl, rfl, rfl, trivial⟩, rfl⟩
   · rw [hm21]; first | omega | (simp only [lens9]; omega)
   · omega
   · first | (exact cp_some hy (cpK_y (by rw [kAt_at (by assumption)]; first | assumption | omega) (by omega) (by omega)) (some_getD (by assumption))) | (exact cp_none hy (Option.not_isSome_iff_eq_none.1 (by rw [(by assumption : (getZ _ l).isSome = false)]; decide))) | (exact cp_no hy (cpK_n (by rw [kAt_at (by assumption)]; first | assumption | omega))) | (exact cp_no hy (cpK_w (by omega) (by omega))) | (exact cp_no hy (cpK_c (by omega) (by omega)))
  refine wp_skip ?_
  change ∃ _m, _m < _ ∧ _
  refine ⟨_, ?_, (k + 1), y, ?_, ?_, h185.nrm ⟨rfl, rfl, rfl, rfl, rfl, rfl, trivial⟩ [0, 1, 2, 3, 4] (by decide) ⟨rfl, rfl, rfl, rfl, rfl, trivial⟩, rfl⟩
  · rw [hm21]; first | omega | (simp only [lens9]; omega)
  · omega
  · first | (exact cp_some hy (cpK_y (by rw [kAt_at (by assumption)]; first | assumption | omega) (by omega) (by omega)) (some_getD (by assumption))) | (exact cp_none hy (Option.not_isSome_iff_eq_none.1 (by rw [(by assumption : (getZ _ l).isSome = false)]; decide))) | (exact cp_no hy (cpK_n (by rw [kAt_at (by assumption)]; first | assumption | omega))) | (exact cp_no hy (cpK_w (by omega) (by omega))) | (exact cp_no hy (cpK_c (by omega) (by omega)))
 refine wv h21 (r_nextEnd (i := 0) (s := (kindsB x.op)) (pos := k) rfl rfl rfl hn23) rfl rfl fun a193 h193 => ?_; clear h21
 refine wv h193 (r_extract rfl rfl rfl) rfl rfl fun a194 h194 => ?_; clear h193
 refine wpList_nil (hK22 _ _ ?_)
 refine wp_seq_k fun K195 hK195 => ?_
 refine x_condF h194 rfl rfl ?_
 refine wp_exit ?_
 refine hK15 _ _ ?_
 refine wp_seq_k fun K196 hK196 => wp_region_lit ?_
 refine wv h194 (r_ldbw (i := 3) (vs := [.int .i64 y.op, .int .i64 y.a, .int .i64 y.b, .int .i64 y.c]) ti_73 rfl rfl rfl rfl rfl) rfl rfl fun a197 h197 => ?_; clear h194
 refine wl_ex (x_stb (i := 2) (vs := [.int .i64 y.op, .int .i64 y.a, .int .i64 y.b, .int .i64 y.c]) (cs' := [.int .i64 y.op, .int .i64 y.a, .int .i64 y.b, .int .i64 y.c]) h197 ti_73 rfl rfl rfl rfl rfl rfl rfl (allOne_cons rfl (allOne_cons rfl (allOne_cons rfl (allOne_cons rfl allOne_nil)))) (Nat.le_of_ble_eq_true rfl) rfl) (wanted_none rfl _) ?_
 rintro a198 w198 h198
 clear h197
 refine wpList_nil (hK196 _ _ ?_)
 refine wp_ret ?_
 try simp only [Exit.then, Exit.inBlock]
 refine x_ret1c (fn := Try.f87) (t := 4) (i := 2) ti_73 rfl h198 rfl rfl rfl ?_
 have he : k = (kindsB x.op).size := by omega
 rw [he] at hy
 refine ⟨?_, (h198.sh.sel (L' := [.mapO p l]) [4] (by decide) ⟨rfl, trivial⟩)⟩
 first | (rw [show copyIns _ x = y from hy.symm]; done) | (rw [show copyIns _ x = y from hy.symm]; rfl)

set_option maxRecDepth 100000 in
set_option maxHeartbeats 1000000 in
theorem numbers1_c (x : Ins) (W : World) :
    Rets Try.prog 55 [.agg #[.int .i64 x.op, .int .i64 x.a, .int .i64 x.b, .int .i64 x.c]] W (fun v w' => ∃ s : Ls Int, v = s.v ∧ Sh0 W w' [.own 3 (⟨s.v, [x.a, x.b, x.c]⟩ : Ls Int)]) := by
 refine x_enter (N := 10) Try.func55 rfl Try.ntmps55 (Nat.le_of_ble_eq_true rfl) fun a1 hf1 => ?_
 have h1 : St 10 (fun _ => False) W a1 W [(0, .agg #[.int .i64 x.op, .int .i64 x.a, .int .i64 x.b, .int .i64 x.c])] [] := ⟨hf1.sub ⟨rfl, trivial⟩, Sh0.start W⟩
 clear hf1
 refine wp_seq_k fun K2 hK2 => wp_region_lit ?_
 refine wl_ex (x_box (cs := [.int .i64 x.op, .int .i64 x.a, .int .i64 x.b, .int .i64 x.c]) h1 rfl rfl rfl rfl rfl) (wanted_none rfl _) ?_
 rintro a3 w3 ⟨b3, h3⟩; clear h1
 refine wms 1 h3 rfl fun a4 h4 => ?_; clear h3
 refine wpList_nil (hK2 _ _ ?_)
 refine wp_seq_k fun K5 hK5 => wp_region_lit ?_
 refine wv h4 (r_fieldB (r := 1) fl_73_1 rfl rfl rfl) rfl rfl fun a6 h6 => ?_; clear h4
 refine wv h6 (r_ldb (i := 0) ti_3 rfl rfl rfl rfl) rfl rfl fun a7 h7 => ?_; clear h6
 refine wv h7 (r_fieldB (r := 2) fl_73_2 rfl rfl rfl) rfl rfl fun a8 h8 => ?_; clear h7
 refine wv h8 (r_ldb (i := 0) ti_3 rfl rfl rfl rfl) rfl rfl fun a9 h9 => ?_; clear h8
 refine wv h9 (r_fieldB (r := 3) fl_73_3 rfl rfl rfl) rfl rfl fun a10 h10 => ?_; clear h9
 refine wv h10 (r_ldb (i := 0) ti_3 rfl rfl rfl rfl) rfl rfl fun a11 h11 => ?_; clear h10
 refine wl_ex (x_lit (n := 3) (cs := [.int .i64 x.a, .int .i64 x.b, .int .i64 x.c]) ([x.a, x.b, x.c] : List Int) h11 sl_24 ti_3 rfl rfl rfl (by decide) rfl (by kernel_rfl) rfl (fun q hq w h => Flat.inner _ _) (fun q hq b hb => (Flat.on _ _ hb).elim) rfl rfl) (wanted_none rfl _) ?_
 rintro a12 w12 ⟨v12, h12⟩; clear h11
 refine wms 1 h12 rfl fun a13 h13 => ?_; clear h12
 refine wpList_nil (hK5 _ _ ?_)
 refine wp_ret ?_
 try simp only [Exit.then, Exit.inBlock]
 refine x_ret1 (fn := Try.f55) (t := 2) rfl h13 rfl ?_
 exact ⟨⟨v12, []⟩, rfl, (h13.sh.sel (L' := [.own 3 (⟨v12, [x.a, x.b, x.c]⟩ : Ls Int)]) [0] (by decide) ⟨rfl, trivial⟩)⟩

set_option maxRecDepth 100000 in
set_option maxHeartbeats 8000000 in
theorem withR_c (x : Ins) (o : Ls Int) (W : World) (ho : o.At W) (hop : 1 ≤ x.op) (hin : ∀ k, k < (kindsB x.op).size → cpK x k = true → 0 ≤ nth [x.a, x.b, x.c] k ∧ nth [x.a, x.b, x.c] k < o.l.length) :
    Rets Try.prog 89 [.agg #[.int .i64 x.op, .int .i64 x.a, .int .i64 x.b, .int .i64 x.c], o.v] W (fun v w' => v = .agg #[.int .i64 (copyIns (rowF o.l) x).op, .int .i64 (copyIns (rowF o.l) x).a, .int .i64 (copyIns (rowF o.l) x).b, .int .i64 (copyIns (rowF o.l) x).c] ∧ Sh0 W w' []) := by
 refine x_enter (N := 82) Try.func89 rfl Try.ntmps89 (Nat.le_of_ble_eq_true rfl) fun a1 hf1 => ?_
 have h1 : St 82 (fun _ => False) W a1 W [(0, .agg #[.int .i64 x.op, .int .i64 x.a, .int .i64 x.b, .int .i64 x.c]), (1, o.v)] [.at_ o] := ⟨hf1.sub ⟨rfl, rfl, trivial⟩, Sh0.ext1 ho⟩
 clear hf1
 refine wp_seq_k fun K2 hK2 => wp_region_lit ?_
 refine wl_ex (x_box (cs := [.int .i64 x.op, .int .i64 x.a, .int .i64 x.b, .int .i64 x.c]) h1 rfl rfl rfl rfl rfl) (wanted_none rfl _) ?_
 rintro a3 w3 ⟨b3, h3⟩; clear h1
 refine wl_ex (x_alloc h3 ti_73 rfl rfl rfl) (wanted_none rfl _) ?_
 rintro a4 w4 ⟨b4, h4⟩; clear h3
 refine wpList_nil (hK2 _ _ ?_)
 refine wp_seq_k fun K5 hK5 => wp_region_lit ?_
 refine wv h4 (r_fieldB (r := 0) fl_73_0 rfl rfl rfl) rfl rfl fun a6 h6 => ?_; clear h4
 refine wv h6 (r_ldb (i := 1) ti_3 rfl rfl rfl rfl) rfl rfl fun a7 h7 => ?_; clear h6
 refine wl_ex (x_call h7 bd_54 rfl rfl rfl rfl rfl (name_r x.op _)) (wanted_none rfl _) ?_
 rintro a8 w8 ⟨_, ⟨rfl, hs8⟩, hf8⟩
 have h8 : St 82 (fun _ => False) W a8 w8 _ _ := ⟨hf8, h7.sh.call0 hs8⟩
 clear hf8 hs8
 clear h7
 refine wms 1 h8 rfl fun a9 h9 => ?_; clear h8
 refine wv h9 (r_extract rfl rfl rfl) rfl rfl fun a10 h10 => ?_; clear h9
 refine wv h10 (r_extract rfl rfl rfl) rfl rfl fun a11 h11 => ?_; clear h10
 refine wms 2 h11 rfl fun a12 h12 => ?_; clear h11
 refine wpList_nil (hK5 _ _ ?_)
 refine wp_seq_k fun K13 hK13 => wp_region_lit ?_
 refine wv h12 (r_ldbw (i := 1) (vs := [.int .i64 x.op, .int .i64 x.a, .int .i64 x.b, .int .i64 x.c]) ti_73 rfl rfl rfl rfl rfl) rfl rfl fun a14 h14 => ?_; clear h12
 refine wl_ex (x_call h14 bd_55 rfl rfl rfl rfl rfl (numbers1_c x _)) (wanted_none rfl _) ?_
 rintro a15 w15 ⟨_, ⟨s15, rfl, hs15⟩, hf15⟩
 have h15 := (⟨hf15, h14.sh.call hs15 (by intro A hA b hb; first | (simp at hA; done) | (simp at hA; subst hA; first | exact Flat.noRd hb | exact (hb : False).elim) | (simp at hA; rcases hA with rfl | rfl <;> first | exact Flat.noRd hb | exact (hb : False).elim))⟩ : St 82 (fun _ => False) W a15 w15 _ _)
 clear hf15 hs15
 clear h14
 refine wms 1 h15 rfl fun a16 h16 => ?_; clear h15
 refine wpList_nil (hK13 _ _ ?_)
 refine wp_seq_k fun K17 hK17 => wp_region_lit ?_
 refine wv h16 (r_ldbw (i := 2) (vs := [.int .i64 x.op, .int .i64 x.a, .int .i64 x.b, .int .i64 x.c]) ti_73 rfl rfl rfl rfl rfl) rfl rfl fun a18 h18 => ?_; clear h16
 refine wl_ex (x_call h18 bd_84 rfl rfl rfl rfl rfl (rWrites_c x _ hop)) (wanted_none rfl _) ?_
 rintro a19 w19 ⟨_, ⟨rfl, hs19⟩, hf19⟩
 have h19 : St 82 (fun _ => False) W a19 w19 _ _ := ⟨hf19, h18.sh.call0 hs19⟩
 clear hf19 hs19
 clear h18
 refine wms 1 h19 rfl fun a20 h20 => ?_; clear h19
 refine wpList_nil (hK17 _ _ ?_)
 refine wp_seq_k fun K21 hK21 => ?_
 refine wp_seq_k fun K22 hK22 => wp_region_lit ?_
 refine wms 1 h20 rfl fun a23 h23 => ?_; clear h20
 refine wpList_nil (hK22 _ _ ?_)
 refine wp_block ?_
 refine x_loop (fun m a w => ∃ (k : Nat) (y : Ins) (vl : Value), (k ≤ (kindsB x.op).size) ∧ (y = cpTo (rowF o.l) x k) ∧ St 82 (fun _ => False) W a w [(1, o.v), (2, .pointer (some ⟨b3, 0, none⟩)), (4, .pointer (some ⟨b4, 0, none⟩)), (6, .string (kindsB x.op)), (7, vl), (8, .int .i64 (wrG x)), (9, .int .i64 ((k : Nat) : Int))] [.own 3 (⟨vl, [y.a, y.b, y.c]⟩ : Ls Int), .blk b4 73 [.int .i64 0, .int .i64 0, .int .i64 0, .int .i64 0], .blk b3 73 [.int .i64 x.op, .int .i64 x.a, .int .i64 x.b, .int .i64 x.c], .at_ o] ∧ m = (kindsB x.op).size - k) ⟨_, 0, x, _, (Nat.zero_le _), (rfl), h23.nrm ⟨rfl, rfl, rfl, rfl, rfl, rfl, rfl, trivial⟩ [0, 1, 2, 3] (by decide) ⟨rfl, rfl, rfl, rfl, trivial⟩, rfl⟩ ?_
 clear h23
 rintro m24 a24 w24 ⟨k, y, vl, hk, hy, h24, hm24⟩
 have h3 := (kinds_small x.op).1
 have hyo : y.op = x.op := by rw [hy]; exact cpTo_op _ _ _
 have hin2 : k < (kindsB x.op).size → cpK x k = true → 0 ≤ nth [y.a, y.b, y.c] k ∧ nth [y.a, y.b, y.c] k < o.l.length := fun h8 h9 => by rw [hy, cpTo_at]; exact hin k h8 h9
 refine wp_seq_k fun K25 hK25 => ?_
 refine wp_seq_k fun K26 hK26 => wp_region_lit ?_
 refine wms 2 h24 rfl fun a27 h27 => ?_; clear h24
 refine wv h27 (r_lenStr (s := (kindsB x.op)) Try.underlying9 rfl rfl) rfl rfl fun a28 h28 => ?_; clear h27
 refine wv h28 (r_lssN (p := k) (q := (kindsB x.op).size) rfl rfl rfl) rfl rfl fun a29 h29 => ?_; clear h28
 refine wpList_nil (hK26 _ _ ?_)
 refine x_cond h29 rfl (fun hb30 => ?_) (fun hb30 => ?_)
 ·
  have hp30 : k < (kindsB x.op).size := of_decide_eq_true hb30
  refine wp_skip ?_
  refine hK25 _ _ ?_
  refine wp_seq_k fun K31 hK31 => ?_
  refine wp_block ?_
  refine wp_seq_k fun K32 hK32 => wp_region_lit ?_
  refine wms 1 h29 rfl fun a33 h33 => ?_; clear h29
  refine wv h33 (r_eqlN (p := k) (q := 0) rfl rfl rfl) rfl rfl fun a34 h34 => ?_; clear h33
  refine wms 1 h34 rfl fun a35 h35 => ?_; clear h34
  rcases Bool.eq_false_or_eq_true (decide (k = 0)) with hb36 | hb36
  ·
   have hp36 : k = 0 := of_decide_eq_true hb36
   refine wl_val h35 (r_move rfl rfl) (wanted_yes h35.fr rfl rfl rfl rfl hb36) rfl rfl fun a37 h37 => ?_; clear h35
   refine wl_val h37 (r_geqI (p := wrG x) (q := 0) rfl rfl rfl) (wanted_yes h37.fr rfl rfl rfl rfl hb36) rfl rfl fun a38 h38 => ?_; clear h37
   refine wv h38 (r_pickT rfl rfl hb36 rfl) rfl rfl fun a39 h39 => ?_; clear h38
   refine wms 1 h39 rfl fun a40 h40 => ?_; clear h39
   rcases Bool.eq_false_or_eq_true (decide (0 ≤ wrG x)) with hb41 | hb41
   ·
    have hp41 : 0 ≤ wrG x := of_decide_eq_true hb41
    refine wl_skip h40 (wanted_no h40.fr rfl rfl rfl rfl hb41) rfl rfl fun a42 h42 => ?_; clear h40
    refine wl_skip h42 (wanted_no h42.fr rfl rfl rfl rfl hb41) rfl rfl fun a43 h43 => ?_; clear h42
    refine wl_skip h43 (wanted_no h43.fr rfl rfl rfl rfl hb41) rfl rfl fun a44 h44 => ?_; clear h43
    refine wl_skip h44 (wanted_no h44.fr rfl rfl rfl rfl hb41) rfl rfl fun a45 h45 => ?_; clear h44
    refine wl_skip h45 (wanted_no2 h45.fr rfl rfl rfl rfl) rfl rfl fun a46 h46 => ?_; clear h45
    refine wl_skip h46 (wanted_no2 h46.fr rfl rfl rfl rfl) rfl rfl fun a47 h47 => ?_; clear h46
    refine wl_skip h47 (wanted_no h47.fr rfl rfl rfl rfl hb41) rfl rfl fun a48 h48 => ?_; clear h47
    refine wv h48 (r_pickT rfl rfl hb41 rfl) rfl rfl fun a49 h49 => ?_; clear h48
    refine wms 1 h49 rfl fun a50 h50 => ?_; clear h49
    refine wpList_nil (hK32 _ _ ?_)
    refine wp_seq_k fun K51 hK51 => wp_region_lit ?_
    refine wms 2 h50 rfl fun a52 h52 => ?_; clear h50
    have hx53 : k < (kindsB x.op).size := (by first | omega | (simp only [List.length_cons, List.length_nil]; omega) | (have h9 := hin2 (by omega) (cpK_y (by rw [kAt_at (by assumption)]; first | assumption | omega) (by omega) (by omega)); first | omega | (constructor <;> omega)))
    refine wv h52 (r_ixStr (s := (kindsB x.op)) (q := k) Try.underlying9 rfl rfl rfl hx53) rfl rfl fun a54 h54 => ?_; clear h52
    refine wv h54 (r_eqlI (p := (((kindsB x.op)[k]'hx53).toNat : Int)) (q := 114) rfl rfl rfl) rfl rfl fun a55 h55 => ?_; clear h54
    refine wms 1 h55 rfl fun a56 h56 => ?_; clear h55
    rcases Bool.eq_false_or_eq_true (decide ((((kindsB x.op)[k]'hx53).toNat : Int) = 114)) with hb57 | hb57
    ·
     have hp57 : (((kindsB x.op)[k]'hx53).toNat : Int) = 114 := of_decide_eq_true hb57
     refine wl_val h56 (r_move rfl rfl) (wanted_yes h56.fr rfl rfl rfl rfl hb57) rfl rfl fun a58 h58 => ?_; clear h56
     refine wl_val h58 (r_not rfl rfl) (wanted_yes h58.fr rfl rfl rfl rfl hb57) rfl rfl fun a59 h59 => ?_; clear h58
     refine wv h59 (r_pickT rfl rfl hb57 rfl) rfl rfl fun a60 h60 => ?_; clear h59
     refine wms 1 h60 rfl fun a61 h61 => ?_; clear h60
     refine wl_skip h61 (wanted_no h61.fr rfl rfl rfl rfl rfl) rfl rfl fun a62 h62 => ?_; clear h61
     refine wl_skip h62 (wanted_no h62.fr rfl rfl rfl rfl rfl) rfl rfl fun a63 h63 => ?_; clear h62
     refine wl_skip h63 (wanted_no h63.fr rfl rfl rfl rfl rfl) rfl rfl fun a64 h64 => ?_; clear h63
     refine wl_skip h64 (wanted_no h64.fr rfl rfl rfl rfl rfl) rfl rfl fun a65 h65 => ?_; clear h64
     refine wl_skip h65 (wanted_no h65.fr rfl rfl rfl rfl rfl) rfl rfl fun a66 h66 => ?_; clear h65
     refine wl_skip h66 (wanted_no h66.fr rfl rfl rfl rfl rfl) rfl rfl fun a67 h67 => ?_; clear h66
     refine wl_skip h67 (wanted_no h67.fr rfl rfl rfl rfl rfl) rfl rfl fun a68 h68 => ?_; clear h67
     refine wl_skip h68 (wanted_no h68.fr rfl rfl rfl rfl rfl) rfl rfl fun a69 h69 => ?_; clear h68
     refine wv h69 (r_pickF rfl rfl rfl rfl) rfl rfl fun a70 h70 => ?_; clear h69
     refine wpList_nil (hK51 _ _ ?_)
     have h71 : St 82 (fun _ => False) W a70 w24 [(1, o.v), (2, .pointer (some ⟨b3, 0, none⟩)), (4, .pointer (some ⟨b4, 0, none⟩)), (6, .string (kindsB x.op)), (7, vl), (8, .int .i64 (wrG x)), (9, .int .i64 ((k : Nat) : Int)), (59, .bool false)] [.own 3 (⟨vl, [y.a, y.b, y.c]⟩ : Ls Int), .blk b4 73 [.int .i64 0, .int .i64 0, .int .i64 0, .int .i64 0], .blk b3 73 [.int .i64 x.op, .int .i64 x.a, .int .i64 x.b, .int .i64 x.c], .at_ o] := h70.nrm ⟨rfl, rfl, rfl, rfl, rfl, rfl, rfl, rfl, trivial⟩ [0, 1, 2, 3] (by decide) ⟨rfl, rfl, rfl, rfl, trivial⟩
     clear h70
     refine x_condF h71 rfl rfl ?_
     refine wp_skip ?_
     refine hK31 _ _ ?_
     refine wp_region_lit ?_
     refine wms 1 h71 rfl fun a72 h72 => ?_; clear h71
     refine wv h72 (r_addN (p := k) (q := 1) rfl rfl rfl (show k + 1 < 9223372036854775808 from (by omega))) rfl rfl fun a73 h73 => ?_; clear h72
     refine wms 1 h73 rfl fun a74 h74 => ?_; clear h73
     refine wpList_nil ?_
     refine x_again ⟨_, ?_, (k + 1), y, vl, ?_, ?_, h74.nrm ⟨rfl, rfl, rfl, rfl, rfl, rfl, rfl, trivial⟩ [0, 1, 2, 3] (by decide) ⟨rfl, rfl, rfl, rfl, trivial⟩, rfl⟩
     · rw [hm24]; first | omega | (simp only [lens9]; omega)
     · omega
     · first | (exact cp_some hy (cpK_y (by rw [kAt_at (by assumption)]; first | assumption | omega) (by omega) (by omega)) (by unfold rowF; rw [if_pos (by assumption)])) | (exact cp_none hy (by unfold rowF; rw [if_neg (by assumption)])) | (exact cp_no hy (cpK_n (by rw [kAt_at (by assumption)]; first | assumption | omega))) | (exact cp_no hy (cpK_w (by omega) (by omega))) | (exact cp_no hy (cpK_c (by omega) (by omega)))
    have hp57 : ¬ ((((kindsB x.op)[k]'hx53).toNat : Int) = 114) := of_decide_eq_false hb57
    refine wl_skip h56 (wanted_no h56.fr rfl rfl rfl rfl hb57) rfl rfl fun a76 h76 => ?_; clear h56
    refine wl_skip h76 (wanted_no h76.fr rfl rfl rfl rfl hb57) rfl rfl fun a77 h77 => ?_; clear h76
    refine wv h77 (r_pickF rfl rfl hb57 rfl) rfl rfl fun a78 h78 => ?_; clear h77
    refine wms 1 h78 rfl fun a79 h79 => ?_; clear h78
    refine wl_skip h79 (wanted_no h79.fr rfl rfl rfl rfl rfl) rfl rfl fun a80 h80 => ?_; clear h79
    refine wl_skip h80 (wanted_no h80.fr rfl rfl rfl rfl rfl) rfl rfl fun a81 h81 => ?_; clear h80
    refine wl_skip h81 (wanted_no h81.fr rfl rfl rfl rfl rfl) rfl rfl fun a82 h82 => ?_; clear h81
    refine wl_skip h82 (wanted_no h82.fr rfl rfl rfl rfl rfl) rfl rfl fun a83 h83 => ?_; clear h82
    refine wl_skip h83 (wanted_no h83.fr rfl rfl rfl rfl rfl) rfl rfl fun a84 h84 => ?_; clear h83
    refine wl_skip h84 (wanted_no h84.fr rfl rfl rfl rfl rfl) rfl rfl fun a85 h85 => ?_; clear h84
    refine wl_skip h85 (wanted_no h85.fr rfl rfl rfl rfl rfl) rfl rfl fun a86 h86 => ?_; clear h85
    refine wl_skip h86 (wanted_no h86.fr rfl rfl rfl rfl rfl) rfl rfl fun a87 h87 => ?_; clear h86
    refine wv h87 (r_pickF rfl rfl rfl rfl) rfl rfl fun a88 h88 => ?_; clear h87
    refine wpList_nil (hK51 _ _ ?_)
    have h89 : St 82 (fun _ => False) W a88 w24 [(1, o.v), (2, .pointer (some ⟨b3, 0, none⟩)), (4, .pointer (some ⟨b4, 0, none⟩)), (6, .string (kindsB x.op)), (7, vl), (8, .int .i64 (wrG x)), (9, .int .i64 ((k : Nat) : Int)), (59, .bool false)] [.own 3 (⟨vl, [y.a, y.b, y.c]⟩ : Ls Int), .blk b4 73 [.int .i64 0, .int .i64 0, .int .i64 0, .int .i64 0], .blk b3 73 [.int .i64 x.op, .int .i64 x.a, .int .i64 x.b, .int .i64 x.c], .at_ o] := h88.nrm ⟨rfl, rfl, rfl, rfl, rfl, rfl, rfl, rfl, trivial⟩ [0, 1, 2, 3] (by decide) ⟨rfl, rfl, rfl, rfl, trivial⟩
    clear h88
    refine x_condF h89 rfl rfl ?_
    refine wp_skip ?_
    refine hK31 _ _ ?_
    refine wp_region_lit ?_
    refine wms 1 h89 rfl fun a90 h90 => ?_; clear h89
    refine wv h90 (r_addN (p := k) (q := 1) rfl rfl rfl (show k + 1 < 9223372036854775808 from (by omega))) rfl rfl fun a91 h91 => ?_; clear h90
    refine wms 1 h91 rfl fun a92 h92 => ?_; clear h91
    refine wpList_nil ?_
    refine x_again ⟨_, ?_, (k + 1), y, vl, ?_, ?_, h92.nrm ⟨rfl, rfl, rfl, rfl, rfl, rfl, rfl, trivial⟩ [0, 1, 2, 3] (by decide) ⟨rfl, rfl, rfl, rfl, trivial⟩, rfl⟩
    · rw [hm24]; first | omega | (simp only [lens9]; omega)
    · omega
    · first | (exact cp_some hy (cpK_y (by rw [kAt_at (by assumption)]; first | assumption | omega) (by omega) (by omega)) (by unfold rowF; rw [if_pos (by assumption)])) | (exact cp_none hy (by unfold rowF; rw [if_neg (by assumption)])) | (exact cp_no hy (cpK_n (by rw [kAt_at (by assumption)]; first | assumption | omega))) | (exact cp_no hy (cpK_w (by omega) (by omega))) | (exact cp_no hy (cpK_c (by omega) (by omega)))
   have hp41 : ¬ (0 ≤ wrG x) := of_decide_eq_false hb41
   refine wl_val h40 (r_fieldB (r := 0) fl_73_0 rfl rfl rfl) (wanted_yes h40.fr rfl rfl rfl rfl hb41) rfl rfl fun a94 h94 => ?_; clear h40
   refine wl_val h94 (r_ldb (i := 2) ti_3 rfl rfl rfl rfl) (wanted_yes h94.fr rfl rfl rfl rfl hb41) rfl rfl fun a95 h95 => ?_; clear h94
   refine wl_val h95 (r_eqlI (p := x.op) (q := 13) rfl rfl rfl) (wanted_yes h95.fr rfl rfl rfl rfl hb41) rfl rfl fun a96 h96 => ?_; clear h95
   refine wl_val h96 (r_move rfl rfl) (wanted_yes h96.fr rfl rfl rfl rfl hb41) rfl rfl fun a97 h97 => ?_; clear h96
   rcases Bool.eq_false_or_eq_true (decide (x.op = 13)) with hb98 | hb98
   ·
    have hp98 : x.op = 13 := of_decide_eq_true hb98
    refine wl_val h97 (r_move rfl rfl) (wanted_yes h97.fr rfl rfl rfl rfl hb98) rfl rfl fun a99 h99 => ?_; clear h97
    refine wl_val h99 (r_eqlN (p := k) (q := 1) rfl rfl rfl) (wanted_yes h99.fr rfl rfl rfl rfl hb98) rfl rfl fun a100 h100 => ?_; clear h99
    refine wl_val h100 (r_pickT rfl rfl hb98 rfl) (wanted_yes h100.fr rfl rfl rfl rfl hb41) rfl rfl fun a101 h101 => ?_; clear h100
    refine wv h101 (r_pickF rfl rfl hb41 rfl) rfl rfl fun a102 h102 => ?_; clear h101
    refine wms 1 h102 rfl fun a103 h103 => ?_; clear h102
    refine wpList_nil (hK32 _ _ ?_)
    refine wp_seq_k fun K104 hK104 => wp_region_lit ?_
    refine wms 2 h103 rfl fun a105 h105 => ?_; clear h103
    have hx106 : k < (kindsB x.op).size := (by first | omega | (simp only [List.length_cons, List.length_nil]; omega) | (have h9 := hin2 (by omega) (cpK_y (by rw [kAt_at (by assumption)]; first | assumption | omega) (by omega) (by omega)); first | omega | (constructor <;> omega)))
    refine wv h105 (r_ixStr (s := (kindsB x.op)) (q := k) Try.underlying9 rfl rfl rfl hx106) rfl rfl fun a107 h107 => ?_; clear h105
    refine wv h107 (r_eqlI (p := (((kindsB x.op)[k]'hx106).toNat : Int)) (q := 114) rfl rfl rfl) rfl rfl fun a108 h108 => ?_; clear h107
    refine wms 1 h108 rfl fun a109 h109 => ?_; clear h108
    rcases Bool.eq_false_or_eq_true (decide ((((kindsB x.op)[k]'hx106).toNat : Int) = 114)) with hb110 | hb110
    ·
     have hp110 : (((kindsB x.op)[k]'hx106).toNat : Int) = 114 := of_decide_eq_true hb110
     refine wl_val h109 (r_move rfl rfl) (wanted_yes h109.fr rfl rfl rfl rfl hb110) rfl rfl fun a111 h111 => ?_; clear h109
     refine wl_val h111 (r_not rfl rfl) (wanted_yes h111.fr rfl rfl rfl rfl hb110) rfl rfl fun a112 h112 => ?_; clear h111
     refine wv h112 (r_pickT rfl rfl hb110 rfl) rfl rfl fun a113 h113 => ?_; clear h112
     refine wms 1 h113 rfl fun a114 h114 => ?_; clear h113
     refine wl_val h114 (r_move rfl rfl) (wanted_yes h114.fr rfl rfl rfl rfl (by rw [(decide_eq_false (by omega))]; rfl)) rfl rfl fun a115 h115 => ?_; clear h114
     refine wl_val h115 (r_move rfl rfl) (wanted_yes h115.fr rfl rfl rfl rfl (by rw [(decide_eq_false (by omega))]; rfl)) rfl rfl fun a116 h116 => ?_; clear h115
     refine wl_val h116 (r_move rfl rfl) (wanted_yes h116.fr rfl rfl rfl rfl (by rw [(decide_eq_false (by omega))]; rfl)) rfl rfl fun a117 h117 => ?_; clear h116
     have hl118 : ([y.a, y.b, y.c]).length ≤ 140737488355328 := (h117.sh.own 0 rfl).len
     refine wl_val h117 (r_ixN (s := (⟨vl, [y.a, y.b, y.c]⟩ : Ls Int)) (q := k) sl_24 ti_3 rfl rfl rfl (fun w h => (h.own 0 rfl)) (show k < ([y.a, y.b, y.c]).length from (by first | omega | (simp only [List.length_cons, List.length_nil]; omega) | (have h9 := hin2 (by omega) (cpK_y (by rw [kAt_at (by assumption)]; first | assumption | omega) (by omega) (by omega)); first | omega | (constructor <;> omega))))) (wanted_yes h117.fr rfl rfl rfl rfl (by rw [(decide_eq_false (by omega))]; rfl)) rfl rfl fun a119 h119 => ?_; clear h117
     refine wl_val h119 (r_lde (s := (⟨vl, [y.a, y.b, y.c]⟩ : Ls Int)) (i := k) (v := .int .i64 (nth ([y.a, y.b, y.c]) k)) ti_3 rfl rfl rfl (fun w h => (h.own 0 rfl)) (show k < ([y.a, y.b, y.c]).length from (by first | omega | (simp only [List.length_cons, List.length_nil]; omega) | (have h9 := hin2 (by omega) (cpK_y (by rw [kAt_at (by assumption)]; first | assumption | omega) (by omega) (by omega)); first | omega | (constructor <;> omega)))) (Nat.le_of_ble_eq_true rfl) rfl) (wanted_yes h119.fr rfl rfl rfl rfl (by rw [(decide_eq_false (by omega))]; rfl)) rfl rfl fun a120 h120 => ?_; clear h119
     have hl121 : o.l.length ≤ 140737488355328 := (h120.sh.at 3 rfl).len
     refine wl_val h120 (r_ixI (s := o) (q := nth ([y.a, y.b, y.c]) k) sl_24 ti_3 rfl rfl rfl (fun w h => (h.at 3 rfl)) (show 0 ≤ nth ([y.a, y.b, y.c]) k ∧ nth ([y.a, y.b, y.c]) k < o.l.length from (by first | omega | (simp only [List.length_cons, List.length_nil]; omega) | (have h9 := hin2 (by omega) (cpK_y (by rw [kAt_at (by assumption)]; first | assumption | omega) (by omega) (by omega)); first | omega | (constructor <;> omega))))) (wanted_yes h120.fr rfl rfl rfl rfl (by rw [(decide_eq_false (by omega))]; rfl)) rfl rfl fun a122 h122 => ?_; clear h120
     refine wl_val h122 (r_lde (s := o) (i := (nth ([y.a, y.b, y.c]) k).toNat) (v := .int .i64 (nth o.l ((nth ([y.a, y.b, y.c]) k).toNat))) ti_3 rfl rfl rfl (fun w h => (h.at 3 rfl)) (show (nth ([y.a, y.b, y.c]) k).toNat < o.l.length from (by first | omega | (simp only [List.length_cons, List.length_nil]; omega) | (have h9 := hin2 (by omega) (cpK_y (by rw [kAt_at (by assumption)]; first | assumption | omega) (by omega) (by omega)); first | omega | (constructor <;> omega)))) (Nat.le_of_ble_eq_true rfl) rfl) (wanted_yes h122.fr rfl rfl rfl rfl (by rw [(decide_eq_false (by omega))]; rfl)) rfl rfl fun a123 h123 => ?_; clear h122
     refine wl_val h123 (r_geqI (p := nth o.l ((nth ([y.a, y.b, y.c]) k).toNat)) (q := 0) rfl rfl rfl) (wanted_yes h123.fr rfl rfl rfl rfl (by rw [(decide_eq_false (by omega))]; rfl)) rfl rfl fun a124 h124 => ?_; clear h123
     refine wv h124 (r_pickT rfl rfl (by rw [(decide_eq_false (by omega))]; rfl) rfl) rfl rfl fun a125 h125 => ?_; clear h124
     refine wpList_nil (hK104 _ _ ?_)
     have h126 : St 82 (fun _ => False) W a125 w24 [(1, o.v), (2, .pointer (some ⟨b3, 0, none⟩)), (4, .pointer (some ⟨b4, 0, none⟩)), (6, .string (kindsB x.op)), (7, vl), (8, .int .i64 (wrG x)), (9, .int .i64 ((k : Nat) : Int)), (59, .bool (decide (0 ≤ nth o.l ((nth ([y.a, y.b, y.c]) k).toNat))))] [.own 3 (⟨vl, [y.a, y.b, y.c]⟩ : Ls Int), .blk b4 73 [.int .i64 0, .int .i64 0, .int .i64 0, .int .i64 0], .blk b3 73 [.int .i64 x.op, .int .i64 x.a, .int .i64 x.b, .int .i64 x.c], .at_ o] := h125.nrm ⟨rfl, rfl, rfl, rfl, rfl, rfl, rfl, rfl, trivial⟩ [0, 1, 2, 3] (by decide) ⟨rfl, rfl, rfl, rfl, trivial⟩
     clear h125
     refine x_cond h126 rfl (fun hb127 => ?_) (fun hb127 => ?_)
     ·
      have hp127 : 0 ≤ nth o.l ((nth ([y.a, y.b, y.c]) k).toNat) := of_decide_eq_true hb127
      refine wp_region_lit ?_
      refine wms 5 h126 rfl fun a128 h128 => ?_; clear h126
      refine wv h128 (r_ixN (s := (⟨vl, [y.a, y.b, y.c]⟩ : Ls Int)) (q := k) sl_24 ti_3 rfl rfl rfl (fun w h => (h.own 0 rfl)) (show k < ([y.a, y.b, y.c]).length from (by first | omega | (simp only [List.length_cons, List.length_nil]; omega) | (have h9 := hin2 (by omega) (cpK_y (by rw [kAt_at (by assumption)]; first | assumption | omega) (by omega) (by omega)); first | omega | (constructor <;> omega))))) rfl rfl fun a129 h129 => ?_; clear h128
      refine wv h129 (r_lde (s := (⟨vl, [y.a, y.b, y.c]⟩ : Ls Int)) (i := k) (v := .int .i64 (nth ([y.a, y.b, y.c]) k)) ti_3 rfl rfl rfl (fun w h => (h.own 0 rfl)) (show k < ([y.a, y.b, y.c]).length from (by first | omega | (simp only [List.length_cons, List.length_nil]; omega) | (have h9 := hin2 (by omega) (cpK_y (by rw [kAt_at (by assumption)]; first | assumption | omega) (by omega) (by omega)); first | omega | (constructor <;> omega)))) (Nat.le_of_ble_eq_true rfl) rfl) rfl rfl fun a130 h130 => ?_; clear h129
      refine wv h130 (r_ixI (s := o) (q := nth ([y.a, y.b, y.c]) k) sl_24 ti_3 rfl rfl rfl (fun w h => (h.at 3 rfl)) (show 0 ≤ nth ([y.a, y.b, y.c]) k ∧ nth ([y.a, y.b, y.c]) k < o.l.length from (by first | omega | (simp only [List.length_cons, List.length_nil]; omega) | (have h9 := hin2 (by omega) (cpK_y (by rw [kAt_at (by assumption)]; first | assumption | omega) (by omega) (by omega)); first | omega | (constructor <;> omega))))) rfl rfl fun a131 h131 => ?_; clear h130
      refine wv h131 (r_lde (s := o) (i := (nth ([y.a, y.b, y.c]) k).toNat) (v := .int .i64 (nth o.l ((nth ([y.a, y.b, y.c]) k).toNat))) ti_3 rfl rfl rfl (fun w h => (h.at 3 rfl)) (show (nth ([y.a, y.b, y.c]) k).toNat < o.l.length from (by first | omega | (simp only [List.length_cons, List.length_nil]; omega) | (have h9 := hin2 (by omega) (cpK_y (by rw [kAt_at (by assumption)]; first | assumption | omega) (by omega) (by omega)); first | omega | (constructor <;> omega)))) (Nat.le_of_ble_eq_true rfl) rfl) rfl rfl fun a132 h132 => ?_; clear h131
      refine wv h132 (r_ixN (s := (⟨vl, [y.a, y.b, y.c]⟩ : Ls Int)) (q := k) sl_24 ti_3 rfl rfl rfl (fun w h => (h.own 0 rfl)) (show k < ([y.a, y.b, y.c]).length from (by first | omega | (simp only [List.length_cons, List.length_nil]; omega) | (have h9 := hin2 (by omega) (cpK_y (by rw [kAt_at (by assumption)]; first | assumption | omega) (by omega) (by omega)); first | omega | (constructor <;> omega))))) rfl rfl fun a133 h133 => ?_; clear h132
      refine wl_ex (x_ste (r := 0) (i := k) (j := 0) (x' := (nth o.l ((nth ([y.a, y.b, y.c]) k).toNat) : Int)) h133 ti_3 rfl rfl rfl rfl rfl (show k < ([y.a, y.b, y.c]).length from (by first | omega | (simp only [lens9]; omega))) (Nat.le_of_ble_eq_true rfl) rfl rfl rfl (by intro q hq; obtain rfl : q = 0 := (by omega); rfl) (fun w h => Flat.inner _ _) (fun b hb => (Flat.on _ _ hb).elim)) (wanted_none rfl _) ?_
      rintro a134 w134 h134
      clear h133
      refine wpList_nil (hK31 _ _ ?_)
      refine wp_region_lit ?_
      refine wms 1 h134 rfl fun a135 h135 => ?_; clear h134
      refine wv h135 (r_addN (p := k) (q := 1) rfl rfl rfl (show k + 1 < 9223372036854775808 from (by omega))) rfl rfl fun a136 h136 => ?_; clear h135
      refine wms 1 h136 rfl fun a137 h137 => ?_; clear h136
      refine wpList_nil ?_
      have h138 := h137.relist (i := 0) (l' := [(putK y k (nth o.l (nth [y.a, y.b, y.c] k).toNat)).a, (putK y k (nth o.l (nth [y.a, y.b, y.c] k).toNat)).b, (putK y k (nth o.l (nth [y.a, y.b, y.c] k).toNat)).c]) rfl (set_putK (x := y) _ (by omega))
      clear h137
      refine x_again ⟨_, ?_, (k + 1), (putK y k (nth o.l (nth [y.a, y.b, y.c] k).toNat)), vl, ?_, ?_, h138.nrm ⟨rfl, rfl, rfl, rfl, rfl, rfl, rfl, trivial⟩ [0, 1, 2, 3] (by decide) ⟨rfl, rfl, rfl, rfl, trivial⟩, rfl⟩
      · rw [hm24]; first | omega | (simp only [lens9]; omega)
      · omega
      · first | (exact cp_some hy (cpK_y (by rw [kAt_at (by assumption)]; first | assumption | omega) (by omega) (by omega)) (by unfold rowF; rw [if_pos (by assumption)])) | (exact cp_none hy (by unfold rowF; rw [if_neg (by assumption)])) | (exact cp_no hy (cpK_n (by rw [kAt_at (by assumption)]; first | assumption | omega))) | (exact cp_no hy (cpK_w (by omega) (by omega))) | (exact cp_no hy (cpK_c (by omega) (by omega)))
     have hp127 : ¬ (0 ≤ nth o.l ((nth ([y.a, y.b, y.c]) k).toNat)) := of_decide_eq_false hb127
     refine wp_skip ?_
     refine hK31 _ _ ?_
     refine wp_region_lit ?_
     refine wms 1 h126 rfl fun a139 h139 => ?_; clear h126
     refine wv h139 (r_addN (p := k) (q := 1) rfl rfl rfl (show k + 1 < 9223372036854775808 from (by omega))) rfl rfl fun a140 h140 => ?_; clear h139
     refine wms 1 h140 rfl fun a141 h141 => ?_; clear h140
     refine wpList_nil ?_
     refine x_again ⟨_, ?_, (k + 1), y, vl, ?_, ?_, h141.nrm ⟨rfl, rfl, rfl, rfl, rfl, rfl, rfl, trivial⟩ [0, 1, 2, 3] (by decide) ⟨rfl, rfl, rfl, rfl, trivial⟩, rfl⟩
     · rw [hm24]; first | omega | (simp only [lens9]; omega)
     · omega
     · first | (exact cp_some hy (cpK_y (by rw [kAt_at (by assumption)]; first | assumption | omega) (by omega) (by omega)) (by unfold rowF; rw [if_pos (by assumption)])) | (exact cp_none hy (by unfold rowF; rw [if_neg (by assumption)])) | (exact cp_no hy (cpK_n (by rw [kAt_at (by assumption)]; first | assumption | omega))) | (exact cp_no hy (cpK_w (by omega) (by omega))) | (exact cp_no hy (cpK_c (by omega) (by omega)))
    have hp110 : ¬ ((((kindsB x.op)[k]'hx106).toNat : Int) = 114) := of_decide_eq_false hb110
    refine wl_skip h109 (wanted_no h109.fr rfl rfl rfl rfl hb110) rfl rfl fun a143 h143 => ?_; clear h109
    refine wl_skip h143 (wanted_no h143.fr rfl rfl rfl rfl hb110) rfl rfl fun a144 h144 => ?_; clear h143
    refine wv h144 (r_pickF rfl rfl hb110 rfl) rfl rfl fun a145 h145 => ?_; clear h144
    refine wms 1 h145 rfl fun a146 h146 => ?_; clear h145
    refine wl_skip h146 (wanted_no h146.fr rfl rfl rfl rfl rfl) rfl rfl fun a147 h147 => ?_; clear h146
    refine wl_skip h147 (wanted_no h147.fr rfl rfl rfl rfl rfl) rfl rfl fun a148 h148 => ?_; clear h147
    refine wl_skip h148 (wanted_no h148.fr rfl rfl rfl rfl rfl) rfl rfl fun a149 h149 => ?_; clear h148
    refine wl_skip h149 (wanted_no h149.fr rfl rfl rfl rfl rfl) rfl rfl fun a150 h150 => ?_; clear h149
    refine wl_skip h150 (wanted_no h150.fr rfl rfl rfl rfl rfl) rfl rfl fun a151 h151 => ?_; clear h150
    refine wl_skip h151 (wanted_no h151.fr rfl rfl rfl rfl rfl) rfl rfl fun a152 h152 => ?_; clear h151
    refine wl_skip h152 (wanted_no h152.fr rfl rfl rfl rfl rfl) rfl rfl fun a153 h153 => ?_; clear h152
    refine wl_skip h153 (wanted_no h153.fr rfl rfl rfl rfl rfl) rfl rfl fun a154 h154 => ?_; clear h153
    refine wv h154 (r_pickF rfl rfl rfl rfl) rfl rfl fun a155 h155 => ?_; clear h154
    refine wpList_nil (hK104 _ _ ?_)
    have h156 : St 82 (fun _ => False) W a155 w24 [(1, o.v), (2, .pointer (some ⟨b3, 0, none⟩)), (4, .pointer (some ⟨b4, 0, none⟩)), (6, .string (kindsB x.op)), (7, vl), (8, .int .i64 (wrG x)), (9, .int .i64 ((k : Nat) : Int)), (59, .bool false)] [.own 3 (⟨vl, [y.a, y.b, y.c]⟩ : Ls Int), .blk b4 73 [.int .i64 0, .int .i64 0, .int .i64 0, .int .i64 0], .blk b3 73 [.int .i64 x.op, .int .i64 x.a, .int .i64 x.b, .int .i64 x.c], .at_ o] := h155.nrm ⟨rfl, rfl, rfl, rfl, rfl, rfl, rfl, rfl, trivial⟩ [0, 1, 2, 3] (by decide) ⟨rfl, rfl, rfl, rfl, trivial⟩
    clear h155
    refine x_condF h156 rfl rfl ?_
    refine wp_skip ?_
    refine hK31 _ _ ?_
    refine wp_region_lit ?_
    refine wms 1 h156 rfl fun a157 h157 => ?_; clear h156
    refine wv h157 (r_addN (p := k) (q := 1) rfl rfl rfl (show k + 1 < 9223372036854775808 from (by omega))) rfl rfl fun a158 h158 => ?_; clear h157
    refine wms 1 h158 rfl fun a159 h159 => ?_; clear h158
    refine wpList_nil ?_
    refine x_again ⟨_, ?_, (k + 1), y, vl, ?_, ?_, h159.nrm ⟨rfl, rfl, rfl, rfl, rfl, rfl, rfl, trivial⟩ [0, 1, 2, 3] (by decide) ⟨rfl, rfl, rfl, rfl, trivial⟩, rfl⟩
    · rw [hm24]; first | omega | (simp only [lens9]; omega)
    · omega
    · first | (exact cp_some hy (cpK_y (by rw [kAt_at (by assumption)]; first | assumption | omega) (by omega) (by omega)) (by unfold rowF; rw [if_pos (by assumption)])) | (exact cp_none hy (by unfold rowF; rw [if_neg (by assumption)])) | (exact cp_no hy (cpK_n (by rw [kAt_at (by assumption)]; first | assumption | omega))) | (exact cp_no hy (cpK_w (by omega) (by omega))) | (exact cp_no hy (cpK_c (by omega) (by omega)))
   have hp98 : ¬ (x.op = 13) := of_decide_eq_false hb98
   refine wl_skip h97 (wanted_no h97.fr rfl rfl rfl rfl hb98) rfl rfl fun a161 h161 => ?_; clear h97
   refine wl_skip h161 (wanted_no h161.fr rfl rfl rfl rfl hb98) rfl rfl fun a162 h162 => ?_; clear h161
   refine wl_val h162 (r_pickF rfl rfl hb98 rfl) (wanted_yes h162.fr rfl rfl rfl rfl hb41) rfl rfl fun a163 h163 => ?_; clear h162
   refine wv h163 (r_pickF rfl rfl hb41 rfl) rfl rfl fun a164 h164 => ?_; clear h163
   refine wms 1 h164 rfl fun a165 h165 => ?_; clear h164
   refine wpList_nil (hK32 _ _ ?_)
   refine wp_seq_k fun K166 hK166 => wp_region_lit ?_
   refine wms 2 h165 rfl fun a167 h167 => ?_; clear h165
   have hx168 : k < (kindsB x.op).size := (by first | omega | (simp only [List.length_cons, List.length_nil]; omega) | (have h9 := hin2 (by omega) (cpK_y (by rw [kAt_at (by assumption)]; first | assumption | omega) (by omega) (by omega)); first | omega | (constructor <;> omega)))
   refine wv h167 (r_ixStr (s := (kindsB x.op)) (q := k) Try.underlying9 rfl rfl rfl hx168) rfl rfl fun a169 h169 => ?_; clear h167
   refine wv h169 (r_eqlI (p := (((kindsB x.op)[k]'hx168).toNat : Int)) (q := 114) rfl rfl rfl) rfl rfl fun a170 h170 => ?_; clear h169
   refine wms 1 h170 rfl fun a171 h171 => ?_; clear h170
   rcases Bool.eq_false_or_eq_true (decide ((((kindsB x.op)[k]'hx168).toNat : Int) = 114)) with hb172 | hb172
   ·
    have hp172 : (((kindsB x.op)[k]'hx168).toNat : Int) = 114 := of_decide_eq_true hb172
    refine wl_val h171 (r_move rfl rfl) (wanted_yes h171.fr rfl rfl rfl rfl hb172) rfl rfl fun a173 h173 => ?_; clear h171
    refine wl_val h173 (r_not rfl rfl) (wanted_yes h173.fr rfl rfl rfl rfl hb172) rfl rfl fun a174 h174 => ?_; clear h173
    refine wv h174 (r_pickT rfl rfl hb172 rfl) rfl rfl fun a175 h175 => ?_; clear h174
    refine wms 1 h175 rfl fun a176 h176 => ?_; clear h175
    refine wl_val h176 (r_move rfl rfl) (wanted_yes h176.fr rfl rfl rfl rfl rfl) rfl rfl fun a177 h177 => ?_; clear h176
    refine wl_val h177 (r_move rfl rfl) (wanted_yes h177.fr rfl rfl rfl rfl rfl) rfl rfl fun a178 h178 => ?_; clear h177
    refine wl_val h178 (r_move rfl rfl) (wanted_yes h178.fr rfl rfl rfl rfl rfl) rfl rfl fun a179 h179 => ?_; clear h178
    have hl180 : ([y.a, y.b, y.c]).length ≤ 140737488355328 := (h179.sh.own 0 rfl).len
    refine wl_val h179 (r_ixN (s := (⟨vl, [y.a, y.b, y.c]⟩ : Ls Int)) (q := k) sl_24 ti_3 rfl rfl rfl (fun w h => (h.own 0 rfl)) (show k < ([y.a, y.b, y.c]).length from (by first | omega | (simp only [List.length_cons, List.length_nil]; omega) | (have h9 := hin2 (by omega) (cpK_y (by rw [kAt_at (by assumption)]; first | assumption | omega) (by omega) (by omega)); first | omega | (constructor <;> omega))))) (wanted_yes h179.fr rfl rfl rfl rfl rfl) rfl rfl fun a181 h181 => ?_; clear h179
    refine wl_val h181 (r_lde (s := (⟨vl, [y.a, y.b, y.c]⟩ : Ls Int)) (i := k) (v := .int .i64 (nth ([y.a, y.b, y.c]) k)) ti_3 rfl rfl rfl (fun w h => (h.own 0 rfl)) (show k < ([y.a, y.b, y.c]).length from (by first | omega | (simp only [List.length_cons, List.length_nil]; omega) | (have h9 := hin2 (by omega) (cpK_y (by rw [kAt_at (by assumption)]; first | assumption | omega) (by omega) (by omega)); first | omega | (constructor <;> omega)))) (Nat.le_of_ble_eq_true rfl) rfl) (wanted_yes h181.fr rfl rfl rfl rfl rfl) rfl rfl fun a182 h182 => ?_; clear h181
    have hl183 : o.l.length ≤ 140737488355328 := (h182.sh.at 3 rfl).len
    refine wl_val h182 (r_ixI (s := o) (q := nth ([y.a, y.b, y.c]) k) sl_24 ti_3 rfl rfl rfl (fun w h => (h.at 3 rfl)) (show 0 ≤ nth ([y.a, y.b, y.c]) k ∧ nth ([y.a, y.b, y.c]) k < o.l.length from (by first | omega | (simp only [List.length_cons, List.length_nil]; omega) | (have h9 := hin2 (by omega) (cpK_y (by rw [kAt_at (by assumption)]; first | assumption | omega) (by omega) (by omega)); first | omega | (constructor <;> omega))))) (wanted_yes h182.fr rfl rfl rfl rfl rfl) rfl rfl fun a184 h184 => ?_; clear h182
    refine wl_val h184 (r_lde (s := o) (i := (nth ([y.a, y.b, y.c]) k).toNat) (v := .int .i64 (nth o.l ((nth ([y.a, y.b, y.c]) k).toNat))) ti_3 rfl rfl rfl (fun w h => (h.at 3 rfl)) (show (nth ([y.a, y.b, y.c]) k).toNat < o.l.length from (by first | omega | (simp only [List.length_cons, List.length_nil]; omega) | (have h9 := hin2 (by omega) (cpK_y (by rw [kAt_at (by assumption)]; first | assumption | omega) (by omega) (by omega)); first | omega | (constructor <;> omega)))) (Nat.le_of_ble_eq_true rfl) rfl) (wanted_yes h184.fr rfl rfl rfl rfl rfl) rfl rfl fun a185 h185 => ?_; clear h184
    refine wl_val h185 (r_geqI (p := nth o.l ((nth ([y.a, y.b, y.c]) k).toNat)) (q := 0) rfl rfl rfl) (wanted_yes h185.fr rfl rfl rfl rfl rfl) rfl rfl fun a186 h186 => ?_; clear h185
    refine wv h186 (r_pickT rfl rfl rfl rfl) rfl rfl fun a187 h187 => ?_; clear h186
    refine wpList_nil (hK166 _ _ ?_)
    have h188 : St 82 (fun _ => False) W a187 w24 [(1, o.v), (2, .pointer (some ⟨b3, 0, none⟩)), (4, .pointer (some ⟨b4, 0, none⟩)), (6, .string (kindsB x.op)), (7, vl), (8, .int .i64 (wrG x)), (9, .int .i64 ((k : Nat) : Int)), (59, .bool (decide (0 ≤ nth o.l ((nth ([y.a, y.b, y.c]) k).toNat))))] [.own 3 (⟨vl, [y.a, y.b, y.c]⟩ : Ls Int), .blk b4 73 [.int .i64 0, .int .i64 0, .int .i64 0, .int .i64 0], .blk b3 73 [.int .i64 x.op, .int .i64 x.a, .int .i64 x.b, .int .i64 x.c], .at_ o] := h187.nrm ⟨rfl, rfl, rfl, rfl, rfl, rfl, rfl, rfl, trivial⟩ [0, 1, 2, 3] (by decide) ⟨rfl, rfl, rfl, rfl, trivial⟩
    clear h187
    refine x_cond h188 rfl (fun hb189 => ?_) (fun hb189 => ?_)
    ·
     have hp189 : 0 ≤ nth o.l ((nth ([y.a, y.b, y.c]) k).toNat) := of_decide_eq_true hb189
     refine wp_region_lit ?_
     refine wms 5 h188 rfl fun a190 h190 => ?_; clear h188
     refine wv h190 (r_ixN (s := (⟨vl, [y.a, y.b, y.c]⟩ : Ls Int)) (q := k) sl_24 ti_3 rfl rfl rfl (fun w h => (h.own 0 rfl)) (show k < ([y.a, y.b, y.c]).length from (by first | omega | (simp only [List.length_cons, List.length_nil]; omega) | (have h9 := hin2 (by omega) (cpK_y (by rw [kAt_at (by assumption)]; first | assumption | omega) (by omega) (by omega)); first | omega | (constructor <;> omega))))) rfl rfl fun a191 h191 => ?_; clear h190
     refine wv h191 (r_lde (s := (⟨vl, [y.a, y.b, y.c]⟩ : Ls Int)) (i := k) (v := .int .i64 (nth ([y.a, y.b, y.c]) k)) ti_3 rfl rfl rfl (fun w h => (h.own 0 rfl)) (show k < ([y.a, y.b, y.c]).length from (by first | omega | (simp only [List.length_cons, List.length_nil]; omega) | (have h9 := hin2 (by omega) (cpK_y (by rw [kAt_at (by assumption)]; first | assumption | omega) (by omega) (by omega)); first | omega | (constructor <;> omega)))) (Nat.le_of_ble_eq_true rfl) rfl) rfl rfl fun a192 h192 => ?_; clear h191
     refine wv h192 (r_ixI (s := o) (q := nth ([y.a, y.b, y.c]) k) sl_24 ti_3 rfl rfl rfl (fun w h => (h.at 3 rfl)) (show 0 ≤ nth ([y.a, y.b, y.c]) k ∧ nth ([y.a, y.b, y.c]) k < o.l.length from (by first | omega | (simp only [List.length_cons, List.length_nil]; omega) | (have h9 := hin2 (by omega) (cpK_y (by rw [kAt_at (by assumption)]; first | assumption | omega) (by omega) (by omega)); first | omega | (constructor <;> omega))))) rfl rfl fun a193 h193 => ?_; clear h192
     refine wv h193 (r_lde (s := o) (i := (nth ([y.a, y.b, y.c]) k).toNat) (v := .int .i64 (nth o.l ((nth ([y.a, y.b, y.c]) k).toNat))) ti_3 rfl rfl rfl (fun w h => (h.at 3 rfl)) (show (nth ([y.a, y.b, y.c]) k).toNat < o.l.length from (by first | omega | (simp only [List.length_cons, List.length_nil]; omega) | (have h9 := hin2 (by omega) (cpK_y (by rw [kAt_at (by assumption)]; first | assumption | omega) (by omega) (by omega)); first | omega | (constructor <;> omega)))) (Nat.le_of_ble_eq_true rfl) rfl) rfl rfl fun a194 h194 => ?_; clear h193
     refine wv h194 (r_ixN (s := (⟨vl, [y.a, y.b, y.c]⟩ : Ls Int)) (q := k) sl_24 ti_3 rfl rfl rfl (fun w h => (h.own 0 rfl)) (show k < ([y.a, y.b, y.c]).length from (by first | omega | (simp only [List.length_cons, List.length_nil]; omega) | (have h9 := hin2 (by omega) (cpK_y (by rw [kAt_at (by assumption)]; first | assumption | omega) (by omega) (by omega)); first | omega | (constructor <;> omega))))) rfl rfl fun a195 h195 => ?_; clear h194
     refine wl_ex (x_ste (r := 0) (i := k) (j := 0) (x' := (nth o.l ((nth ([y.a, y.b, y.c]) k).toNat) : Int)) h195 ti_3 rfl rfl rfl rfl rfl (show k < ([y.a, y.b, y.c]).length from (by first | omega | (simp only [lens9]; omega))) (Nat.le_of_ble_eq_true rfl) rfl rfl rfl (by intro q hq; obtain rfl : q = 0 := (by omega); rfl) (fun w h => Flat.inner _ _) (fun b hb => (Flat.on _ _ hb).elim)) (wanted_none rfl _) ?_
     rintro a196 w196 h196
     clear h195
     refine wpList_nil (hK31 _ _ ?_)
     refine wp_region_lit ?_
     refine wms 1 h196 rfl fun a197 h197 => ?_; clear h196
     refine wv h197 (r_addN (p := k) (q := 1) rfl rfl rfl (show k + 1 < 9223372036854775808 from (by omega))) rfl rfl fun a198 h198 => ?_; clear h197
     refine wms 1 h198 rfl fun a199 h199 => ?_; clear h198
     refine wpList_nil ?_
     have h200 := h199.relist (i := 0) (l' := [(putK y k (nth o.l (nth [y.a, y.b, y.c] k).toNat)).a, (putK y k (nth o.l (nth [y.a, y.b, y.c] k).toNat)).b, (putK y k (nth o.l (nth [y.a, y.b, y.c] k).toNat)).c]) rfl (set_putK (x := y) _ (by omega))
     clear h199
     refine x_again ⟨_, ?_, (k + 1), (putK y k (nth o.l (nth [y.a, y.b, y.c] k).toNat)), vl, ?_, ?_, h200.nrm ⟨rfl, rfl, rfl, rfl, rfl, rfl, rfl, trivial⟩ [0, 1, 2, 3] (by decide) ⟨rfl, rfl, rfl, rfl, trivial⟩, rfl⟩
     · rw [hm24]; first | omega | (simp only [lens9]; omega)
     · omega
     · first | (exact cp_some hy (cpK_y (by rw [kAt_at (by assumption)]; first | assumption | omega) (by omega) (by omega)) (by unfold rowF; rw [if_pos (by assumption)])) | (exact cp_none hy (by unfold rowF; rw [if_neg (by assumption)])) | (exact cp_no hy (cpK_n (by rw [kAt_at (by assumption)]; first | assumption | omega))) | (exact cp_no hy (cpK_w (by omega) (by omega))) | (exact cp_no hy (cpK_c (by omega) (by omega)))
    have hp189 : ¬ (0 ≤ nth o.l ((nth ([y.a, y.b, y.c]) k).toNat)) := of_decide_eq_false hb189
    refine wp_skip ?_
    refine hK31 _ _ ?_
    refine wp_region_lit ?_
    refine wms 1 h188 rfl fun a201 h201 => ?_; clear h188
    refine wv h201 (r_addN (p := k) (q := 1) rfl rfl rfl (show k + 1 < 9223372036854775808 from (by omega))) rfl rfl fun a202 h202 => ?_; clear h201
    refine wms 1 h202 rfl fun a203 h203 => ?_; clear h202
    refine wpList_nil ?_
    refine x_again ⟨_, ?_, (k + 1), y, vl, ?_, ?_, h203.nrm ⟨rfl, rfl, rfl, rfl, rfl, rfl, rfl, trivial⟩ [0, 1, 2, 3] (by decide) ⟨rfl, rfl, rfl, rfl, trivial⟩, rfl⟩
    · rw [hm24]; first | omega | (simp only [lens9]; omega)
    · omega
    · first | (exact cp_some hy (cpK_y (by rw [kAt_at (by assumption)]; first | assumption | omega) (by omega) (by omega)) (by unfold rowF; rw [if_pos (by assumption)])) | (exact cp_none hy (by unfold rowF; rw [if_neg (by assumption)])) | (exact cp_no hy (cpK_n (by rw [kAt_at (by assumption)]; first | assumption | omega))) | (exact cp_no hy (cpK_w (by omega) (by omega))) | (exact cp_no hy (cpK_c (by omega) (by omega)))
   have hp172 : ¬ ((((kindsB x.op)[k]'hx168).toNat : Int) = 114) := of_decide_eq_false hb172
   refine wl_skip h171 (wanted_no h171.fr rfl rfl rfl rfl hb172) rfl rfl fun a205 h205 => ?_; clear h171
   refine wl_skip h205 (wanted_no h205.fr rfl rfl rfl rfl hb172) rfl rfl fun a206 h206 => ?_; clear h205
   refine wv h206 (r_pickF rfl rfl hb172 rfl) rfl rfl fun a207 h207 => ?_; clear h206
   refine wms 1 h207 rfl fun a208 h208 => ?_; clear h207
   refine wl_skip h208 (wanted_no h208.fr rfl rfl rfl rfl rfl) rfl rfl fun a209 h209 => ?_; clear h208
   refine wl_skip h209 (wanted_no h209.fr rfl rfl rfl rfl rfl) rfl rfl fun a210 h210 => ?_; clear h209
   refine wl_skip h210 (wanted_no h210.fr rfl rfl rfl rfl rfl) rfl rfl fun a211 h211 => ?_; clear h210
   refine wl_skip h211 (wanted_no h211.fr rfl rfl rfl rfl rfl) rfl rfl fun a212 h212 => ?_; clear h211
   refine wl_skip h212 (wanted_no h212.fr rfl rfl rfl rfl rfl) rfl rfl fun a213 h213 => ?_; clear h212
   refine wl_skip h213 (wanted_no h213.fr rfl rfl rfl rfl rfl) rfl rfl fun a214 h214 => ?_; clear h213
   refine wl_skip h214 (wanted_no h214.fr rfl rfl rfl rfl rfl) rfl rfl fun a215 h215 => ?_; clear h214
   refine wl_skip h215 (wanted_no h215.fr rfl rfl rfl rfl rfl) rfl rfl fun a216 h216 => ?_; clear h215
   refine wv h216 (r_pickF rfl rfl rfl rfl) rfl rfl fun a217 h217 => ?_; clear h216
   refine wpList_nil (hK166 _ _ ?_)
   have h218 : St 82 (fun _ => False) W a217 w24 [(1, o.v), (2, .pointer (some ⟨b3, 0, none⟩)), (4, .pointer (some ⟨b4, 0, none⟩)), (6, .string (kindsB x.op)), (7, vl), (8, .int .i64 (wrG x)), (9, .int .i64 ((k : Nat) : Int)), (59, .bool false)] [.own 3 (⟨vl, [y.a, y.b, y.c]⟩ : Ls Int), .blk b4 73 [.int .i64 0, .int .i64 0, .int .i64 0, .int .i64 0], .blk b3 73 [.int .i64 x.op, .int .i64 x.a, .int .i64 x.b, .int .i64 x.c], .at_ o] := h217.nrm ⟨rfl, rfl, rfl, rfl, rfl, rfl, rfl, rfl, trivial⟩ [0, 1, 2, 3] (by decide) ⟨rfl, rfl, rfl, rfl, trivial⟩
   clear h217
   refine x_condF h218 rfl rfl ?_
   refine wp_skip ?_
   refine hK31 _ _ ?_
   refine wp_region_lit ?_
   refine wms 1 h218 rfl fun a219 h219 => ?_; clear h218
   refine wv h219 (r_addN (p := k) (q := 1) rfl rfl rfl (show k + 1 < 9223372036854775808 from (by omega))) rfl rfl fun a220 h220 => ?_; clear h219
   refine wms 1 h220 rfl fun a221 h221 => ?_; clear h220
   refine wpList_nil ?_
   refine x_again ⟨_, ?_, (k + 1), y, vl, ?_, ?_, h221.nrm ⟨rfl, rfl, rfl, rfl, rfl, rfl, rfl, trivial⟩ [0, 1, 2, 3] (by decide) ⟨rfl, rfl, rfl, rfl, trivial⟩, rfl⟩
   · rw [hm24]; first | omega | (simp only [lens9]; omega)
   · omega
   · first | (exact cp_some hy (cpK_y (by rw [kAt_at (by assumption)]; first | assumption | omega) (by omega) (by omega)) (by unfold rowF; rw [if_pos (by assumption)])) | (exact cp_none hy (by unfold rowF; rw [if_neg (by assumption)])) | (exact cp_no hy (cpK_n (by rw [kAt_at (by assumption)]; first | assumption | omega))) | (exact cp_no hy (cpK_w (by omega) (by omega))) | (exact cp_no hy (cpK_c (by omega) (by omega)))
  have hp36 : ¬ (k = 0) := of_decide_eq_false hb36
  refine wl_skip h35 (wanted_no h35.fr rfl rfl rfl rfl hb36) rfl rfl fun a223 h223 => ?_; clear h35
  refine wl_skip h223 (wanted_no h223.fr rfl rfl rfl rfl hb36) rfl rfl fun a224 h224 => ?_; clear h223
  refine wv h224 (r_pickF rfl rfl hb36 rfl) rfl rfl fun a225 h225 => ?_; clear h224
  refine wms 1 h225 rfl fun a226 h226 => ?_; clear h225
  refine wl_val h226 (r_fieldB (r := 0) fl_73_0 rfl rfl rfl) (wanted_yes h226.fr rfl rfl rfl rfl rfl) rfl rfl fun a227 h227 => ?_; clear h226
  refine wl_val h227 (r_ldb (i := 2) ti_3 rfl rfl rfl rfl) (wanted_yes h227.fr rfl rfl rfl rfl rfl) rfl rfl fun a228 h228 => ?_; clear h227
  refine wl_val h228 (r_eqlI (p := x.op) (q := 13) rfl rfl rfl) (wanted_yes h228.fr rfl rfl rfl rfl rfl) rfl rfl fun a229 h229 => ?_; clear h228
  refine wl_val h229 (r_move rfl rfl) (wanted_yes h229.fr rfl rfl rfl rfl rfl) rfl rfl fun a230 h230 => ?_; clear h229
  rcases Bool.eq_false_or_eq_true (decide (x.op = 13)) with hb231 | hb231
  ·
   have hp231 : x.op = 13 := of_decide_eq_true hb231
   refine wl_val h230 (r_move rfl rfl) (wanted_yes h230.fr rfl rfl rfl rfl hb231) rfl rfl fun a232 h232 => ?_; clear h230
   refine wl_val h232 (r_eqlN (p := k) (q := 1) rfl rfl rfl) (wanted_yes h232.fr rfl rfl rfl rfl hb231) rfl rfl fun a233 h233 => ?_; clear h232
   refine wl_val h233 (r_pickT rfl rfl hb231 rfl) (wanted_yes h233.fr rfl rfl rfl rfl rfl) rfl rfl fun a234 h234 => ?_; clear h233
   refine wv h234 (r_pickF rfl rfl rfl rfl) rfl rfl fun a235 h235 => ?_; clear h234
   refine wms 1 h235 rfl fun a236 h236 => ?_; clear h235
   refine wpList_nil (hK32 _ _ ?_)
   refine wp_seq_k fun K237 hK237 => wp_region_lit ?_
   refine wms 2 h236 rfl fun a238 h238 => ?_; clear h236
   have hx239 : k < (kindsB x.op).size := (by first | omega | (simp only [List.length_cons, List.length_nil]; omega) | (have h9 := hin2 (by omega) (cpK_y (by rw [kAt_at (by assumption)]; first | assumption | omega) (by omega) (by omega)); first | omega | (constructor <;> omega)))
   refine wv h238 (r_ixStr (s := (kindsB x.op)) (q := k) Try.underlying9 rfl rfl rfl hx239) rfl rfl fun a240 h240 => ?_; clear h238
   refine wv h240 (r_eqlI (p := (((kindsB x.op)[k]'hx239).toNat : Int)) (q := 114) rfl rfl rfl) rfl rfl fun a241 h241 => ?_; clear h240
   refine wms 1 h241 rfl fun a242 h242 => ?_; clear h241
   rcases Bool.eq_false_or_eq_true (decide ((((kindsB x.op)[k]'hx239).toNat : Int) = 114)) with hb243 | hb243
   ·
    have hp243 : (((kindsB x.op)[k]'hx239).toNat : Int) = 114 := of_decide_eq_true hb243
    refine wl_val h242 (r_move rfl rfl) (wanted_yes h242.fr rfl rfl rfl rfl hb243) rfl rfl fun a244 h244 => ?_; clear h242
    refine wl_val h244 (r_not rfl rfl) (wanted_yes h244.fr rfl rfl rfl rfl hb243) rfl rfl fun a245 h245 => ?_; clear h244
    refine wv h245 (r_pickT rfl rfl hb243 rfl) rfl rfl fun a246 h246 => ?_; clear h245
    refine wms 1 h246 rfl fun a247 h247 => ?_; clear h246
    rcases Bool.eq_false_or_eq_true (!(decide (k = 1))) with hb248 | hb248
    ·
     have hp248 : ¬ (k = 1) := by simpa using hb248
     refine wl_val h247 (r_move rfl rfl) (wanted_yes h247.fr rfl rfl rfl rfl hb248) rfl rfl fun a249 h249 => ?_; clear h247
     refine wl_val h249 (r_move rfl rfl) (wanted_yes h249.fr rfl rfl rfl rfl hb248) rfl rfl fun a250 h250 => ?_; clear h249
     refine wl_val h250 (r_move rfl rfl) (wanted_yes h250.fr rfl rfl rfl rfl hb248) rfl rfl fun a251 h251 => ?_; clear h250
     have hl252 : ([y.a, y.b, y.c]).length ≤ 140737488355328 := (h251.sh.own 0 rfl).len
     refine wl_val h251 (r_ixN (s := (⟨vl, [y.a, y.b, y.c]⟩ : Ls Int)) (q := k) sl_24 ti_3 rfl rfl rfl (fun w h => (h.own 0 rfl)) (show k < ([y.a, y.b, y.c]).length from (by first | omega | (simp only [List.length_cons, List.length_nil]; omega) | (have h9 := hin2 (by omega) (cpK_y (by rw [kAt_at (by assumption)]; first | assumption | omega) (by omega) (by omega)); first | omega | (constructor <;> omega))))) (wanted_yes h251.fr rfl rfl rfl rfl hb248) rfl rfl fun a253 h253 => ?_; clear h251
     refine wl_val h253 (r_lde (s := (⟨vl, [y.a, y.b, y.c]⟩ : Ls Int)) (i := k) (v := .int .i64 (nth ([y.a, y.b, y.c]) k)) ti_3 rfl rfl rfl (fun w h => (h.own 0 rfl)) (show k < ([y.a, y.b, y.c]).length from (by first | omega | (simp only [List.length_cons, List.length_nil]; omega) | (have h9 := hin2 (by omega) (cpK_y (by rw [kAt_at (by assumption)]; first | assumption | omega) (by omega) (by omega)); first | omega | (constructor <;> omega)))) (Nat.le_of_ble_eq_true rfl) rfl) (wanted_yes h253.fr rfl rfl rfl rfl hb248) rfl rfl fun a254 h254 => ?_; clear h253
     have hl255 : o.l.length ≤ 140737488355328 := (h254.sh.at 3 rfl).len
     refine wl_val h254 (r_ixI (s := o) (q := nth ([y.a, y.b, y.c]) k) sl_24 ti_3 rfl rfl rfl (fun w h => (h.at 3 rfl)) (show 0 ≤ nth ([y.a, y.b, y.c]) k ∧ nth ([y.a, y.b, y.c]) k < o.l.length from (by first | omega | (simp only [List.length_cons, List.length_nil]; omega) | (have h9 := hin2 (by omega) (cpK_y (by rw [kAt_at (by assumption)]; first | assumption | omega) (by omega) (by omega)); first | omega | (constructor <;> omega))))) (wanted_yes h254.fr rfl rfl rfl rfl hb248) rfl rfl fun a256 h256 => ?_; clear h254
     refine wl_val h256 (r_lde (s := o) (i := (nth ([y.a, y.b, y.c]) k).toNat) (v := .int .i64 (nth o.l ((nth ([y.a, y.b, y.c]) k).toNat))) ti_3 rfl rfl rfl (fun w h => (h.at 3 rfl)) (show (nth ([y.a, y.b, y.c]) k).toNat < o.l.length from (by first | omega | (simp only [List.length_cons, List.length_nil]; omega) | (have h9 := hin2 (by omega) (cpK_y (by rw [kAt_at (by assumption)]; first | assumption | omega) (by omega) (by omega)); first | omega | (constructor <;> omega)))) (Nat.le_of_ble_eq_true rfl) rfl) (wanted_yes h256.fr rfl rfl rfl rfl hb248) rfl rfl fun a257 h257 => ?_; clear h256
     refine wl_val h257 (r_geqI (p := nth o.l ((nth ([y.a, y.b, y.c]) k).toNat)) (q := 0) rfl rfl rfl) (wanted_yes h257.fr rfl rfl rfl rfl hb248) rfl rfl fun a258 h258 => ?_; clear h257
     refine wv h258 (r_pickT rfl rfl hb248 rfl) rfl rfl fun a259 h259 => ?_; clear h258
     refine wpList_nil (hK237 _ _ ?_)
     have h260 : St 82 (fun _ => False) W a259 w24 [(1, o.v), (2, .pointer (some ⟨b3, 0, none⟩)), (4, .pointer (some ⟨b4, 0, none⟩)), (6, .string (kindsB x.op)), (7, vl), (8, .int .i64 (wrG x)), (9, .int .i64 ((k : Nat) : Int)), (59, .bool (decide (0 ≤ nth o.l ((nth ([y.a, y.b, y.c]) k).toNat))))] [.own 3 (⟨vl, [y.a, y.b, y.c]⟩ : Ls Int), .blk b4 73 [.int .i64 0, .int .i64 0, .int .i64 0, .int .i64 0], .blk b3 73 [.int .i64 x.op, .int .i64 x.a, .int .i64 x.b, .int .i64 x.c], .at_ o] := h259.nrm ⟨rfl, rfl, rfl, rfl, rfl, rfl, rfl, rfl, trivial⟩ [0, 1, 2, 3] (by decide) ⟨rfl, rfl, rfl, rfl, trivial⟩
     clear h259
     refine x_cond h260 rfl (fun hb261 => ?_) (fun hb261 => ?_)
     ·
      have hp261 : 0 ≤ nth o.l ((nth ([y.a, y.b, y.c]) k).toNat) := of_decide_eq_true hb261
      refine wp_region_lit ?_
      refine wms 5 h260 rfl fun a262 h262 => ?_; clear h260
      refine wv h262 (r_ixN (s := (⟨vl, [y.a, y.b, y.c]⟩ : Ls Int)) (q := k) sl_24 ti_3 rfl rfl rfl (fun w h => (h.own 0 rfl)) (show k < ([y.a, y.b, y.c]).length from (by first | omega | (simp only [List.length_cons, List.length_nil]; omega) | (have h9 := hin2 (by omega) (cpK_y (by rw [kAt_at (by assumption)]; first | assumption | omega) (by omega) (by omega)); first | omega | (constructor <;> omega))))) rfl rfl fun a263 h263 => ?_; clear h262
      refine wv h263 (r_lde (s := (⟨vl, [y.a, y.b, y.c]⟩ : Ls Int)) (i := k) (v := .int .i64 (nth ([y.a, y.b, y.c]) k)) ti_3 rfl rfl rfl (fun w h => (h.own 0 rfl)) (show k < ([y.a, y.b, y.c]).length from (by first | omega | (simp only [List.length_cons, List.length_nil]; omega) | (have h9 := hin2 (by omega) (cpK_y (by rw [kAt_at (by assumption)]; first | assumption | omega) (by omega) (by omega)); first | omega | (constructor <;> omega)))) (Nat.le_of_ble_eq_true rfl) rfl) rfl rfl fun a264 h264 => ?_; clear h263
      refine wv h264 (r_ixI (s := o) (q := nth ([y.a, y.b, y.c]) k) sl_24 ti_3 rfl rfl rfl (fun w h => (h.at 3 rfl)) (show 0 ≤ nth ([y.a, y.b, y.c]) k ∧ nth ([y.a, y.b, y.c]) k < o.l.length from (by first | omega | (simp only [List.length_cons, List.length_nil]; omega) | (have h9 := hin2 (by omega) (cpK_y (by rw [kAt_at (by assumption)]; first | assumption | omega) (by omega) (by omega)); first | omega | (constructor <;> omega))))) rfl rfl fun a265 h265 => ?_; clear h264
      refine wv h265 (r_lde (s := o) (i := (nth ([y.a, y.b, y.c]) k).toNat) (v := .int .i64 (nth o.l ((nth ([y.a, y.b, y.c]) k).toNat))) ti_3 rfl rfl rfl (fun w h => (h.at 3 rfl)) (show (nth ([y.a, y.b, y.c]) k).toNat < o.l.length from (by first | omega | (simp only [List.length_cons, List.length_nil]; omega) | (have h9 := hin2 (by omega) (cpK_y (by rw [kAt_at (by assumption)]; first | assumption | omega) (by omega) (by omega)); first | omega | (constructor <;> omega)))) (Nat.le_of_ble_eq_true rfl) rfl) rfl rfl fun a266 h266 => ?_; clear h265
      refine wv h266 (r_ixN (s := (⟨vl, [y.a, y.b, y.c]⟩ : Ls Int)) (q := k) sl_24 ti_3 rfl rfl rfl (fun w h => (h.own 0 rfl)) (show k < ([y.a, y.b, y.c]).length from (by first | omega | (simp only [List.length_cons, List.length_nil]; omega) | (have h9 := hin2 (by omega) (cpK_y (by rw [kAt_at (by assumption)]; first | assumption | omega) (by omega) (by omega)); first | omega | (constructor <;> omega))))) rfl rfl fun a267 h267 => ?_; clear h266
      refine wl_ex (x_ste (r := 0) (i := k) (j := 0) (x' := (nth o.l ((nth ([y.a, y.b, y.c]) k).toNat) : Int)) h267 ti_3 rfl rfl rfl rfl rfl (show k < ([y.a, y.b, y.c]).length from (by first | omega | (simp only [lens9]; omega))) (Nat.le_of_ble_eq_true rfl) rfl rfl rfl (by intro q hq; obtain rfl : q = 0 := (by omega); rfl) (fun w h => Flat.inner _ _) (fun b hb => (Flat.on _ _ hb).elim)) (wanted_none rfl _) ?_
      rintro a268 w268 h268
      clear h267
      refine wpList_nil (hK31 _ _ ?_)
      refine wp_region_lit ?_
      refine wms 1 h268 rfl fun a269 h269 => ?_; clear h268
      refine wv h269 (r_addN (p := k) (q := 1) rfl rfl rfl (show k + 1 < 9223372036854775808 from (by omega))) rfl rfl fun a270 h270 => ?_; clear h269
      refine wms 1 h270 rfl fun a271 h271 => ?_; clear h270
      refine wpList_nil ?_
      have h272 := h271.relist (i := 0) (l' := [(putK y k (nth o.l (nth [y.a, y.b, y.c] k).toNat)).a, (putK y k (nth o.l (nth [y.a, y.b, y.c] k).toNat)).b, (putK y k (nth o.l (nth [y.a, y.b, y.c] k).toNat)).c]) rfl (set_putK (x := y) _ (by omega))
      clear h271
      refine x_again ⟨_, ?_, (k + 1), (putK y k (nth o.l (nth [y.a, y.b, y.c] k).toNat)), vl, ?_, ?_, h272.nrm ⟨rfl, rfl, rfl, rfl, rfl, rfl, rfl, trivial⟩ [0, 1, 2, 3] (by decide) ⟨rfl, rfl, rfl, rfl, trivial⟩, rfl⟩
      · rw [hm24]; first | omega | (simp only [lens9]; omega)
      · omega
      · first | (exact cp_some hy (cpK_y (by rw [kAt_at (by assumption)]; first | assumption | omega) (by omega) (by omega)) (by unfold rowF; rw [if_pos (by assumption)])) | (exact cp_none hy (by unfold rowF; rw [if_neg (by assumption)])) | (exact cp_no hy (cpK_n (by rw [kAt_at (by assumption)]; first | assumption | omega))) | (exact cp_no hy (cpK_w (by omega) (by omega))) | (exact cp_no hy (cpK_c (by omega) (by omega)))
     have hp261 : ¬ (0 ≤ nth o.l ((nth ([y.a, y.b, y.c]) k).toNat)) := of_decide_eq_false hb261
     refine wp_skip ?_
     refine hK31 _ _ ?_
     refine wp_region_lit ?_
     refine wms 1 h260 rfl fun a273 h273 => ?_; clear h260
     refine wv h273 (r_addN (p := k) (q := 1) rfl rfl rfl (show k + 1 < 9223372036854775808 from (by omega))) rfl rfl fun a274 h274 => ?_; clear h273
     refine wms 1 h274 rfl fun a275 h275 => ?_; clear h274
     refine wpList_nil ?_
     refine x_again ⟨_, ?_, (k + 1), y, vl, ?_, ?_, h275.nrm ⟨rfl, rfl, rfl, rfl, rfl, rfl, rfl, trivial⟩ [0, 1, 2, 3] (by decide) ⟨rfl, rfl, rfl, rfl, trivial⟩, rfl⟩
     · rw [hm24]; first | omega | (simp only [lens9]; omega)
     · omega
     · first | (exact cp_some hy (cpK_y (by rw [kAt_at (by assumption)]; first | assumption | omega) (by omega) (by omega)) (by unfold rowF; rw [if_pos (by assumption)])) | (exact cp_none hy (by unfold rowF; rw [if_neg (by assumption)])) | (exact cp_no hy (cpK_n (by rw [kAt_at (by assumption)]; first | assumption | omega))) | (exact cp_no hy (cpK_w (by omega) (by omega))) | (exact cp_no hy (cpK_c (by omega) (by omega)))
    have hp248 : k = 1 := by simpa using hb248
    refine wl_skip h247 (wanted_no h247.fr rfl rfl rfl rfl hb248) rfl rfl fun a277 h277 => ?_; clear h247
    refine wl_skip h277 (wanted_no h277.fr rfl rfl rfl rfl hb248) rfl rfl fun a278 h278 => ?_; clear h277
    refine wl_skip h278 (wanted_no h278.fr rfl rfl rfl rfl hb248) rfl rfl fun a279 h279 => ?_; clear h278
    refine wl_skip h279 (wanted_no h279.fr rfl rfl rfl rfl hb248) rfl rfl fun a280 h280 => ?_; clear h279
    refine wl_skip h280 (wanted_no h280.fr rfl rfl rfl rfl hb248) rfl rfl fun a281 h281 => ?_; clear h280
    refine wl_skip h281 (wanted_no h281.fr rfl rfl rfl rfl hb248) rfl rfl fun a282 h282 => ?_; clear h281
    refine wl_skip h282 (wanted_no h282.fr rfl rfl rfl rfl hb248) rfl rfl fun a283 h283 => ?_; clear h282
    refine wl_skip h283 (wanted_no h283.fr rfl rfl rfl rfl hb248) rfl rfl fun a284 h284 => ?_; clear h283
    refine wv h284 (r_pickF rfl rfl hb248 rfl) rfl rfl fun a285 h285 => ?_; clear h284
    refine wpList_nil (hK237 _ _ ?_)
    have h286 : St 82 (fun _ => False) W a285 w24 [(1, o.v), (2, .pointer (some ⟨b3, 0, none⟩)), (4, .pointer (some ⟨b4, 0, none⟩)), (6, .string (kindsB x.op)), (7, vl), (8, .int .i64 (wrG x)), (9, .int .i64 ((k : Nat) : Int)), (59, .bool false)] [.own 3 (⟨vl, [y.a, y.b, y.c]⟩ : Ls Int), .blk b4 73 [.int .i64 0, .int .i64 0, .int .i64 0, .int .i64 0], .blk b3 73 [.int .i64 x.op, .int .i64 x.a, .int .i64 x.b, .int .i64 x.c], .at_ o] := h285.nrm ⟨rfl, rfl, rfl, rfl, rfl, rfl, rfl, rfl, trivial⟩ [0, 1, 2, 3] (by decide) ⟨rfl, rfl, rfl, rfl, trivial⟩
    clear h285
    refine x_condF h286 rfl rfl ?_
    refine wp_skip ?_
    refine hK31 _ _ ?_
    refine wp_region_lit ?_
    refine wms 1 h286 rfl fun a287 h287 => ?_; clear h286
    refine wv h287 (r_addN (p := k) (q := 1) rfl rfl rfl (show k + 1 < 9223372036854775808 from (by omega))) rfl rfl fun a288 h288 => ?_; clear h287
    refine wms 1 h288 rfl fun a289 h289 => ?_; clear h288
    refine wpList_nil ?_
    refine x_again ⟨_, ?_, (k + 1), y, vl, ?_, ?_, h289.nrm ⟨rfl, rfl, rfl, rfl, rfl, rfl, rfl, trivial⟩ [0, 1, 2, 3] (by decide) ⟨rfl, rfl, rfl, rfl, trivial⟩, rfl⟩
    · rw [hm24]; first | omega | (simp only [lens9]; omega)
    · omega
    · first | (exact cp_some hy (cpK_y (by rw [kAt_at (by assumption)]; first | assumption | omega) (by omega) (by omega)) (by unfold rowF; rw [if_pos (by assumption)])) | (exact cp_none hy (by unfold rowF; rw [if_neg (by assumption)])) | (exact cp_no hy (cpK_n (by rw [kAt_at (by assumption)]; first | assumption | omega))) | (exact cp_no hy (cpK_w (by omega) (by omega))) | (exact cp_no hy (cpK_c (by omega) (by omega)))
   have hp243 : ¬ ((((kindsB x.op)[k]'hx239).toNat : Int) = 114) := of_decide_eq_false hb243
   refine wl_skip h242 (wanted_no h242.fr rfl rfl rfl rfl hb243) rfl rfl fun a291 h291 => ?_; clear h242
   refine wl_skip h291 (wanted_no h291.fr rfl rfl rfl rfl hb243) rfl rfl fun a292 h292 => ?_; clear h291
   refine wv h292 (r_pickF rfl rfl hb243 rfl) rfl rfl fun a293 h293 => ?_; clear h292
   refine wms 1 h293 rfl fun a294 h294 => ?_; clear h293
   refine wl_skip h294 (wanted_no h294.fr rfl rfl rfl rfl rfl) rfl rfl fun a295 h295 => ?_; clear h294
   refine wl_skip h295 (wanted_no h295.fr rfl rfl rfl rfl rfl) rfl rfl fun a296 h296 => ?_; clear h295
   refine wl_skip h296 (wanted_no h296.fr rfl rfl rfl rfl rfl) rfl rfl fun a297 h297 => ?_; clear h296
   refine wl_skip h297 (wanted_no h297.fr rfl rfl rfl rfl rfl) rfl rfl fun a298 h298 => ?_; clear h297
   refine wl_skip h298 (wanted_no h298.fr rfl rfl rfl rfl rfl) rfl rfl fun a299 h299 => ?_; clear h298
   refine wl_skip h299 (wanted_no h299.fr rfl rfl rfl rfl rfl) rfl rfl fun a300 h300 => ?_; clear h299
   refine wl_skip h300 (wanted_no h300.fr rfl rfl rfl rfl rfl) rfl rfl fun a301 h301 => ?_; clear h300
   refine wl_skip h301 (wanted_no h301.fr rfl rfl rfl rfl rfl) rfl rfl fun a302 h302 => ?_; clear h301
   refine wv h302 (r_pickF rfl rfl rfl rfl) rfl rfl fun a303 h303 => ?_; clear h302
   refine wpList_nil (hK237 _ _ ?_)
   have h304 : St 82 (fun _ => False) W a303 w24 [(1, o.v), (2, .pointer (some ⟨b3, 0, none⟩)), (4, .pointer (some ⟨b4, 0, none⟩)), (6, .string (kindsB x.op)), (7, vl), (8, .int .i64 (wrG x)), (9, .int .i64 ((k : Nat) : Int)), (59, .bool false)] [.own 3 (⟨vl, [y.a, y.b, y.c]⟩ : Ls Int), .blk b4 73 [.int .i64 0, .int .i64 0, .int .i64 0, .int .i64 0], .blk b3 73 [.int .i64 x.op, .int .i64 x.a, .int .i64 x.b, .int .i64 x.c], .at_ o] := h303.nrm ⟨rfl, rfl, rfl, rfl, rfl, rfl, rfl, rfl, trivial⟩ [0, 1, 2, 3] (by decide) ⟨rfl, rfl, rfl, rfl, trivial⟩
   clear h303
   refine x_condF h304 rfl rfl ?_
   refine wp_skip ?_
   refine hK31 _ _ ?_
   refine wp_region_lit ?_
   refine wms 1 h304 rfl fun a305 h305 => ?_; clear h304
   refine wv h305 (r_addN (p := k) (q := 1) rfl rfl rfl (show k + 1 < 9223372036854775808 from (by omega))) rfl rfl fun a306 h306 => ?_; clear h305
   refine wms 1 h306 rfl fun a307 h307 => ?_; clear h306
   refine wpList_nil ?_
   refine x_again ⟨_, ?_, (k + 1), y, vl, ?_, ?_, h307.nrm ⟨rfl, rfl, rfl, rfl, rfl, rfl, rfl, trivial⟩ [0, 1, 2, 3] (by decide) ⟨rfl, rfl, rfl, rfl, trivial⟩, rfl⟩
   · rw [hm24]; first | omega | (simp only [lens9]; omega)
   · omega
   · first | (exact cp_some hy (cpK_y (by rw [kAt_at (by assumption)]; first | assumption | omega) (by omega) (by omega)) (by unfold rowF; rw [if_pos (by assumption)])) | (exact cp_none hy (by unfold rowF; rw [if_neg (by assumption)])) | (exact cp_no hy (cpK_n (by rw [kAt_at (by assumption)]; first | assumption | omega))) | (exact cp_no hy (cpK_w (by omega) (by omega))) | (exact cp_no hy (cpK_c (by omega) (by omega)))
  have hp231 : ¬ (x.op = 13) := of_decide_eq_false hb231
  refine wl_skip h230 (wanted_no h230.fr rfl rfl rfl rfl hb231) rfl rfl fun a309 h309 => ?_; clear h230
  refine wl_skip h309 (wanted_no h309.fr rfl rfl rfl rfl hb231) rfl rfl fun a310 h310 => ?_; clear h309
  refine wl_val h310 (r_pickF rfl rfl hb231 rfl) (wanted_yes h310.fr rfl rfl rfl rfl rfl) rfl rfl fun a311 h311 => ?_; clear h310
  refine wv h311 (r_pickF rfl rfl rfl rfl) rfl rfl fun a312 h312 => ?_; clear h311
  refine wms 1 h312 rfl fun a313 h313 => ?_; clear h312
  refine wpList_nil (hK32 _ _ ?_)
  refine wp_seq_k fun K314 hK314 => wp_region_lit ?_
  refine wms 2 h313 rfl fun a315 h315 => ?_; clear h313
  have hx316 : k < (kindsB x.op).size := (by first | omega | (simp only [List.length_cons, List.length_nil]; omega) | (have h9 := hin2 (by omega) (cpK_y (by rw [kAt_at (by assumption)]; first | assumption | omega) (by omega) (by omega)); first | omega | (constructor <;> omega)))
  refine wv h315 (r_ixStr (s := (kindsB x.op)) (q := k) Try.underlying9 rfl rfl rfl hx316) rfl rfl fun a317 h317 => ?_; clear h315
  refine wv h317 (r_eqlI (p := (((kindsB x.op)[k]'hx316).toNat : Int)) (q := 114) rfl rfl rfl) rfl rfl fun a318 h318 => ?_; clear h317
  refine wms 1 h318 rfl fun a319 h319 => ?_; clear h318
  rcases Bool.eq_false_or_eq_true (decide ((((kindsB x.op)[k]'hx316).toNat : Int) = 114)) with hb320 | hb320
  ·
   have hp320 : (((kindsB x.op)[k]'hx316).toNat : Int) = 114 := of_decide_eq_true hb320
   refine wl_val h319 (r_move rfl rfl) (wanted_yes h319.fr rfl rfl rfl rfl hb320) rfl rfl fun a321 h321 => ?_; clear h319
   refine wl_val h321 (r_not rfl rfl) (wanted_yes h321.fr rfl rfl rfl rfl hb320) rfl rfl fun a322 h322 => ?_; clear h321
   refine wv h322 (r_pickT rfl rfl hb320 rfl) rfl rfl fun a323 h323 => ?_; clear h322
   refine wms 1 h323 rfl fun a324 h324 => ?_; clear h323
   refine wl_val h324 (r_move rfl rfl) (wanted_yes h324.fr rfl rfl rfl rfl rfl) rfl rfl fun a325 h325 => ?_; clear h324
   refine wl_val h325 (r_move rfl rfl) (wanted_yes h325.fr rfl rfl rfl rfl rfl) rfl rfl fun a326 h326 => ?_; clear h325
   refine wl_val h326 (r_move rfl rfl) (wanted_yes h326.fr rfl rfl rfl rfl rfl) rfl rfl fun a327 h327 => ?_; clear h326
   have hl328 : ([y.a, y.b, y.c]).length ≤ 140737488355328 := (h327.sh.own 0 rfl).len
   refine wl_val h327 (r_ixN (s := (⟨vl, [y.a, y.b, y.c]⟩ : Ls Int)) (q := k) sl_24 ti_3 rfl rfl rfl (fun w h => (h.own 0 rfl)) (show k < ([y.a, y.b, y.c]).length from (by first | omega | (simp only [List.length_cons, List.length_nil]; omega) | (have h9 := hin2 (by omega) (cpK_y (by rw [kAt_at (by assumption)]; first | assumption | omega) (by omega) (by omega)); first | omega | (constructor <;> omega))))) (wanted_yes h327.fr rfl rfl rfl rfl rfl) rfl rfl fun a329 h329 => ?_; clear h327
   refine wl_val h329 (r_lde (s := (⟨vl, [y.a, y.b, y.c]⟩ : Ls Int)) (i := k) (v := .int .i64 (nth ([y.a, y.b, y.c]) k)) ti_3 rfl rfl rfl (fun w h => (h.own 0 rfl)) (show k < ([y.a, y.b, y.c]).length from (by first | omega | (simp only [List.length_cons, List.length_nil]; omega) | (have h9 := hin2 (by omega) (cpK_y (by rw [kAt_at (by assumption)]; first | assumption | omega) (by omega) (by omega)); first | omega | (constructor <;> omega)))) (Nat.le_of_ble_eq_true rfl) rfl) (wanted_yes h329.fr rfl rfl rfl rfl rfl) rfl rfl fun a330 h330 => ?_; clear h329
   have hl331 : o.l.length ≤ 140737488355328 := (h330.sh.at 3 rfl).len
   refine wl_val h330 (r_ixI (s := o) (q := nth ([y.a, y.b, y.c]) k) sl_24 ti_3 rfl rfl rfl (fun w h => (h.at 3 rfl)) (show 0 ≤ nth ([y.a, y.b, y.c]) k ∧ nth ([y.a, y.b, y.c]) k < o.l.length from (by first | omega | (simp only [List.length_cons, List.length_nil]; omega) | (have h9 := hin2 (by omega) (cpK_y (by rw [kAt_at (by assumption)]; first | assumption | omega) (by omega) (by omega)); first | omega | (constructor <;> omega))))) (wanted_yes h330.fr rfl rfl rfl rfl rfl) rfl rfl fun a332 h332 => ?_; clear h330
   refine wl_val h332 (r_lde (s := o) (i := (nth ([y.a, y.b, y.c]) k).toNat) (v := .int .i64 (nth o.l ((nth ([y.a, y.b, y.c]) k).toNat))) ti_3 rfl rfl rfl (fun w h => (h.at 3 rfl)) (show (nth ([y.a, y.b, y.c]) k).toNat < o.l.length from (by first | omega | (simp only [List.length_cons, List.length_nil]; omega) | (have h9 := hin2 (by omega) (cpK_y (by rw [kAt_at (by assumption)]; first | assumption | omega) (by omega) (by omega)); first | omega | (constructor <;> omega)))) (Nat.le_of_ble_eq_true rfl) rfl) (wanted_yes h332.fr rfl rfl rfl rfl rfl) rfl rfl fun a333 h333 => ?_; clear h332
   refine wl_val h333 (r_geqI (p := nth o.l ((nth ([y.a, y.b, y.c]) k).toNat)) (q := 0) rfl rfl rfl) (wanted_yes h333.fr rfl rfl rfl rfl rfl) rfl rfl fun a334 h334 => ?_; clear h333
   refine wv h334 (r_pickT rfl rfl rfl rfl) rfl rfl fun a335 h335 => ?_; clear h334
   refine wpList_nil (hK314 _ _ ?_)
   have h336 : St 82 (fun _ => False) W a335 w24 [(1, o.v), (2, .pointer (some ⟨b3, 0, none⟩)), (4, .pointer (some ⟨b4, 0, none⟩)), (6, .string (kindsB x.op)), (7, vl), (8, .int .i64 (wrG x)), (9, .int .i64 ((k : Nat) : Int)), (59, .bool (decide (0 ≤ nth o.l ((nth ([y.a, y.b, y.c]) k).toNat))))] [.own 3 (⟨vl, [y.a, y.b, y.c]⟩ : Ls Int), .blk b4 73 [.int .i64 0, .int .i64 0, .int .i64 0, .int .i64 0], .blk b3 73 [.int .i64 x.op, .int .i64 x.a, .int .i64 x.b, .int .i64 x.c], .at_ o] := h335.nrm ⟨rfl, rfl, rfl, rfl, rfl, rfl, rfl, rfl, trivial⟩ [0, 1, 2, 3] (by decide) ⟨rfl, rfl, rfl, rfl, trivial⟩
   clear h335
   refine x_cond h336 rfl (fun hb337 => ?_) (fun hb337 => ?_)
   ·
    have hp337 : 0 ≤ nth o.l ((nth ([y.a, y.b, y.c]) k).toNat) := of_decide_eq_true hb337
    refine wp_region_lit ?_
    refine wms 5 h336 rfl fun a338 h338 => ?_; clear h336
    refine wv h338 (r_ixN (s := (⟨vl, [y.a, y.b, y.c]⟩ : Ls Int)) (q := k) sl_24 ti_3 rfl rfl rfl (fun w h => (h.own 0 rfl)) (show k < ([y.a, y.b, y.c]).length from (by first | omega | (simp only [List.length_cons, List.length_nil]; omega) | (have h9 := hin2 (by omega) (cpK_y (by rw [kAt_at (by assumption)]; first | assumption | omega) (by omega) (by omega)); first | omega | (constructor <;> omega))))) rfl rfl fun a339 h339 => ?_; clear h338
    refine wv h339 (r_lde (s := (⟨vl, [y.a, y.b, y.c]⟩ : Ls Int)) (i := k) (v := .int .i64 (nth ([y.a, y.b, y.c]) k)) ti_3 rfl rfl rfl (fun w h => (h.own 0 rfl)) (show k < ([y.a, y.b, y.c]).length from (by first | omega | (simp only [List.length_cons, List.length_nil]; omega) | (have h9 := hin2 (by omega) (cpK_y (by rw [kAt_at (by assumption)]; first | assumption | omega) (by omega) (by omega)); first | omega | (constructor <;> omega)))) (Nat.le_of_ble_eq_true rfl) rfl) rfl rfl fun a340 h340 => ?_; clear h339
    refine wv h340 (r_ixI (s := o) (q := nth ([y.a, y.b, y.c]) k) sl_24 ti_3 rfl rfl rfl (fun w h => (h.at 3 rfl)) (show 0 ≤ nth ([y.a, y.b, y.c]) k ∧ nth ([y.a, y.b, y.c]) k < o.l.length from (by first | omega | (simp only [List.length_cons, List.length_nil]; omega) | (have h9 := hin2 (by omega) (cpK_y (by rw [kAt_at (by assumption)]; first | assumption | omega) (by omega) (by omega)); first | omega | (constructor <;> omega))))) rfl rfl fun a341 h341 => ?_; clear h340
    refine wv h341 (r_lde (s := o) (i := (nth ([y.a, y.b, y.c]) k).toNat) (v := .int .i64 (nth o.l ((nth ([y.a, y.b, y.c]) k).toNat))) ti_3 rfl rfl rfl (fun w h => (h.at 3 rfl)) (show (nth ([y.a, y.b, y.c]) k).toNat < o.l.length from (by first | omega | (simp only [List.length_cons, List.length_nil]; omega) | (have h9 := hin2 (by omega) (cpK_y (by rw [kAt_at (by assumption)]; first | assumption | omega) (by omega) (by omega)); first | omega | (constructor <;> omega)))) (Nat.le_of_ble_eq_true rfl) rfl) rfl rfl fun a342 h342 => ?_; clear h341
    refine wv h342 (r_ixN (s := (⟨vl, [y.a, y.b, y.c]⟩ : Ls Int)) (q := k) sl_24 ti_3 rfl rfl rfl (fun w h => (h.own 0 rfl)) (show k < ([y.a, y.b, y.c]).length from (by first | omega | (simp only [List.length_cons, List.length_nil]; omega) | (have h9 := hin2 (by omega) (cpK_y (by rw [kAt_at (by assumption)]; first | assumption | omega) (by omega) (by omega)); first | omega | (constructor <;> omega))))) rfl rfl fun a343 h343 => ?_; clear h342
    refine wl_ex (x_ste (r := 0) (i := k) (j := 0) (x' := (nth o.l ((nth ([y.a, y.b, y.c]) k).toNat) : Int)) h343 ti_3 rfl rfl rfl rfl rfl (show k < ([y.a, y.b, y.c]).length from (by first | omega | (simp only [lens9]; omega))) (Nat.le_of_ble_eq_true rfl) rfl rfl rfl (by intro q hq; obtain rfl : q = 0 := (by omega); rfl) (fun w h => Flat.inner _ _) (fun b hb => (Flat.on _ _ hb).elim)) (wanted_none rfl _) ?_
    rintro a344 w344 h344
    clear h343
    refine wpList_nil (hK31 _ _ ?_)
    refine wp_region_lit ?_
    refine wms 1 h344 rfl fun a345 h345 => ?_; clear h344
    refine wv h345 (r_addN (p := k) (q := 1) rfl rfl rfl (show k + 1 < 9223372036854775808 from (by omega))) rfl rfl fun a346 h346 => ?_; clear h345
    refine wms 1 h346 rfl fun a347 h347 => ?_; clear h346
    refine wpList_nil ?_
    have h348 := h347.relist (i := 0) (l' := [(putK y k (nth o.l (nth [y.a, y.b, y.c] k).toNat)).a, (putK y k (nth o.l (nth [y.a, y.b, y.c] k).toNat)).b, (putK y k (nth o.l (nth [y.a, y.b, y.c] k).toNat)).c]) rfl (set_putK (x := y) _ (by omega))
    clear h347
    refine x_again ⟨_, ?_, (k + 1), (putK y k (nth o.l (nth [y.a, y.b, y.c] k).toNat)), vl, ?_, ?_, h348.nrm ⟨rfl, rfl, rfl, rfl, rfl, rfl, rfl, trivial⟩ [0, 1, 2, 3] (by decide) ⟨rfl, rfl, rfl, rfl, trivial⟩, rfl⟩
    · rw [hm24]; first | omega | (simp only [lens9]; omega)
    · omega
    · first | (exact cp_some hy (cpK_y (by rw [kAt_at (by assumption)]; first | assumption | omega) (by omega) (by omega)) (by unfold rowF; rw [if_pos (by assumption)])) | (exact cp_none hy (by unfold rowF; rw [if_neg (by assumption)])) | (exact cp_no hy (cpK_n (by rw [kAt_at (by assumption)]; first | assumption | omega))) | (exact cp_no hy (cpK_w (by omega) (by omega))) | (exact cp_no hy (cpK_c (by omega) (by omega)))
   have hp337 : ¬ (0 ≤ nth o.l ((nth ([y.a, y.b, y.c]) k).toNat)) := of_decide_eq_false hb337
   refine wp_skip ?_
   refine hK31 _ _ ?_
   refine wp_region_lit ?_
   refine wms 1 h336 rfl fun a349 h349 => ?_; clear h336
   refine wv h349 (r_addN (p := k) (q := 1) rfl rfl rfl (show k + 1 < 9223372036854775808 from (by omega))) rfl rfl fun a350 h350 => ?_; clear h349
   refine wms 1 h350 rfl fun a351 h351 => ?_; clear h350
   refine wpList_nil ?_
   refine x_again ⟨_, ?_, (k + 1), y, vl, ?_, ?_, h351.nrm ⟨rfl, rfl, rfl, rfl, rfl, rfl, rfl, trivial⟩ [0, 1, 2, 3] (by decide) ⟨rfl, rfl, rfl, rfl, trivial⟩, rfl⟩
   · rw [hm24]; first | omega | (simp only [lens9]; omega)
   · omega
   · first | (exact cp_some hy (cpK_y (by rw [kAt_at (by assumption)]; first | assumption | omega) (by omega) (by omega)) (by unfold rowF; rw [if_pos (by assumption)])) | (exact cp_none hy (by unfold rowF; rw [if_neg (by assumption)])) | (exact cp_no hy (cpK_n (by rw [kAt_at (by assumption)]; first | assumption | omega))) | (exact cp_no hy (cpK_w (by omega) (by omega))) | (exact cp_no hy (cpK_c (by omega) (by omega)))
  have hp320 : ¬ ((((kindsB x.op)[k]'hx316).toNat : Int) = 114) := of_decide_eq_false hb320
  refine wl_skip h319 (wanted_no h319.fr rfl rfl rfl rfl hb320) rfl rfl fun a353 h353 => ?_; clear h319
  refine wl_skip h353 (wanted_no h353.fr rfl rfl rfl rfl hb320) rfl rfl fun a354 h354 => ?_; clear h353
  refine wv h354 (r_pickF rfl rfl hb320 rfl) rfl rfl fun a355 h355 => ?_; clear h354
  refine wms 1 h355 rfl fun a356 h356 => ?_; clear h355
  refine wl_skip h356 (wanted_no h356.fr rfl rfl rfl rfl rfl) rfl rfl fun a357 h357 => ?_; clear h356
  refine wl_skip h357 (wanted_no h357.fr rfl rfl rfl rfl rfl) rfl rfl fun a358 h358 => ?_; clear h357
  refine wl_skip h358 (wanted_no h358.fr rfl rfl rfl rfl rfl) rfl rfl fun a359 h359 => ?_; clear h358
  refine wl_skip h359 (wanted_no h359.fr rfl rfl rfl rfl rfl) rfl rfl fun a360 h360 => ?_; clear h359
  refine wl_skip h360 (wanted_no h360.fr rfl rfl rfl rfl rfl) rfl rfl fun a361 h361 => ?_; clear h360
  refine wl_skip h361 (wanted_no h361.fr rfl rfl rfl rfl rfl) rfl rfl fun a362 h362 => ?_; clear h361
  refine wl_skip h362 (wanted_no h362.fr rfl rfl rfl rfl rfl) rfl rfl fun a363 h363 => ?_; clear h362
  refine wl_skip h363 (wanted_no h363.fr rfl rfl rfl rfl rfl) rfl rfl fun a364 h364 => ?_; clear h363
  refine wv h364 (r_pickF rfl rfl rfl rfl) rfl rfl fun a365 h365 => ?_; clear h364
  refine wpList_nil (hK314 _ _ ?_)
  have h366 : St 82 (fun _ => False) W a365 w24 [(1, o.v), (2, .pointer (some ⟨b3, 0, none⟩)), (4, .pointer (some ⟨b4, 0, none⟩)), (6, .string (kindsB x.op)), (7, vl), (8, .int .i64 (wrG x)), (9, .int .i64 ((k : Nat) : Int)), (59, .bool false)] [.own 3 (⟨vl, [y.a, y.b, y.c]⟩ : Ls Int), .blk b4 73 [.int .i64 0, .int .i64 0, .int .i64 0, .int .i64 0], .blk b3 73 [.int .i64 x.op, .int .i64 x.a, .int .i64 x.b, .int .i64 x.c], .at_ o] := h365.nrm ⟨rfl, rfl, rfl, rfl, rfl, rfl, rfl, rfl, trivial⟩ [0, 1, 2, 3] (by decide) ⟨rfl, rfl, rfl, rfl, trivial⟩
  clear h365
  refine x_condF h366 rfl rfl ?_
  refine wp_skip ?_
  refine hK31 _ _ ?_
  refine wp_region_lit ?_
  refine wms 1 h366 rfl fun a367 h367 => ?_; clear h366
  refine wv h367 (r_addN (p := k) (q := 1) rfl rfl rfl (show k + 1 < 9223372036854775808 from (by omega))) rfl rfl fun a368 h368 => ?_; clear h367
  refine wms 1 h368 rfl fun a369 h369 => ?_; clear h368
  refine wpList_nil ?_
  refine x_again ⟨_, ?_, (k + 1), y, vl, ?_, ?_, h369.nrm ⟨rfl, rfl, rfl, rfl, rfl, rfl, rfl, trivial⟩ [0, 1, 2, 3] (by decide) ⟨rfl, rfl, rfl, rfl, trivial⟩, rfl⟩
  · rw [hm24]; first | omega | (simp only [lens9]; omega)
  · omega
  · first | (exact cp_some hy (cpK_y (by rw [kAt_at (by assumption)]; first | assumption | omega) (by omega) (by omega)) (by unfold rowF; rw [if_pos (by assumption)])) | (exact cp_none hy (by unfold rowF; rw [if_neg (by assumption)])) | (exact cp_no hy (cpK_n (by rw [kAt_at (by assumption)]; first | assumption | omega))) | (exact cp_no hy (cpK_w (by omega) (by omega))) | (exact cp_no hy (cpK_c (by omega) (by omega)))
 have hp30 : ¬ (k < (kindsB x.op).size) := of_decide_eq_false hb30
 refine wp_exit ?_
 refine hK21 _ _ ?_
 refine wp_seq_k fun K371 hK371 => ?_
 refine x_tail 12 [] (by kernel_rfl) (by kernel_rfl) h29 fun Z372 hZ372 => ?_
 have hq372 := h29.fr
 refine wq_val hq372 (r_fieldB (r := 0) fl_73_0 rfl rfl rfl) (wanted_none rfl _) rfl rfl fun a373 hq373 => ?_; clear hq372
 refine wq_val hq373 (r_ldb (i := 2) ti_3 rfl rfl rfl rfl) (wanted_none rfl _) rfl rfl fun a374 hq374 => ?_; clear hq373
 refine wq_val hq374 (r_move rfl rfl) (wanted_none rfl _) rfl rfl fun a375 hq375 => ?_; clear hq374
 have hl376 : ([y.a, y.b, y.c]).length ≤ 140737488355328 := (h29.sh.own 0 rfl).len
 refine wq_val hq375 (r_ixN (s := (⟨vl, [y.a, y.b, y.c]⟩ : Ls Int)) (q := 0) sl_24 ti_3 rfl rfl rfl (fun w h => (h.own 0 rfl)) (show 0 < ([y.a, y.b, y.c]).length from (by first | omega | (simp only [lens9]; omega)))) (wanted_none rfl _) rfl rfl fun a377 hq377 => ?_; clear hq375
 refine wq_val hq377 (r_lde (s := (⟨vl, [y.a, y.b, y.c]⟩ : Ls Int)) (i := 0) (v := .int .i64 (nth ([y.a, y.b, y.c]) 0)) ti_3 rfl rfl rfl (fun w h => (h.own 0 rfl)) (show 0 < ([y.a, y.b, y.c]).length from (by first | omega | (simp only [lens9]; omega))) (Nat.le_of_ble_eq_true rfl) rfl) (wanted_none rfl _) rfl rfl fun a378 hq378 => ?_; clear hq377
 refine wq_val hq378 (r_move rfl rfl) (wanted_none rfl _) rfl rfl fun a379 hq379 => ?_; clear hq378
 refine wq_val hq379 (r_ixN (s := (⟨vl, [y.a, y.b, y.c]⟩ : Ls Int)) (q := 1) sl_24 ti_3 rfl rfl rfl (fun w h => (h.own 0 rfl)) (show 1 < ([y.a, y.b, y.c]).length from (by first | omega | (simp only [lens9]; omega)))) (wanted_none rfl _) rfl rfl fun a380 hq380 => ?_; clear hq379
 refine wq_val hq380 (r_lde (s := (⟨vl, [y.a, y.b, y.c]⟩ : Ls Int)) (i := 1) (v := .int .i64 (nth ([y.a, y.b, y.c]) 1)) ti_3 rfl rfl rfl (fun w h => (h.own 0 rfl)) (show 1 < ([y.a, y.b, y.c]).length from (by first | omega | (simp only [lens9]; omega))) (Nat.le_of_ble_eq_true rfl) rfl) (wanted_none rfl _) rfl rfl fun a381 hq381 => ?_; clear hq380
 refine wq_val hq381 (r_move rfl rfl) (wanted_none rfl _) rfl rfl fun a382 hq382 => ?_; clear hq381
 refine wq_val hq382 (r_ixN (s := (⟨vl, [y.a, y.b, y.c]⟩ : Ls Int)) (q := 2) sl_24 ti_3 rfl rfl rfl (fun w h => (h.own 0 rfl)) (show 2 < ([y.a, y.b, y.c]).length from (by first | omega | (simp only [lens9]; omega)))) (wanted_none rfl _) rfl rfl fun a383 hq383 => ?_; clear hq382
 refine wq_val hq383 (r_lde (s := (⟨vl, [y.a, y.b, y.c]⟩ : Ls Int)) (i := 2) (v := .int .i64 (nth ([y.a, y.b, y.c]) 2)) ti_3 rfl rfl rfl (fun w h => (h.own 0 rfl)) (show 2 < ([y.a, y.b, y.c]).length from (by first | omega | (simp only [lens9]; omega))) (Nat.le_of_ble_eq_true rfl) rfl) (wanted_none rfl _) rfl rfl fun a384 hq384 => ?_; clear hq383
 refine wq_val hq384 (r_build (cs := [.int .i64 x.op, .int .i64 (nth ([y.a, y.b, y.c]) 0), .int .i64 (nth ([y.a, y.b, y.c]) 1), .int .i64 (nth ([y.a, y.b, y.c]) 2)]) rfl rfl (by kernel_rfl)) (wanted_none rfl _) rfl rfl fun a385 hq385 => ?_; clear hq384
 refine wpQuiet_nil (hZ372 _ fun w386 hw386 => ?_)
 have h386 : St 82 (fun _ => False) W a385 w386 _ _ := ⟨hq385, hw386⟩
 clear hq385 hw386 h29
 refine wl_ex (x_stb (i := 1) (vs := [.int .i64 x.op, .int .i64 (nth ([y.a, y.b, y.c]) 0), .int .i64 (nth ([y.a, y.b, y.c]) 1), .int .i64 (nth ([y.a, y.b, y.c]) 2)]) (cs' := [.int .i64 x.op, .int .i64 (nth ([y.a, y.b, y.c]) 0), .int .i64 (nth ([y.a, y.b, y.c]) 1), .int .i64 (nth ([y.a, y.b, y.c]) 2)]) h386 ti_73 rfl rfl rfl rfl rfl rfl rfl (allOne_cons rfl (allOne_cons rfl (allOne_cons rfl (allOne_cons rfl allOne_nil)))) (Nat.le_of_ble_eq_true rfl) rfl) (wanted_none rfl _) ?_
 rintro a387 w387 h387
 clear h386
 refine wpList_nil (hK371 _ _ ?_)
 refine wp_ret ?_
 try simp only [Exit.then, Exit.inBlock]
 refine x_ret1c (fn := Try.f89) (t := 4) (i := 1) ti_73 rfl h387 rfl rfl rfl ?_
 have he : k = (kindsB x.op).size := by omega
 rw [he] at hy
 refine ⟨?_, (h387.sh.sel [] (by decide) trivial)⟩
 rw [show copyIns _ x = y from hy.symm, hyo]
 rfl

end Go.Proofs.Ytanhbpofhebbaaa
