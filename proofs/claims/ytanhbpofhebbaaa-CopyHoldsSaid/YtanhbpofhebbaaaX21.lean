/-
  Contracts of functions of this program and of the references, each walked once.
-/
import Derived.Test.YtanhbpofhebbaaaX20
namespace Go.Proofs.Ytanhbpofhebbaaa
open Go.RowKit
set_option linter.unusedSimpArgs false
set_option linter.unusedVariables false


def sumStep (h : Nat) (x : Int) : Nat := ((h ^^^ toU x) * 1099511628211 % 18446744073709551616) ^^^ (((h ^^^ toU x) * 1099511628211 % 18446744073709551616) / 2 ^ 29)
def sumL (l : List Int) : Nat := l.foldl sumStep (toU (l.length : Int)) % 4096
theorem sumL_lt (l : List Int) : sumL l < 4096 := Nat.mod_lt _ (by decide)
/-- The order of lists. -/
def lessB : List Int → List Int → Bool
  | a :: l, b :: m => if a = b then lessB l m else decide (a < b)
  | l, m => decide (l.length < m.length)
theorem lessB_ne : ∀ {l m : List Int} (i : Nat), i < l.length → i < m.length → (∀ j, j < i → nth l j = nth m j) → nth l i ≠ nth m i → lessB l m = decide (nth l i < nth m i)
  | a :: l, b :: m, 0, _, _, _, h => by
    have h' : a ≠ b := h
    unfold lessB; rw [if_neg h']; rfl
  | a :: l, b :: m, i + 1, hl, hm, hall, h => by
    have h0 : a = b := hall 0 (by omega)
    unfold lessB; rw [if_pos h0]
    exact lessB_ne i (by simpa using hl) (by simpa using hm) (fun j hj => hall (j + 1) (by omega)) h
theorem lessB_end : ∀ {l m : List Int} (i : Nat), i ≤ l.length → i ≤ m.length → (i = l.length ∨ i = m.length) → (∀ j, j < i → nth l j = nth m j) → lessB l m = decide (l.length < m.length)
  | [], m, i, _, _, _, _ => by unfold lessB; rfl
  | a :: l, [], i, _, _, _, _ => by unfold lessB; rfl
  | a :: l, b :: m, 0, _, _, h, _ => by simp at h
  | a :: l, b :: m, i + 1, hl, hm, he, hall => by
    have h0 : a = b := hall 0 (by omega)
    have ih := lessB_end (l := l) (m := m) i (by simpa using hl) (by simpa using hm) (by simpa using he) (fun j hj => hall (j + 1) (by omega))
    unfold lessB; rw [if_pos h0, ih]; simp
/-- The order of outcomes. -/
def aheadB (a b : Outc) : Bool := if a.st = b.st then (if a.words = b.words then lessB a.prints b.prints else lessB a.words b.words) else decide (a.st < b.st)

theorem sameOut {l m : List OutL} (hl : l.length = m.length) (h : ∀ i, i < l.length → (nth l i).out = (nth m i).out) : l.map OutL.out = m.map OutL.out := by
  refine ext_nth _ _ (by simpa using hl) fun i hi => ?_
  have hi' : i < l.length := by simpa using hi
  rw [nth_map' _ _ _ hi', nth_map' _ _ _ (by omega)]
  exact h i hi'
theorem sameAt {l m : List OutL} (h : l.map OutL.out = m.map OutL.out) (i : Nat) (hi : i < l.length) : (nth l i).out = (nth m i).out := by
  have hl : l.length = m.length := by simpa using congrArg List.length h
  have := congrArg (fun q => nth q i) h
  rwa [nth_map' _ _ _ hi, nth_map' _ _ _ (by omega)] at this
theorem LsNil {α : Type} [Enc α] (w : World) : (⟨.slice none 0 0, []⟩ : Ls α).At w := own_at (E := 0) (World.ownsRow_nil w 0 0 _ |> fun h => ⟨h, by simp, fun i hi => absurd hi (by simp)⟩)

set_option maxRecDepth 100000 in
set_option maxHeartbeats 1000000 in
theorem sum_c (x : Ls Int) (W : World) (hx : x.At W) :
    Rets Try.prog 118 [x.v] W (fun v w' => v = .int .i64 ((sumL x.l : Nat) : Int) ∧ Sh0 W w' []) := by
 refine x_enter (N := 29) Try.func118 rfl Try.ntmps118 (Nat.le_of_ble_eq_true rfl) fun a1 hf1 => ?_
 have h1 : St 29 (fun _ => False) W a1 W [(0, x.v)] [.at_ x] := ⟨hf1.sub ⟨rfl, trivial⟩, Sh0.ext1 hx⟩
 clear hf1
 refine wp_seq_k fun K2 hK2 => wp_region_lit ?_
 refine wms 1 h1 rfl fun a3 h3 => ?_; clear h1
 refine wpList_nil (hK2 _ _ ?_)
 refine wp_seq_k fun K4 hK4 => wp_region_lit ?_
 refine wms 1 h3 rfl fun a5 h5 => ?_; clear h3
 have hl6 : x.l.length ≤ 140737488355328 := (h5.sh.at 0 rfl).len
 refine wv h5 (r_len (s := x) (n := x.l.length) sl_24 rfl rfl (fun w h => (h.at 0 rfl)) rfl) rfl rfl fun a7 h7 => ?_; clear h5
 refine wv h7 (r_cvU Try.underlying3 Try.underlying156 rfl rfl) rfl rfl fun a8 h8 => ?_; clear h7
 refine wms 1 h8 rfl fun a9 h9 => ?_; clear h8
 refine wpList_nil (hK4 _ _ ?_)
 refine wp_seq_k fun K10 hK10 => ?_
 refine wp_seq_k fun K11 hK11 => wp_region_lit ?_
 refine wms 1 h9 rfl fun a12 h12 => ?_; clear h9
 refine wpList_nil (hK11 _ _ ?_)
 refine wp_block ?_
 refine x_loop (fun m a w => ∃ (i hh : Nat), (i ≤ x.l.length) ∧ (hh < 18446744073709551616) ∧ (hh = (x.l.take i).foldl sumStep (toU (x.l.length : Int))) ∧ St 29 (fun _ => False) W a w [(0, x.v), (3, .int .u64 ((hh : Nat) : Int)), (4, .int .i64 ((i : Nat) : Int))] [.at_ x] ∧ m = x.l.length - i) ⟨_, 0, toU ((x.l.length : Nat) : Int), (by omega), (toU_lt _), (rfl), h12.nrm ⟨rfl, rfl, rfl, trivial⟩ [0] (by decide) ⟨rfl, trivial⟩, rfl⟩ ?_
 clear h12
 rintro m13 a13 w13 ⟨i, hh, hi, hlt, hh2, h13, hm13⟩
 refine wp_seq_k fun K14 hK14 => ?_
 refine wp_seq_k fun K15 hK15 => wp_region_lit ?_
 refine wms 2 h13 rfl fun a16 h16 => ?_; clear h13
 refine wv h16 (r_len (s := x) (n := x.l.length) sl_24 rfl rfl (fun w h => (h.at 0 rfl)) rfl) rfl rfl fun a17 h17 => ?_; clear h16
 refine wv h17 (r_lssN (p := i) (q := x.l.length) rfl rfl rfl) rfl rfl fun a18 h18 => ?_; clear h17
 refine wpList_nil (hK15 _ _ ?_)
 refine x_cond h18 rfl (fun hb19 => ?_) (fun hb19 => ?_)
 ·
  have hp19 : i < x.l.length := of_decide_eq_true hb19
  refine wp_skip ?_
  refine hK14 _ _ ?_
  refine wp_seq_k fun K20 hK20 => ?_
  refine wp_block ?_
  refine wp_seq_k fun K21 hK21 => wp_region_lit ?_
  refine wms 3 h18 rfl fun a22 h22 => ?_; clear h18
  refine wv h22 (r_ixN (s := x) (q := i) sl_24 ti_3 rfl rfl rfl (fun w h => (h.at 0 rfl)) (show i < x.l.length from (by omega))) rfl rfl fun a23 h23 => ?_; clear h22
  refine wv h23 (r_lde (s := x) (i := i) (v := .int .i64 (nth x.l i)) ti_3 rfl rfl rfl (fun w h => (h.at 0 rfl)) (show i < x.l.length from (by omega)) (Nat.le_of_ble_eq_true rfl) rfl) rfl rfl fun a24 h24 => ?_; clear h23
  refine wv h24 (r_cvU Try.underlying3 Try.underlying156 rfl rfl) rfl rfl fun a25 h25 => ?_; clear h24
  refine wv h25 (r_xorU (p := hh) (q := toU (nth x.l i)) rfl rfl rfl ⟨(by first | assumption | exact toU_lt _ | omega), (by first | assumption | exact toU_lt _ | omega)⟩) rfl rfl fun a26 h26 => ?_; clear h25
  refine wv h26 (r_mulU (p := hh ^^^ (toU (nth x.l i))) (q := 1099511628211) rfl rfl rfl) rfl rfl fun a27 h27 => ?_; clear h26
  refine wms 1 h27 rfl fun a28 h28 => ?_; clear h27
  refine wpList_nil (hK21 _ _ ?_)
  refine wp_region_lit ?_
  refine wms 2 h28 rfl fun a29 h29 => ?_; clear h28
  refine wv h29 (r_shrU (p := (hh ^^^ (toU (nth x.l i))) * 1099511628211 % 18446744073709551616) (k := 29) rfl rfl rfl (by decide)) rfl rfl fun a30 h30 => ?_; clear h29
  refine wv h30 (r_xorU (p := (hh ^^^ (toU (nth x.l i))) * 1099511628211 % 18446744073709551616) (q := ((hh ^^^ (toU (nth x.l i))) * 1099511628211 % 18446744073709551616) / 2 ^ 29) rfl rfl rfl ⟨(by first | assumption | exact toU_lt _ | omega), (by first | assumption | exact toU_lt _ | omega)⟩) rfl rfl fun a31 h31 => ?_; clear h30
  refine wms 1 h31 rfl fun a32 h32 => ?_; clear h31
  refine wpList_nil (hK20 _ _ ?_)
  refine wp_region_lit ?_
  refine wms 1 h32 rfl fun a33 h33 => ?_; clear h32
  refine wv h33 (r_addN (p := i) (q := 1) rfl rfl rfl (show i + 1 < 9223372036854775808 from (by omega))) rfl rfl fun a34 h34 => ?_; clear h33
  refine wms 1 h34 rfl fun a35 h35 => ?_; clear h34
  refine wpList_nil ?_
  refine x_again ⟨_, ?_, i + 1, ((hh ^^^ (toU (nth x.l i))) * 1099511628211 % 18446744073709551616) ^^^ (((hh ^^^ (toU (nth x.l i))) * 1099511628211 % 18446744073709551616) / 2 ^ 29), ?_, ?_, ?_, h35.nrm ⟨rfl, rfl, rfl, trivial⟩ [0] (by decide) ⟨rfl, trivial⟩, rfl⟩
  · rw [hm13]; first | omega | (simp only [lens9]; omega)
  · omega
  · exact xor_lt64 (by omega) (by omega)
  · rw [take_succ_nth _ _ (by omega), List.foldl_append, ← hh2, List.foldl_cons, List.foldl_nil, sumStep]
 have hp19 : ¬ (i < x.l.length) := of_decide_eq_false hb19
 refine wp_exit ?_
 refine hK10 _ _ ?_
 refine wp_seq_k fun K36 hK36 => wp_region_lit ?_
 refine wms 1 h18 rfl fun a37 h37 => ?_; clear h18
 refine wv h37 (r_remU (p := hh) (q := 4096) rfl rfl rfl (by decide)) rfl rfl fun a38 h38 => ?_; clear h37
 refine wv h38 (r_cvI Try.underlying156 Try.underlying3 rfl rfl (show hh % 4096 < 9223372036854775808 from (by omega))) rfl rfl fun a39 h39 => ?_; clear h38
 refine wms 1 h39 rfl fun a40 h40 => ?_; clear h39
 refine wpList_nil (hK36 _ _ ?_)
 refine wp_ret ?_
 try simp only [Exit.then, Exit.inBlock]
 refine x_ret1 (fn := Try.f118) (t := 2) rfl h40 rfl ?_
 refine ⟨?_, (h40.sh.sel [] (by decide) trivial)⟩
 rw [show hh % 4096 = sumL x.l by rw [sumL, hh2, show i = x.l.length by omega, List.take_length]]

set_option maxRecDepth 100000 in
set_option maxHeartbeats 1000000 in
theorem less_c (x y : Ls Int) (W : World) (hx : x.At W) (hy : y.At W) :
    Rets Try.prog 107 [x.v, y.v] W (fun v w' => v = .bool (lessB x.l y.l) ∧ Sh0 W w' []) := by
 refine x_enter (N := 41) Try.func107 rfl Try.ntmps107 (Nat.le_of_ble_eq_true rfl) fun a1 hf1 => ?_
 have h1 : St 41 (fun _ => False) W a1 W [(0, x.v), (1, y.v)] [.at_ x, .at_ y] := ⟨hf1.sub ⟨rfl, rfl, trivial⟩, Sh0.ext2 hx hy⟩
 clear hf1
 refine wp_seq_k fun K2 hK2 => wp_region_lit ?_
 refine wms 1 h1 rfl fun a3 h3 => ?_; clear h1
 refine wpList_nil (hK2 _ _ ?_)
 refine wp_seq_k fun K4 hK4 => ?_
 refine wp_seq_k fun K5 hK5 => wp_region_lit ?_
 refine wms 1 h3 rfl fun a6 h6 => ?_; clear h3
 refine wpList_nil (hK5 _ _ ?_)
 refine wp_block ?_
 refine x_loop (fun m a w => ∃ (i : Nat), (i ≤ x.l.length ∧ i ≤ y.l.length) ∧ (∀ j, j < i → nth x.l j = nth y.l j) ∧ St 41 (fun _ => False) W a w [(0, x.v), (1, y.v), (5, .int .i64 ((i : Nat) : Int))] [.at_ x, .at_ y] ∧ m = x.l.length - i) ⟨_, 0, (by omega), (fun j hj => absurd hj (by omega)), h6.nrm ⟨rfl, rfl, rfl, trivial⟩ [0, 1] (by decide) ⟨rfl, rfl, trivial⟩, rfl⟩ ?_
 clear h6
 rintro m7 a7 w7 ⟨i, hi, hall, h7, hm7⟩
 refine wp_seq_k fun K8 hK8 => ?_
 refine wp_seq_k fun K9 hK9 => wp_region_lit ?_
 refine wms 2 h7 rfl fun a10 h10 => ?_; clear h7
 have hl11 : x.l.length ≤ 140737488355328 := (h10.sh.at 0 rfl).len
 refine wv h10 (r_len (s := x) (n := x.l.length) sl_24 rfl rfl (fun w h => (h.at 0 rfl)) rfl) rfl rfl fun a12 h12 => ?_; clear h10
 refine wv h12 (r_lssN (p := i) (q := x.l.length) rfl rfl rfl) rfl rfl fun a13 h13 => ?_; clear h12
 refine wms 1 h13 rfl fun a14 h14 => ?_; clear h13
 rcases Bool.eq_false_or_eq_true (decide (i < x.l.length)) with hb15 | hb15
 ·
  have hp15 : i < x.l.length := of_decide_eq_true hb15
  refine wl_val h14 (r_move rfl rfl) (wanted_yes h14.fr rfl rfl rfl rfl hb15) rfl rfl fun a16 h16 => ?_; clear h14
  refine wl_val h16 (r_move rfl rfl) (wanted_yes h16.fr rfl rfl rfl rfl hb15) rfl rfl fun a17 h17 => ?_; clear h16
  have hl18 : y.l.length ≤ 140737488355328 := (h17.sh.at 1 rfl).len
  refine wl_val h17 (r_len (s := y) (n := y.l.length) sl_24 rfl rfl (fun w h => (h.at 1 rfl)) rfl) (wanted_yes h17.fr rfl rfl rfl rfl hb15) rfl rfl fun a19 h19 => ?_; clear h17
  refine wl_val h19 (r_lssN (p := i) (q := y.l.length) rfl rfl rfl) (wanted_yes h19.fr rfl rfl rfl rfl hb15) rfl rfl fun a20 h20 => ?_; clear h19
  refine wv h20 (r_pickT rfl rfl hb15 rfl) rfl rfl fun a21 h21 => ?_; clear h20
  refine wpList_nil (hK9 _ _ ?_)
  refine x_cond h21 rfl (fun hb22 => ?_) (fun hb22 => ?_)
  ·
   have hp22 : i < y.l.length := of_decide_eq_true hb22
   refine wp_skip ?_
   refine hK8 _ _ ?_
   refine wp_seq_k fun K23 hK23 => ?_
   refine wp_block ?_
   refine wp_seq_k fun K24 hK24 => ?_
   refine x_quiet (by kernel_rfl) (by kernel_rfl) h21 fun Z25 hZ25 => ?_
   have hq25 := h21.fr
   refine wq_val hq25 (r_move rfl rfl) (wanted_none rfl _) rfl rfl fun a26 hq26 => ?_; clear hq25
   refine wq_val hq26 (r_move rfl rfl) (wanted_none rfl _) rfl rfl fun a27 hq27 => ?_; clear hq26
   refine wq_val hq27 (r_ixN (s := x) (q := i) sl_24 ti_3 rfl rfl rfl (fun w h => (h.at 0 rfl)) (show i < x.l.length from (by omega))) (wanted_none rfl _) rfl rfl fun a28 hq28 => ?_; clear hq27
   refine wq_val hq28 (r_lde (s := x) (i := i) (v := .int .i64 (nth x.l i)) ti_3 rfl rfl rfl (fun w h => (h.at 0 rfl)) (show i < x.l.length from (by omega)) (Nat.le_of_ble_eq_true rfl) rfl) (wanted_none rfl _) rfl rfl fun a29 hq29 => ?_; clear hq28
   refine wq_val hq29 (r_move rfl rfl) (wanted_none rfl _) rfl rfl fun a30 hq30 => ?_; clear hq29
   refine wq_val hq30 (r_move rfl rfl) (wanted_none rfl _) rfl rfl fun a31 hq31 => ?_; clear hq30
   refine wq_val hq31 (r_ixN (s := y) (q := i) sl_24 ti_3 rfl rfl rfl (fun w h => (h.at 1 rfl)) (show i < y.l.length from (by omega))) (wanted_none rfl _) rfl rfl fun a32 hq32 => ?_; clear hq31
   refine wq_val hq32 (r_lde (s := y) (i := i) (v := .int .i64 (nth y.l i)) ti_3 rfl rfl rfl (fun w h => (h.at 1 rfl)) (show i < y.l.length from (by omega)) (Nat.le_of_ble_eq_true rfl) rfl) (wanted_none rfl _) rfl rfl fun a33 hq33 => ?_; clear hq32
   refine wq_val hq33 (r_neqI (p := nth x.l i) (q := nth y.l i) rfl rfl rfl) (wanted_none rfl _) rfl rfl fun a34 hq34 => ?_; clear hq33
   refine wpQuiet_nil (hZ25 _ fun w35 hw35 => ?_)
   have h35 : St 41 (fun _ => False) W a34 w35 _ _ := ⟨hq34, hw35⟩
   clear hq34 hw35 h21
   refine hK24 _ _ ?_
   refine x_cond h35 rfl (fun hb36 => ?_) (fun hb36 => ?_)
   ·
    have hp36 : nth x.l i ≠ nth y.l i := of_decide_eq_true hb36
    refine wp_seq_k fun K37 hK37 => ?_
    refine x_quiet (by kernel_rfl) (by kernel_rfl) h35 fun Z38 hZ38 => ?_
    have hq38 := h35.fr
    refine wq_val hq38 (r_move rfl rfl) (wanted_none rfl _) rfl rfl fun a39 hq39 => ?_; clear hq38
    refine wq_val hq39 (r_move rfl rfl) (wanted_none rfl _) rfl rfl fun a40 hq40 => ?_; clear hq39
    refine wq_val hq40 (r_ixN (s := x) (q := i) sl_24 ti_3 rfl rfl rfl (fun w h => (h.at 0 rfl)) (show i < x.l.length from (by omega))) (wanted_none rfl _) rfl rfl fun a41 hq41 => ?_; clear hq40
    refine wq_val hq41 (r_lde (s := x) (i := i) (v := .int .i64 (nth x.l i)) ti_3 rfl rfl rfl (fun w h => (h.at 0 rfl)) (show i < x.l.length from (by omega)) (Nat.le_of_ble_eq_true rfl) rfl) (wanted_none rfl _) rfl rfl fun a42 hq42 => ?_; clear hq41
    refine wq_val hq42 (r_move rfl rfl) (wanted_none rfl _) rfl rfl fun a43 hq43 => ?_; clear hq42
    refine wq_val hq43 (r_move rfl rfl) (wanted_none rfl _) rfl rfl fun a44 hq44 => ?_; clear hq43
    refine wq_val hq44 (r_ixN (s := y) (q := i) sl_24 ti_3 rfl rfl rfl (fun w h => (h.at 1 rfl)) (show i < y.l.length from (by omega))) (wanted_none rfl _) rfl rfl fun a45 hq45 => ?_; clear hq44
    refine wq_val hq45 (r_lde (s := y) (i := i) (v := .int .i64 (nth y.l i)) ti_3 rfl rfl rfl (fun w h => (h.at 1 rfl)) (show i < y.l.length from (by omega)) (Nat.le_of_ble_eq_true rfl) rfl) (wanted_none rfl _) rfl rfl fun a46 hq46 => ?_; clear hq45
    refine wq_val hq46 (r_lssI (p := nth x.l i) (q := nth y.l i) rfl rfl rfl) (wanted_none rfl _) rfl rfl fun a47 hq47 => ?_; clear hq46
    refine wq_val hq47 (r_assign rfl rfl) (wanted_none rfl _) rfl rfl fun a48 hq48 => ?_; clear hq47
    refine wpQuiet_nil (hZ38 _ fun w49 hw49 => ?_)
    have h49 : St 41 (fun _ => False) W a48 w49 _ _ := ⟨hq48, hw49⟩
    clear hq48 hw49 h35
    refine hK37 _ _ ?_
    have h50 : St 41 (fun _ => False) W a48 w49 [(4, .bool (decide (nth x.l i < nth y.l i)))] [.at_ x, .at_ y] := h49.nrm ⟨rfl, trivial⟩ [0, 1] (by decide) ⟨rfl, rfl, trivial⟩
    clear h49
    refine wp_ret ?_
    try simp only [Exit.then, Exit.inBlock]
    refine x_ret1 (fn := Try.f107) (t := 4) rfl h50 rfl ?_
    refine ⟨?_, (h50.sh.sel [] (by decide) trivial)⟩
    congr 1
    first | exact (lessB_ne i (by omega) (by omega) (fun j hj => hall j hj) (by omega)).symm | exact (lessB_end i (by omega) (by omega) (by omega) (fun j hj => hall j hj)).symm
   have hp36 : ¬ (nth x.l i ≠ nth y.l i) := of_decide_eq_false hb36
   refine wp_skip ?_
   refine hK23 _ _ ?_
   refine wp_region_lit ?_
   refine wms 1 h35 rfl fun a51 h51 => ?_; clear h35
   refine wv h51 (r_addN (p := i) (q := 1) rfl rfl rfl (show i + 1 < 9223372036854775808 from (by omega))) rfl rfl fun a52 h52 => ?_; clear h51
   refine wms 1 h52 rfl fun a53 h53 => ?_; clear h52
   refine wpList_nil ?_
   refine x_again ⟨_, ?_, i + 1, ?_, ?_, h53.nrm ⟨rfl, rfl, rfl, trivial⟩ [0, 1] (by decide) ⟨rfl, rfl, trivial⟩, rfl⟩
   · rw [hm7]; first | omega | (simp only [lens9]; omega)
   · omega
   · intro j hj; rcases Nat.lt_or_ge j i with h | h; exact hall j h; obtain rfl : j = i := (by omega); omega
  have hp22 : ¬ (i < y.l.length) := of_decide_eq_false hb22
  refine wp_exit ?_
  refine hK4 _ _ ?_
  refine wp_seq_k fun K54 hK54 => wp_region_lit ?_
  refine wms 1 h21 rfl fun a55 h55 => ?_; clear h21
  refine wv h55 (r_len (s := x) (n := x.l.length) sl_24 rfl rfl (fun w h => (h.at 0 rfl)) rfl) rfl rfl fun a56 h56 => ?_; clear h55
  refine wms 1 h56 rfl fun a57 h57 => ?_; clear h56
  refine wv h57 (r_len (s := y) (n := y.l.length) sl_24 rfl rfl (fun w h => (h.at 1 rfl)) rfl) rfl rfl fun a58 h58 => ?_; clear h57
  refine wv h58 (r_lssN (p := x.l.length) (q := y.l.length) rfl rfl rfl) rfl rfl fun a59 h59 => ?_; clear h58
  refine wms 1 h59 rfl fun a60 h60 => ?_; clear h59
  refine wpList_nil (hK54 _ _ ?_)
  refine wp_ret ?_
  try simp only [Exit.then, Exit.inBlock]
  refine x_ret1 (fn := Try.f107) (t := 4) rfl h60 rfl ?_
  refine ⟨?_, (h60.sh.sel [] (by decide) trivial)⟩
  congr 1
  first | exact (lessB_ne i (by omega) (by omega) (fun j hj => hall j hj) (by omega)).symm | exact (lessB_end i (by omega) (by omega) (by omega) (fun j hj => hall j hj)).symm
 have hp15 : ¬ (i < x.l.length) := of_decide_eq_false hb15
 refine wl_skip h14 (wanted_no h14.fr rfl rfl rfl rfl hb15) rfl rfl fun a61 h61 => ?_; clear h14
 refine wl_skip h61 (wanted_no h61.fr rfl rfl rfl rfl hb15) rfl rfl fun a62 h62 => ?_; clear h61
 refine wl_skip h62 (wanted_no h62.fr rfl rfl rfl rfl hb15) rfl rfl fun a63 h63 => ?_; clear h62
 refine wl_skip h63 (wanted_no h63.fr rfl rfl rfl rfl hb15) rfl rfl fun a64 h64 => ?_; clear h63
 refine wv h64 (r_pickF rfl rfl hb15 rfl) rfl rfl fun a65 h65 => ?_; clear h64
 refine wpList_nil (hK9 _ _ ?_)
 refine x_condF h65 rfl rfl ?_
 refine wp_exit ?_
 refine hK4 _ _ ?_
 refine wp_seq_k fun K66 hK66 => wp_region_lit ?_
 refine wms 1 h65 rfl fun a67 h67 => ?_; clear h65
 refine wv h67 (r_len (s := x) (n := x.l.length) sl_24 rfl rfl (fun w h => (h.at 0 rfl)) rfl) rfl rfl fun a68 h68 => ?_; clear h67
 refine wms 1 h68 rfl fun a69 h69 => ?_; clear h68
 have hl70 : y.l.length ≤ 140737488355328 := (h69.sh.at 1 rfl).len
 refine wv h69 (r_len (s := y) (n := y.l.length) sl_24 rfl rfl (fun w h => (h.at 1 rfl)) rfl) rfl rfl fun a71 h71 => ?_; clear h69
 refine wv h71 (r_lssN (p := x.l.length) (q := y.l.length) rfl rfl rfl) rfl rfl fun a72 h72 => ?_; clear h71
 refine wms 1 h72 rfl fun a73 h73 => ?_; clear h72
 refine wpList_nil (hK66 _ _ ?_)
 refine wp_ret ?_
 try simp only [Exit.then, Exit.inBlock]
 refine x_ret1 (fn := Try.f107) (t := 4) rfl h73 rfl ?_
 refine ⟨?_, (h73.sh.sel [] (by decide) trivial)⟩
 congr 1
 first | exact (lessB_ne i (by omega) (by omega) (fun j hj => hall j hj) (by omega)).symm | exact (lessB_end i (by omega) (by omega) (by omega) (fun j hj => hall j hj)).symm

set_option maxRecDepth 100000 in
set_option maxHeartbeats 1000000 in
theorem ahead_c (x y : OutL) (W : World) (hxw : x.words.At W) (hxp : x.prints.At W) (hyw : y.words.At W) (hyp : y.prints.At W) :
    Rets Try.prog 75 [.agg #[.int .i64 x.st, x.words.v, x.prints.v], .agg #[.int .i64 y.st, y.words.v, y.prints.v]] W (fun v w' => v = .bool (aheadB x.out y.out) ∧ Sh0 W w' []) := by
 refine x_enter (N := 33) Try.func75 rfl Try.ntmps75 (Nat.le_of_ble_eq_true rfl) fun a1 hf1 => ?_
 have h1 : St 33 (fun _ => False) W a1 W [(0, .agg #[.int .i64 x.st, x.words.v, x.prints.v]), (1, .agg #[.int .i64 y.st, y.words.v, y.prints.v])] [.at_ x.words, .at_ x.prints, .at_ y.words, .at_ y.prints] := ⟨hf1.sub ⟨rfl, rfl, trivial⟩, Sh0.ext4 hxw hxp hyw hyp⟩
 clear hf1
 refine wp_seq_k fun K2 hK2 => wp_region_lit ?_
 refine wl_ex (x_box (cs := [.int .i64 x.st, x.words.v, x.prints.v]) h1 rfl rfl rfl rfl rfl) (wanted_none rfl _) ?_
 rintro a3 w3 ⟨b3, h3⟩; clear h1
 refine wl_ex (x_box (cs := [.int .i64 y.st, y.words.v, y.prints.v]) h3 rfl rfl rfl rfl rfl) (wanted_none rfl _) ?_
 rintro a4 w4 ⟨b4, h4⟩; clear h3
 refine wms 1 h4 rfl fun a5 h5 => ?_; clear h4
 refine wpList_nil (hK2 _ _ ?_)
 refine wp_seq_k fun K6 hK6 => ?_
 refine wp_seq_k fun K7 hK7 => wp_region_lit ?_
 refine wv h5 (r_fieldB (r := 0) fl_56_0 rfl rfl rfl) rfl rfl fun a8 h8 => ?_; clear h5
 refine wv h8 (r_ldb (i := 1) ti_3 rfl rfl rfl rfl) rfl rfl fun a9 h9 => ?_; clear h8
 refine wv h9 (r_fieldB (r := 0) fl_56_0 rfl rfl rfl) rfl rfl fun a10 h10 => ?_; clear h9
 refine wv h10 (r_ldb (i := 0) ti_3 rfl rfl rfl rfl) rfl rfl fun a11 h11 => ?_; clear h10
 refine wv h11 (r_neqI (p := x.st) (q := y.st) rfl rfl rfl) rfl rfl fun a12 h12 => ?_; clear h11
 refine wpList_nil (hK7 _ _ ?_)
 refine x_cond h12 rfl (fun hb13 => ?_) (fun hb13 => ?_)
 ·
  have hp13 : x.st ≠ y.st := of_decide_eq_true hb13
  refine wp_seq_k fun K14 hK14 => wp_region_lit ?_
  refine wv h12 (r_fieldB (r := 0) fl_56_0 rfl rfl rfl) rfl rfl fun a15 h15 => ?_; clear h12
  refine wv h15 (r_ldb (i := 1) ti_3 rfl rfl rfl rfl) rfl rfl fun a16 h16 => ?_; clear h15
  refine wv h16 (r_fieldB (r := 0) fl_56_0 rfl rfl rfl) rfl rfl fun a17 h17 => ?_; clear h16
  refine wv h17 (r_ldb (i := 0) ti_3 rfl rfl rfl rfl) rfl rfl fun a18 h18 => ?_; clear h17
  refine wv h18 (r_lssI (p := x.st) (q := y.st) rfl rfl rfl) rfl rfl fun a19 h19 => ?_; clear h18
  refine wms 1 h19 rfl fun a20 h20 => ?_; clear h19
  refine wpList_nil (hK14 _ _ ?_)
  refine wp_ret ?_
  try simp only [Exit.then, Exit.inBlock]
  refine x_ret1 (fn := Try.f75) (t := 4) rfl h20 rfl ?_
  refine ⟨?_, (h20.sh.sel [] (by decide) trivial)⟩
  congr 1
  unfold aheadB OutL.out
  first | (rw [if_neg (by assumption)]; done) | (rw [if_pos (by omega), if_neg (by assumption)]; done) | (rw [if_pos (by omega), if_pos (by assumption)]; done) | (simp only []; rw [if_neg (by assumption)]; done) | (simp only []; rw [if_pos (by omega), if_neg (by assumption)]; done) | (simp only []; rw [if_pos (by omega), if_pos (by assumption)])
 have hp13 : ¬ (x.st ≠ y.st) := of_decide_eq_false hb13
 refine wp_skip ?_
 refine hK6 _ _ ?_
 refine wp_seq_k fun K21 hK21 => wp_region_lit ?_
 refine wv h12 (r_fieldB (r := 1) fl_56_1 rfl rfl rfl) rfl rfl fun a22 h22 => ?_; clear h12
 refine wv h22 (r_ldb (i := 1) ti_24 rfl rfl rfl rfl) rfl rfl fun a23 h23 => ?_; clear h22
 refine wv h23 (r_fieldB (r := 1) fl_56_1 rfl rfl rfl) rfl rfl fun a24 h24 => ?_; clear h23
 refine wv h24 (r_ldb (i := 0) ti_24 rfl rfl rfl rfl) rfl rfl fun a25 h25 => ?_; clear h24
 refine wl_ex (x_call h25 bd_41 rfl rfl rfl rfl rfl (ints_c x.words y.words _ (h25.sh.at 2 rfl) (h25.sh.at 4 rfl))) (wanted_none rfl _) ?_
 rintro a26 w26 ⟨_, ⟨rfl, hs26⟩, hf26⟩
 have h26 : St 33 (fun _ => False) W a26 w26 _ _ := ⟨hf26, h25.sh.call0 hs26⟩
 clear hf26 hs26
 clear h25
 refine wms 1 h26 rfl fun a27 h27 => ?_; clear h26
 refine wpList_nil (hK21 _ _ ?_)
 refine wp_seq_k fun K28 hK28 => ?_
 refine wp_seq_k fun K29 hK29 => wp_region_lit ?_
 refine wms 1 h27 rfl fun a30 h30 => ?_; clear h27
 refine wv h30 (r_not rfl rfl) rfl rfl fun a31 h31 => ?_; clear h30
 refine wpList_nil (hK29 _ _ ?_)
 refine x_cond h31 rfl (fun hb32 => ?_) (fun hb32 => ?_)
 ·
  have hp32 : ¬ (x.words.l = y.words.l) := by simpa using hb32
  refine wp_seq_k fun K33 hK33 => wp_region_lit ?_
  refine wv h31 (r_fieldB (r := 1) fl_56_1 rfl rfl rfl) rfl rfl fun a34 h34 => ?_; clear h31
  refine wv h34 (r_ldb (i := 1) ti_24 rfl rfl rfl rfl) rfl rfl fun a35 h35 => ?_; clear h34
  refine wv h35 (r_fieldB (r := 1) fl_56_1 rfl rfl rfl) rfl rfl fun a36 h36 => ?_; clear h35
  refine wv h36 (r_ldb (i := 0) ti_24 rfl rfl rfl rfl) rfl rfl fun a37 h37 => ?_; clear h36
  refine wl_ex (x_call h37 bd_107 rfl rfl rfl rfl rfl (less_c x.words y.words _ (h37.sh.at 2 rfl) (h37.sh.at 4 rfl))) (wanted_none rfl _) ?_
  rintro a38 w38 ⟨_, ⟨rfl, hs38⟩, hf38⟩
  have h38 : St 33 (fun _ => False) W a38 w38 _ _ := ⟨hf38, h37.sh.call0 hs38⟩
  clear hf38 hs38
  clear h37
  refine wms 1 h38 rfl fun a39 h39 => ?_; clear h38
  refine wpList_nil (hK33 _ _ ?_)
  refine wp_ret ?_
  try simp only [Exit.then, Exit.inBlock]
  refine x_ret1 (fn := Try.f75) (t := 4) rfl h39 rfl ?_
  refine ⟨?_, (h39.sh.sel [] (by decide) trivial)⟩
  congr 1
  unfold aheadB OutL.out
  first | (rw [if_neg (by assumption)]; done) | (rw [if_pos (by omega), if_neg (by assumption)]; done) | (rw [if_pos (by omega), if_pos (by assumption)]; done) | (simp only []; rw [if_neg (by assumption)]; done) | (simp only []; rw [if_pos (by omega), if_neg (by assumption)]; done) | (simp only []; rw [if_pos (by omega), if_pos (by assumption)])
 have hp32 : x.words.l = y.words.l := by simpa using hb32
 refine wp_skip ?_
 refine hK28 _ _ ?_
 refine wp_seq_k fun K40 hK40 => wp_region_lit ?_
 refine wv h31 (r_fieldB (r := 2) fl_56_2 rfl rfl rfl) rfl rfl fun a41 h41 => ?_; clear h31
 refine wv h41 (r_ldb (i := 1) ti_24 rfl rfl rfl rfl) rfl rfl fun a42 h42 => ?_; clear h41
 refine wv h42 (r_fieldB (r := 2) fl_56_2 rfl rfl rfl) rfl rfl fun a43 h43 => ?_; clear h42
 refine wv h43 (r_ldb (i := 0) ti_24 rfl rfl rfl rfl) rfl rfl fun a44 h44 => ?_; clear h43
 refine wl_ex (x_call h44 bd_107 rfl rfl rfl rfl rfl (less_c x.prints y.prints _ (h44.sh.at 3 rfl) (h44.sh.at 5 rfl))) (wanted_none rfl _) ?_
 rintro a45 w45 ⟨_, ⟨rfl, hs45⟩, hf45⟩
 have h45 : St 33 (fun _ => False) W a45 w45 _ _ := ⟨hf45, h44.sh.call0 hs45⟩
 clear hf45 hs45
 clear h44
 refine wms 1 h45 rfl fun a46 h46 => ?_; clear h45
 refine wpList_nil (hK40 _ _ ?_)
 refine wp_ret ?_
 try simp only [Exit.then, Exit.inBlock]
 refine x_ret1 (fn := Try.f75) (t := 4) rfl h46 rfl ?_
 refine ⟨?_, (h46.sh.sel [] (by decide) trivial)⟩
 congr 1
 unfold aheadB OutL.out
 first | (rw [if_neg (by assumption)]; done) | (rw [if_pos (by omega), if_neg (by assumption)]; done) | (rw [if_pos (by omega), if_pos (by assumption)]; done) | (simp only []; rw [if_neg (by assumption)]; done) | (simp only []; rw [if_pos (by omega), if_neg (by assumption)]; done) | (simp only []; rw [if_pos (by omega), if_pos (by assumption)])

set_option maxRecDepth 100000 in
set_option maxHeartbeats 1000000 in
theorem sameO_c (x y : Ls OutL) (W : World) (hx : x.At W) (hy : y.At W) :
    Rets Try.prog 25 [x.v, y.v] W (fun v w' => v = .bool (decide (x.l.map OutL.out = y.l.map OutL.out)) ∧ Sh0 W w' []) := by
 refine x_enter (N := 60) Try.func25 rfl Try.ntmps25 (Nat.le_of_ble_eq_true rfl) fun a1 hf1 => ?_
 have h1 : St 60 (fun _ => False) W a1 W [(0, x.v), (1, y.v)] [.at_ x, .at_ y] := ⟨hf1.sub ⟨rfl, rfl, trivial⟩, Sh0.ext2 hx hy⟩
 clear hf1
 refine wp_seq_k fun K2 hK2 => wp_region_lit ?_
 refine wms 1 h1 rfl fun a3 h3 => ?_; clear h1
 refine wpList_nil (hK2 _ _ ?_)
 refine wp_seq_k fun K4 hK4 => ?_
 refine wp_seq_k fun K5 hK5 => wp_region_lit ?_
 refine wms 1 h3 rfl fun a6 h6 => ?_; clear h3
 have hl7 : x.l.length ≤ 140737488355328 := (h6.sh.at 0 rfl).len
 refine wv h6 (r_len (s := x) (n := x.l.length) sl_47 rfl rfl (fun w h => (h.at 0 rfl)) rfl) rfl rfl fun a8 h8 => ?_; clear h6
 refine wms 1 h8 rfl fun a9 h9 => ?_; clear h8
 have hl10 : y.l.length ≤ 140737488355328 := (h9.sh.at 1 rfl).len
 refine wv h9 (r_len (s := y) (n := y.l.length) sl_47 rfl rfl (fun w h => (h.at 1 rfl)) rfl) rfl rfl fun a11 h11 => ?_; clear h9
 refine wv h11 (r_neqN (p := x.l.length) (q := y.l.length) rfl rfl rfl) rfl rfl fun a12 h12 => ?_; clear h11
 refine wpList_nil (hK5 _ _ ?_)
 refine x_cond h12 rfl (fun hb13 => ?_) (fun hb13 => ?_)
 ·
  have hp13 : x.l.length ≠ y.l.length := of_decide_eq_true hb13
  refine wp_seq_k fun K14 hK14 => wp_region_lit ?_
  refine wms 1 h12 rfl fun a15 h15 => ?_; clear h12
  refine wpList_nil (hK14 _ _ ?_)
  refine wp_ret ?_
  try simp only [Exit.then, Exit.inBlock]
  refine x_ret1 (fn := Try.f25) (t := 4) rfl h15 rfl ?_
  refine ⟨?_, (h15.sh.sel [] (by decide) trivial)⟩
  congr 1
  first | (refine (decide_eq_true (sameOut (by omega) fun j hj => hall j (by omega))).symm; done) | (refine (decide_eq_false fun e => ?_).symm; have e1 := congrArg List.length e; simp only [List.length_map] at e1; first | omega | (have e2 := sameAt e i (by omega); have e3 := congrArg Outc.st e2; have e4 := congrArg Outc.words e2; have e5 := congrArg Outc.prints e2; simp only [OutL.out] at e3 e4 e5; first | omega | (exact absurd e4 (by assumption)) | (exact absurd e5 (by assumption))))
 have hp13 : ¬ (x.l.length ≠ y.l.length) := of_decide_eq_false hb13
 refine wp_skip ?_
 refine hK4 _ _ ?_
 refine wp_seq_k fun K16 hK16 => ?_
 refine wp_seq_k fun K17 hK17 => wp_region_lit ?_
 refine wms 1 h12 rfl fun a18 h18 => ?_; clear h12
 refine wpList_nil (hK17 _ _ ?_)
 refine wp_block ?_
 refine x_loop (fun m a w => ∃ (i : Nat), (i ≤ x.l.length) ∧ (∀ j, j < i → (nth x.l j).out = (nth y.l j).out) ∧ St 60 (fun _ => False) W a w [(0, x.v), (1, y.v), (5, .int .i64 ((i : Nat) : Int))] [.at_ x, .at_ y] ∧ m = x.l.length - i) ⟨_, 0, (by omega), (fun j hj => absurd hj (by omega)), h18.nrm ⟨rfl, rfl, rfl, trivial⟩ [0, 1] (by decide) ⟨rfl, rfl, trivial⟩, rfl⟩ ?_
 clear h18
 rintro m19 a19 w19 ⟨i, hi, hall, h19, hm19⟩
 refine wp_seq_k fun K20 hK20 => ?_
 refine wp_seq_k fun K21 hK21 => wp_region_lit ?_
 refine wms 2 h19 rfl fun a22 h22 => ?_; clear h19
 refine wv h22 (r_len (s := x) (n := x.l.length) sl_47 rfl rfl (fun w h => (h.at 0 rfl)) rfl) rfl rfl fun a23 h23 => ?_; clear h22
 refine wv h23 (r_lssN (p := i) (q := x.l.length) rfl rfl rfl) rfl rfl fun a24 h24 => ?_; clear h23
 refine wpList_nil (hK21 _ _ ?_)
 refine x_cond h24 rfl (fun hb25 => ?_) (fun hb25 => ?_)
 ·
  have hp25 : i < x.l.length := of_decide_eq_true hb25
  refine wp_skip ?_
  refine hK20 _ _ ?_
  refine wp_seq_k fun K26 hK26 => ?_
  refine wp_block ?_
  refine wp_seq_k fun K27 hK27 => ?_
  refine x_quiet (by kernel_rfl) (by kernel_rfl) h24 fun Z28 hZ28 => ?_
  have hq28 := h24.fr
  refine wq_val hq28 (r_move rfl rfl) (wanted_none rfl _) rfl rfl fun a29 hq29 => ?_; clear hq28
  refine wq_val hq29 (r_move rfl rfl) (wanted_none rfl _) rfl rfl fun a30 hq30 => ?_; clear hq29
  refine wq_val hq30 (r_ixN (s := x) (q := i) sl_47 ti_56 rfl rfl rfl (fun w h => (h.at 0 rfl)) (show i < x.l.length from (by omega))) (wanted_none rfl _) rfl rfl fun a31 hq31 => ?_; clear hq30
  refine wq_val hq31 (r_fieldE (r := 1) fl_56_1 rfl rfl rfl) (wanted_none rfl _) rfl rfl fun a32 hq32 => ?_; clear hq31
  refine wq_val hq32 (r_lde (s := x) (i := i) (v := ((nth x.l i).words).v) ti_24 rfl rfl rfl (fun w h => (h.at 0 rfl)) (show i < x.l.length from (by omega)) (Nat.le_of_ble_eq_true rfl) rfl) (wanted_none rfl _) rfl rfl fun a33 hq33 => ?_; clear hq32
  refine wq_val hq33 (r_move rfl rfl) (wanted_none rfl _) rfl rfl fun a34 hq34 => ?_; clear hq33
  refine wq_val hq34 (r_move rfl rfl) (wanted_none rfl _) rfl rfl fun a35 hq35 => ?_; clear hq34
  refine wq_val hq35 (r_ixN (s := y) (q := i) sl_47 ti_56 rfl rfl rfl (fun w h => (h.at 1 rfl)) (show i < y.l.length from (by omega))) (wanted_none rfl _) rfl rfl fun a36 hq36 => ?_; clear hq35
  refine wq_val hq36 (r_fieldE (r := 1) fl_56_1 rfl rfl rfl) (wanted_none rfl _) rfl rfl fun a37 hq37 => ?_; clear hq36
  refine wq_val hq37 (r_lde (s := y) (i := i) (v := ((nth y.l i).words).v) ti_24 rfl rfl rfl (fun w h => (h.at 1 rfl)) (show i < y.l.length from (by omega)) (Nat.le_of_ble_eq_true rfl) rfl) (wanted_none rfl _) rfl rfl fun a38 hq38 => ?_; clear hq37
  refine wq_call hq38 bd_41 rfl rfl rfl (wanted_none rfl _) rfl rfl (fun w h => (ints_c ((nth x.l i).words) ((nth y.l i).words) _ ((h.at 0 rfl).inner i (show i < x.l.length from (by omega))).1 ((h.at 1 rfl).inner i (show i < y.l.length from (by omega))).1)) fun a39 hq39 => ?_; clear hq38
  refine wq_val hq39 (r_assign rfl rfl) (wanted_none rfl _) rfl rfl fun a40 hq40 => ?_; clear hq39
  refine wpQuiet_nil (hZ28 _ fun w41 hw41 => ?_)
  have h41 : St 60 (fun _ => False) W a40 w41 _ _ := ⟨hq40, hw41⟩
  clear hq40 hw41 h24
  refine hK27 _ _ ?_
  refine wp_seq_k fun K42 hK42 => ?_
  refine x_quiet (by kernel_rfl) (by kernel_rfl) h41 fun Z43 hZ43 => ?_
  have hq43 := h41.fr
  refine wq_val hq43 (r_move rfl rfl) (wanted_none rfl _) rfl rfl fun a44 hq44 => ?_; clear hq43
  refine wq_val hq44 (r_move rfl rfl) (wanted_none rfl _) rfl rfl fun a45 hq45 => ?_; clear hq44
  refine wq_val hq45 (r_ixN (s := x) (q := i) sl_47 ti_56 rfl rfl rfl (fun w h => (h.at 0 rfl)) (show i < x.l.length from (by omega))) (wanted_none rfl _) rfl rfl fun a46 hq46 => ?_; clear hq45
  refine wq_val hq46 (r_fieldE (r := 2) fl_56_2 rfl rfl rfl) (wanted_none rfl _) rfl rfl fun a47 hq47 => ?_; clear hq46
  refine wq_val hq47 (r_lde (s := x) (i := i) (v := ((nth x.l i).prints).v) ti_24 rfl rfl rfl (fun w h => (h.at 0 rfl)) (show i < x.l.length from (by omega)) (Nat.le_of_ble_eq_true rfl) rfl) (wanted_none rfl _) rfl rfl fun a48 hq48 => ?_; clear hq47
  refine wq_val hq48 (r_move rfl rfl) (wanted_none rfl _) rfl rfl fun a49 hq49 => ?_; clear hq48
  refine wq_val hq49 (r_move rfl rfl) (wanted_none rfl _) rfl rfl fun a50 hq50 => ?_; clear hq49
  refine wq_val hq50 (r_ixN (s := y) (q := i) sl_47 ti_56 rfl rfl rfl (fun w h => (h.at 1 rfl)) (show i < y.l.length from (by omega))) (wanted_none rfl _) rfl rfl fun a51 hq51 => ?_; clear hq50
  refine wq_val hq51 (r_fieldE (r := 2) fl_56_2 rfl rfl rfl) (wanted_none rfl _) rfl rfl fun a52 hq52 => ?_; clear hq51
  refine wq_val hq52 (r_lde (s := y) (i := i) (v := ((nth y.l i).prints).v) ti_24 rfl rfl rfl (fun w h => (h.at 1 rfl)) (show i < y.l.length from (by omega)) (Nat.le_of_ble_eq_true rfl) rfl) (wanted_none rfl _) rfl rfl fun a53 hq53 => ?_; clear hq52
  refine wq_call hq53 bd_41 rfl rfl rfl (wanted_none rfl _) rfl rfl (fun w h => (ints_c ((nth x.l i).prints) ((nth y.l i).prints) _ ((h.at 0 rfl).inner i (show i < x.l.length from (by omega))).2 ((h.at 1 rfl).inner i (show i < y.l.length from (by omega))).2)) fun a54 hq54 => ?_; clear hq53
  refine wq_val hq54 (r_assign rfl rfl) (wanted_none rfl _) rfl rfl fun a55 hq55 => ?_; clear hq54
  refine wpQuiet_nil (hZ43 _ fun w56 hw56 => ?_)
  have h56 : St 60 (fun _ => False) W a55 w56 _ _ := ⟨hq55, hw56⟩
  clear hq55 hw56 h41
  refine hK42 _ _ ?_
  have h57 : St 60 (fun _ => False) W a55 w56 [(0, x.v), (1, y.v), (5, .int .i64 ((i : Nat) : Int)), (6, .bool (decide (((nth x.l i).words).l = ((nth y.l i).words).l))), (7, .bool (decide (((nth x.l i).prints).l = ((nth y.l i).prints).l)))] [.at_ x, .at_ y] := h56.nrm ⟨rfl, rfl, rfl, rfl, rfl, trivial⟩ [0, 1] (by decide) ⟨rfl, rfl, trivial⟩
  clear h56
  refine wp_seq_k fun K58 hK58 => ?_
  refine x_quiet (by kernel_rfl) (by kernel_rfl) h57 fun Z59 hZ59 => ?_
  have hq59 := h57.fr
  refine wq_val hq59 (r_move rfl rfl) (wanted_none rfl _) rfl rfl fun a60 hq60 => ?_; clear hq59
  refine wq_val hq60 (r_move rfl rfl) (wanted_none rfl _) rfl rfl fun a61 hq61 => ?_; clear hq60
  refine wq_val hq61 (r_ixN (s := x) (q := i) sl_47 ti_56 rfl rfl rfl (fun w h => (h.at 0 rfl)) (show i < x.l.length from (by omega))) (wanted_none rfl _) rfl rfl fun a62 hq62 => ?_; clear hq61
  refine wq_val hq62 (r_fieldE (r := 0) fl_56_0 rfl rfl rfl) (wanted_none rfl _) rfl rfl fun a63 hq63 => ?_; clear hq62
  refine wq_val hq63 (r_lde (s := x) (i := i) (v := .int .i64 ((nth x.l i).st)) ti_3 rfl rfl rfl (fun w h => (h.at 0 rfl)) (show i < x.l.length from (by omega)) (Nat.le_of_ble_eq_true rfl) rfl) (wanted_none rfl _) rfl rfl fun a64 hq64 => ?_; clear hq63
  refine wq_val hq64 (r_move rfl rfl) (wanted_none rfl _) rfl rfl fun a65 hq65 => ?_; clear hq64
  refine wq_val hq65 (r_move rfl rfl) (wanted_none rfl _) rfl rfl fun a66 hq66 => ?_; clear hq65
  refine wq_val hq66 (r_ixN (s := y) (q := i) sl_47 ti_56 rfl rfl rfl (fun w h => (h.at 1 rfl)) (show i < y.l.length from (by omega))) (wanted_none rfl _) rfl rfl fun a67 hq67 => ?_; clear hq66
  refine wq_val hq67 (r_fieldE (r := 0) fl_56_0 rfl rfl rfl) (wanted_none rfl _) rfl rfl fun a68 hq68 => ?_; clear hq67
  refine wq_val hq68 (r_lde (s := y) (i := i) (v := .int .i64 ((nth y.l i).st)) ti_3 rfl rfl rfl (fun w h => (h.at 1 rfl)) (show i < y.l.length from (by omega)) (Nat.le_of_ble_eq_true rfl) rfl) (wanted_none rfl _) rfl rfl fun a69 hq69 => ?_; clear hq68
  refine wq_val hq69 (r_neqI (p := (nth x.l i).st) (q := (nth y.l i).st) rfl rfl rfl) (wanted_none rfl _) rfl rfl fun a70 hq70 => ?_; clear hq69
  refine wq_val hq70 (r_move rfl rfl) (wanted_none rfl _) rfl rfl fun a71 hq71 => ?_; clear hq70
  rcases Bool.eq_false_or_eq_true (decide ((nth x.l i).st ≠ (nth y.l i).st)) with hb72 | hb72
  ·
   have hp72 : (nth x.l i).st ≠ (nth y.l i).st := of_decide_eq_true hb72
   refine wq_skip hq71 (wanted_no hq71 rfl rfl rfl rfl hb72) rfl rfl fun a73 hq73 => ?_; clear hq71
   refine wq_skip hq73 (wanted_no hq73 rfl rfl rfl rfl hb72) rfl rfl fun a74 hq74 => ?_; clear hq73
   refine wq_val hq74 (r_pickT rfl rfl hb72 rfl) (wanted_none rfl _) rfl rfl fun a75 hq75 => ?_; clear hq74
   refine wq_val hq75 (r_move rfl rfl) (wanted_none rfl _) rfl rfl fun a76 hq76 => ?_; clear hq75
   refine wq_skip hq76 (wanted_no hq76 rfl rfl rfl rfl rfl) rfl rfl fun a77 hq77 => ?_; clear hq76
   refine wq_skip hq77 (wanted_no hq77 rfl rfl rfl rfl rfl) rfl rfl fun a78 hq78 => ?_; clear hq77
   refine wq_val hq78 (r_pickT rfl rfl rfl rfl) (wanted_none rfl _) rfl rfl fun a79 hq79 => ?_; clear hq78
   refine wpQuiet_nil (hZ59 _ fun w80 hw80 => ?_)
   have h80 : St 60 (fun _ => False) W a79 w80 _ _ := ⟨hq79, hw80⟩
   clear hq79 hw80 h57
   refine hK58 _ _ ?_
   refine x_condT h80 rfl rfl ?_
   refine wp_seq_k fun K81 hK81 => wp_region_lit ?_
   refine wms 1 h80 rfl fun a82 h82 => ?_; clear h80
   refine wpList_nil (hK81 _ _ ?_)
   have h83 : St 60 (fun _ => False) W a82 w80 [(4, .bool false)] [.at_ x, .at_ y] := h82.nrm ⟨rfl, trivial⟩ [0, 1] (by decide) ⟨rfl, rfl, trivial⟩
   clear h82
   refine wp_ret ?_
   try simp only [Exit.then, Exit.inBlock]
   refine x_ret1 (fn := Try.f25) (t := 4) rfl h83 rfl ?_
   refine ⟨?_, (h83.sh.sel [] (by decide) trivial)⟩
   congr 1
   first | (refine (decide_eq_true (sameOut (by omega) fun j hj => hall j (by omega))).symm; done) | (refine (decide_eq_false fun e => ?_).symm; have e1 := congrArg List.length e; simp only [List.length_map] at e1; first | omega | (have e2 := sameAt e i (by omega); have e3 := congrArg Outc.st e2; have e4 := congrArg Outc.words e2; have e5 := congrArg Outc.prints e2; simp only [OutL.out] at e3 e4 e5; first | omega | (exact absurd e4 (by assumption)) | (exact absurd e5 (by assumption))))
  have hp72 : ¬ ((nth x.l i).st ≠ (nth y.l i).st) := of_decide_eq_false hb72
  refine wq_val hq71 (r_move rfl rfl) (wanted_yes hq71 rfl rfl rfl rfl hb72) rfl rfl fun a85 hq85 => ?_; clear hq71
  refine wq_val hq85 (r_not rfl rfl) (wanted_yes hq85 rfl rfl rfl rfl hb72) rfl rfl fun a87 hq87 => ?_; clear hq85
  refine wq_val hq87 (r_pickF rfl rfl hb72 rfl) (wanted_none rfl _) rfl rfl fun a88 hq88 => ?_; clear hq87
  refine wq_val hq88 (r_move rfl rfl) (wanted_none rfl _) rfl rfl fun a89 hq89 => ?_; clear hq88
  rcases Bool.eq_false_or_eq_true (!(decide (((nth x.l i).words).l = ((nth y.l i).words).l))) with hb90 | hb90
  ·
   have hp90 : ¬ (((nth x.l i).words).l = ((nth y.l i).words).l) := by simpa using hb90
   refine wq_skip hq89 (wanted_no hq89 rfl rfl rfl rfl hb90) rfl rfl fun a91 hq91 => ?_; clear hq89
   refine wq_skip hq91 (wanted_no hq91 rfl rfl rfl rfl hb90) rfl rfl fun a92 hq92 => ?_; clear hq91
   refine wq_val hq92 (r_pickT rfl rfl hb90 rfl) (wanted_none rfl _) rfl rfl fun a93 hq93 => ?_; clear hq92
   refine wpQuiet_nil (hZ59 _ fun w94 hw94 => ?_)
   have h94 : St 60 (fun _ => False) W a93 w94 _ _ := ⟨hq93, hw94⟩
   clear hq93 hw94 h57
   refine hK58 _ _ ?_
   refine x_condT h94 rfl rfl ?_
   refine wp_seq_k fun K95 hK95 => wp_region_lit ?_
   refine wms 1 h94 rfl fun a96 h96 => ?_; clear h94
   refine wpList_nil (hK95 _ _ ?_)
   have h97 : St 60 (fun _ => False) W a96 w94 [(4, .bool false)] [.at_ x, .at_ y] := h96.nrm ⟨rfl, trivial⟩ [0, 1] (by decide) ⟨rfl, rfl, trivial⟩
   clear h96
   refine wp_ret ?_
   try simp only [Exit.then, Exit.inBlock]
   refine x_ret1 (fn := Try.f25) (t := 4) rfl h97 rfl ?_
   refine ⟨?_, (h97.sh.sel [] (by decide) trivial)⟩
   congr 1
   first | (refine (decide_eq_true (sameOut (by omega) fun j hj => hall j (by omega))).symm; done) | (refine (decide_eq_false fun e => ?_).symm; have e1 := congrArg List.length e; simp only [List.length_map] at e1; first | omega | (have e2 := sameAt e i (by omega); have e3 := congrArg Outc.st e2; have e4 := congrArg Outc.words e2; have e5 := congrArg Outc.prints e2; simp only [OutL.out] at e3 e4 e5; first | omega | (exact absurd e4 (by assumption)) | (exact absurd e5 (by assumption))))
  have hp90 : ((nth x.l i).words).l = ((nth y.l i).words).l := by simpa using hb90
  refine wq_val hq89 (r_move rfl rfl) (wanted_yes hq89 rfl rfl rfl rfl hb90) rfl rfl fun a99 hq99 => ?_; clear hq89
  refine wq_val hq99 (r_not rfl rfl) (wanted_yes hq99 rfl rfl rfl rfl hb90) rfl rfl fun a101 hq101 => ?_; clear hq99
  refine wq_val hq101 (r_pickF rfl rfl hb90 rfl) (wanted_none rfl _) rfl rfl fun a102 hq102 => ?_; clear hq101
  refine wpQuiet_nil (hZ59 _ fun w103 hw103 => ?_)
  have h103 : St 60 (fun _ => False) W a102 w103 _ _ := ⟨hq102, hw103⟩
  clear hq102 hw103 h57
  refine hK58 _ _ ?_
  refine x_cond h103 rfl (fun hb104 => ?_) (fun hb104 => ?_)
  ·
   have hp104 : ¬ (((nth x.l i).prints).l = ((nth y.l i).prints).l) := by simpa using hb104
   refine wp_seq_k fun K105 hK105 => wp_region_lit ?_
   refine wms 1 h103 rfl fun a106 h106 => ?_; clear h103
   refine wpList_nil (hK105 _ _ ?_)
   have h107 : St 60 (fun _ => False) W a106 w103 [(4, .bool false)] [.at_ x, .at_ y] := h106.nrm ⟨rfl, trivial⟩ [0, 1] (by decide) ⟨rfl, rfl, trivial⟩
   clear h106
   refine wp_ret ?_
   try simp only [Exit.then, Exit.inBlock]
   refine x_ret1 (fn := Try.f25) (t := 4) rfl h107 rfl ?_
   refine ⟨?_, (h107.sh.sel [] (by decide) trivial)⟩
   congr 1
   first | (refine (decide_eq_true (sameOut (by omega) fun j hj => hall j (by omega))).symm; done) | (refine (decide_eq_false fun e => ?_).symm; have e1 := congrArg List.length e; simp only [List.length_map] at e1; first | omega | (have e2 := sameAt e i (by omega); have e3 := congrArg Outc.st e2; have e4 := congrArg Outc.words e2; have e5 := congrArg Outc.prints e2; simp only [OutL.out] at e3 e4 e5; first | omega | (exact absurd e4 (by assumption)) | (exact absurd e5 (by assumption))))
  have hp104 : ((nth x.l i).prints).l = ((nth y.l i).prints).l := by simpa using hb104
  refine wp_skip ?_
  refine hK26 _ _ ?_
  refine wp_region_lit ?_
  refine wms 1 h103 rfl fun a108 h108 => ?_; clear h103
  refine wv h108 (r_addN (p := i) (q := 1) rfl rfl rfl (show i + 1 < 9223372036854775808 from (by omega))) rfl rfl fun a109 h109 => ?_; clear h108
  refine wms 1 h109 rfl fun a110 h110 => ?_; clear h109
  refine wpList_nil ?_
  refine x_again ⟨_, ?_, i + 1, ?_, ?_, h110.nrm ⟨rfl, rfl, rfl, trivial⟩ [0, 1] (by decide) ⟨rfl, rfl, trivial⟩, rfl⟩
  · rw [hm19]; first | omega | (simp only [lens9]; omega)
  · omega
  · intro j hj; rcases Nat.lt_or_ge j i with h | h; exact hall j h; obtain rfl : j = i := (by omega); unfold OutL.out; congr 1 <;> first | assumption | omega
 have hp25 : ¬ (i < x.l.length) := of_decide_eq_false hb25
 refine wp_exit ?_
 refine hK16 _ _ ?_
 refine wp_seq_k fun K111 hK111 => wp_region_lit ?_
 refine wms 1 h24 rfl fun a112 h112 => ?_; clear h24
 refine wpList_nil (hK111 _ _ ?_)
 refine wp_ret ?_
 try simp only [Exit.then, Exit.inBlock]
 refine x_ret1 (fn := Try.f25) (t := 4) rfl h112 rfl ?_
 refine ⟨?_, (h112.sh.sel [] (by decide) trivial)⟩
 congr 1
 first | (refine (decide_eq_true (sameOut (by omega) fun j hj => hall j (by omega))).symm; done) | (refine (decide_eq_false fun e => ?_).symm; have e1 := congrArg List.length e; simp only [List.length_map] at e1; first | omega | (have e2 := sameAt e i (by omega); have e3 := congrArg Outc.st e2; have e4 := congrArg Outc.words e2; have e5 := congrArg Outc.prints e2; simp only [OutL.out] at e3 e4 e5; first | omega | (exact absurd e4 (by assumption)) | (exact absurd e5 (by assumption))))

end Go.Proofs.Ytanhbpofhebbaaa
