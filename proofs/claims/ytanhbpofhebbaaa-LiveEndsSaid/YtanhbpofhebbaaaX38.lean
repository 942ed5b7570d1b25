/-
  Contracts of functions of this program and of the references, each walked once.
-/
import Derived.Test.YtanhbpofhebbaaaX37
namespace Go.Proofs.Ytanhbpofhebbaaa
open Go.RowKit
set_option linter.unusedSimpArgs false
set_option linter.unusedVariables false


theorem take_hund {β : Type} {l : List β} {t : Nat} (h1 : t ≤ l.length) (h2 : t ≤ 100) (h3 : ¬ (t < l.length ∧ t < 100)) : l.take 100 = l.take t := by
  rcases Nat.lt_or_ge t 100 with h | h
  · rw [List.take_of_length_le (by omega), List.take_of_length_le (by omega)]
  · rw [show t = 100 by omega]
def buf0 : List Ins := [⟨1, 0, 1, 0⟩, ⟨9, 0, 0, 0⟩, ⟨8, 1, 1, 0⟩, ⟨16, 1, 0, 0⟩]
def buf1 : List Ins := [⟨1, 0, 1, 0⟩, ⟨9, 1, 0, 0⟩, ⟨8, 1, 0, 0⟩, ⟨16, 1, 0, 0⟩]
theorem buf_live {f : Nat → Nat → Bool} (hf : ∀ r j, (f r j = true ↔ LiveI buf0 r j)) (r j : Nat) : f r j = ((decide (r = 0) && decide (j = 1)) || (decide (r = 1) && decide (j = 3))) := by
  rw [Bool.eq_iff_iff, hf]
  refine (live_all (g := fun j => (decide (r = 0) && decide (j = 1)) || (decide (r = 1) && decide (j = 3))) ?_ ?_ j).symm
  · intro j hj
    simp only [Bool.or_eq_true, Bool.and_eq_true, decide_eq_true_eq] at hj
    rcases hj with ⟨rfl, rfl⟩ | ⟨rfl, rfl⟩
    · exact .read 1 (by decide) (by decide +kernel)
    · exact .read 3 (by decide) (by decide +kernel)
  · intro i hi hn
    have hi4 : i < 4 := hi
    rcases (by omega : i = 0 ∨ i = 1 ∨ i = 2 ∨ i = 3) with rfl | rfl | rfl | rfl <;> simp [needB, nth, buf0, rdG, wrG, nextsL] at hn ⊢ <;> omega
theorem listB_none {f : Nat → Bool} {m : Nat} (h : ∀ r, f r = false) : listB ((List.range m).map f) = [] := by
  rw [listB_range, List.map_eq_nil_iff, List.filter_eq_nil_iff]
  intro r _
  rw [h]; decide
theorem buf_ahead {c : Ls (Ls Ins)} {f : Nat → Nat → Nat → Bool} {s : Ls (Ls (Ls Int))} (hc : c.l.map (·.l) = [buf0, buf1]) (hF : ∀ t r j, (f t r j = true ↔ LiveI (nth c.l t).l r j)) (hs : s.l.map (fun y => y.l.map (·.l)) = (List.range c.l.length).map (fun t => aheadL (f t) ((nth c.l t).l.length + 1))) :
    s.l.length = 2 ∧ (nth s.l 0).l.length = 5 ∧ (nth (nth s.l 0).l 0).l.length = 0 ∧ (nth (nth s.l 0).l 1).l = [0] := by
  have hl : c.l.length = 2 := by have := congrArg List.length hc; simpa using this
  have h0 : (nth c.l 0).l = buf0 := by rw [← nth_map' (fun x : Ls Ins => x.l) c.l 0 (by omega), hc]; rfl
  obtain ⟨h1, h2⟩ := rowsV hs
  have h3 := h2 0 (by omega)
  rw [h0] at h3
  obtain ⟨h4, h5⟩ := rowsV h3
  have hf : ∀ r j, (f 0 r j = true ↔ LiveI buf0 r j) := fun r j => by rw [← h0]; exact hF 0 r j
  have hb := buf_live hf
  refine ⟨by omega, h4, ?_, ?_⟩
  · rw [h5 0 (by decide), listB_none fun r => by rw [hb]; simp]; rfl
  · rw [h5 1 (by decide)]
    have : (fun r => f 0 r 1) = fun r => decide (r = 0) := by funext r; rw [hb]; simp
    rw [this]
    decide +kernel
theorem buf_ok {c : Ls (Ls Ins)} {u : Ls Int} (hc : c.l.map (·.l) = [buf0, buf1]) (hu : u.l = [0, 0]) : OkPg (pgOf c u 0 2) := by
  have e : pgOf c u 0 2 = ⟨[buf0, buf1], [0, 0], 0, 2⟩ := by unfold pgOf; rw [hc, hu]
  rw [e]
  exact checkG_code_pos.1 (by decide +kernel)
theorem last_live {code : List Ins} {f : Nat → Nat → Bool} (hf : ∀ r j, (f r j = true ↔ LiveI code r j)) (r : Nat) : f r code.length = false := by
  rw [Bool.eq_false_iff]
  intro h
  cases (hf _ _).1 h with
  | read _ hi => omega
  | pass _ _ hi => omega
theorem listB_mem {f : Nat → Bool} {m : Nat} {v : Int} : v ∈ listB ((List.range m).map f) ↔ ∃ b : Nat, v = (b : Int) ∧ b < m ∧ f b = true := by
  rw [listB_range, List.mem_map]
  constructor
  · rintro ⟨b, hb, rfl⟩
    obtain ⟨h1, h2⟩ := List.mem_filter.1 hb
    exact ⟨b, rfl, List.mem_range.1 h1, h2⟩
  · rintro ⟨b, rfl, h1, h2⟩
    exact ⟨b, List.mem_filter.2 ⟨List.mem_range.2 h1, h2⟩, rfl⟩

set_option maxRecDepth 100000 in
set_option maxHeartbeats 2000000 in
theorem kvast_c (code : Ls (Ls Ins)) (words : Ls Int) (locks regs : Int) (W : World) (hcode : code.At W) (hwords : words.At W) :
    Rets Try.prog 44 [.agg #[code.v, words.v, .int .i64 locks, .int .i64 regs]] W (fun v w' => v = .bool (vastG (code.l.map (·.l)) words.l) ∧ Sh0 W w' []) := by
 refine x_enter (N := 39) Try.func44 rfl Try.ntmps44 (Nat.le_of_ble_eq_true rfl) fun a1 hf1 => ?_
 have h1 : St 39 (fun _ => False) W a1 W [(0, .agg #[code.v, words.v, .int .i64 locks, .int .i64 regs])] [.at_ code, .at_ words] := ⟨hf1.sub ⟨rfl, trivial⟩, Sh0.ext2 hcode hwords⟩
 clear hf1
 refine wp_seq_k fun K2 hK2 => wp_region_lit ?_
 refine wl_ex (x_box (cs := [code.v, words.v, .int .i64 locks, .int .i64 regs]) h1 rfl rfl rfl rfl rfl) (wanted_none rfl _) ?_
 rintro a3 w3 ⟨b3, h3⟩; clear h1
 refine wms 1 h3 rfl fun a4 h4 => ?_; clear h3
 refine wpList_nil (hK2 _ _ ?_)
 refine wp_seq_k fun K5 hK5 => wp_region_lit ?_
 refine wv h4 (r_fieldB (r := 0) fl_28_0 rfl rfl rfl) rfl rfl fun a6 h6 => ?_; clear h4
 refine wv h6 (r_ldb (i := 0) ti_26 rfl rfl rfl rfl) rfl rfl fun a7 h7 => ?_; clear h6
 have hl8 : code.l.length ≤ 140737488355328 := (h7.sh.at 1 rfl).len
 refine wv h7 (r_len (s := code) (n := code.l.length) sl_26 rfl rfl (fun w h => (h.at 1 rfl)) rfl) rfl rfl fun a9 h9 => ?_; clear h7
 refine wv h9 (r_fieldB (r := 1) fl_28_1 rfl rfl rfl) rfl rfl fun a10 h10 => ?_; clear h9
 refine wv h10 (r_ldb (i := 0) ti_24 rfl rfl rfl rfl) rfl rfl fun a11 h11 => ?_; clear h10
 have hl12 : words.l.length ≤ 140737488355328 := (h11.sh.at 2 rfl).len
 refine wv h11 (r_len (s := words) (n := words.l.length) sl_24 rfl rfl (fun w h => (h.at 2 rfl)) rfl) rfl rfl fun a13 h13 => ?_; clear h11
 refine wv h13 (r_addN (p := code.l.length) (q := words.l.length) rfl rfl rfl (show code.l.length + words.l.length < 9223372036854775808 from (by first | omega | (have := (hcode.inner t (by omega) : (nth code.l t).At W).len; omega)))) rfl rfl fun a14 h14 => ?_; clear h13
 refine wms 1 h14 rfl fun a15 h15 => ?_; clear h14
 refine wpList_nil (hK5 _ _ ?_)
 refine wp_seq_k fun K16 hK16 => ?_
 refine wp_seq_k fun K17 hK17 => wp_region_lit ?_
 refine wms 1 h15 rfl fun a18 h18 => ?_; clear h15
 refine wpList_nil (hK17 _ _ ?_)
 refine wp_block ?_
 have hwl := hwords.len
 have hcl := hcode.len
 refine x_loop (fun m a w => ∃ (n t : Nat), (t ≤ code.l.length ∧ t ≤ 100) ∧ ((n : Int) = code.l.length + words.l.length + (((code.l.map (·.l)).take t).map fun s => (s.length : Int)).sum) ∧ (n ≤ (t + 2) * 140737488355328) ∧ St 39 (fun _ => False) W a w [(1, .pointer (some ⟨b3, 0, none⟩)), (3, .int .i64 ((n : Nat) : Int)), (4, .int .i64 ((t : Nat) : Int))] [.blk b3 28 [code.v, words.v, .int .i64 locks, .int .i64 regs], .at_ code, .at_ words] ∧ m = code.l.length - t) ⟨_, code.l.length + words.l.length, 0, (by omega), (by simp), (by omega), h18.nrm ⟨rfl, rfl, rfl, trivial⟩ [0, 1, 2] (by decide) ⟨rfl, rfl, rfl, trivial⟩, rfl⟩ ?_
 clear h18
 rintro m19 a19 w19 ⟨n, t, ht, hn, hn2, h19, hm19⟩
 refine wp_seq_k fun K20 hK20 => ?_
 refine wp_seq_k fun K21 hK21 => wp_region_lit ?_
 refine wms 1 h19 rfl fun a22 h22 => ?_; clear h19
 refine wv h22 (r_fieldB (r := 0) fl_28_0 rfl rfl rfl) rfl rfl fun a23 h23 => ?_; clear h22
 refine wv h23 (r_ldb (i := 0) ti_26 rfl rfl rfl rfl) rfl rfl fun a24 h24 => ?_; clear h23
 refine wv h24 (r_len (s := code) (n := code.l.length) sl_26 rfl rfl (fun w h => (h.at 1 rfl)) rfl) rfl rfl fun a25 h25 => ?_; clear h24
 refine wv h25 (r_lssN (p := t) (q := code.l.length) rfl rfl rfl) rfl rfl fun a26 h26 => ?_; clear h25
 refine wms 1 h26 rfl fun a27 h27 => ?_; clear h26
 rcases Bool.eq_false_or_eq_true (decide (t < code.l.length)) with hb28 | hb28
 ·
  have hp28 : t < code.l.length := of_decide_eq_true hb28
  refine wl_val h27 (r_move rfl rfl) (wanted_yes h27.fr rfl rfl rfl rfl hb28) rfl rfl fun a29 h29 => ?_; clear h27
  refine wl_val h29 (r_lssN (p := t) (q := 100) rfl rfl rfl) (wanted_yes h29.fr rfl rfl rfl rfl hb28) rfl rfl fun a30 h30 => ?_; clear h29
  refine wv h30 (r_pickT rfl rfl hb28 rfl) rfl rfl fun a31 h31 => ?_; clear h30
  refine wpList_nil (hK21 _ _ ?_)
  refine x_cond h31 rfl (fun hb32 => ?_) (fun hb32 => ?_)
  ·
   have hp32 : t < 100 := of_decide_eq_true hb32
   refine wp_skip ?_
   refine hK20 _ _ ?_
   have hlt := (hcode.inner t (by omega) : (nth code.l t).At W).len
   refine wp_seq_k fun K33 hK33 => ?_
   refine wp_block ?_
   refine wp_region_lit ?_
   refine wms 1 h31 rfl fun a34 h34 => ?_; clear h31
   refine wv h34 (r_fieldB (r := 0) fl_28_0 rfl rfl rfl) rfl rfl fun a35 h35 => ?_; clear h34
   refine wv h35 (r_ldb (i := 0) ti_26 rfl rfl rfl rfl) rfl rfl fun a36 h36 => ?_; clear h35
   refine wms 1 h36 rfl fun a37 h37 => ?_; clear h36
   refine wv h37 (r_ixN (s := code) (q := t) sl_26 ti_64 rfl rfl rfl (fun w h => (h.at 1 rfl)) (show t < code.l.length from (by omega))) rfl rfl fun a38 h38 => ?_; clear h37
   refine wv h38 (r_lde (s := code) (i := t) (v := (nth code.l t).v) ti_64 rfl rfl rfl (fun w h => (h.at 1 rfl)) (show t < code.l.length from (by omega)) (Nat.le_of_ble_eq_true rfl) rfl) rfl rfl fun a39 h39 => ?_; clear h38
   have hl40 : ((nth code.l t).l).length ≤ 140737488355328 := ((h39.sh.at 1 rfl).nth t (show t < code.l.length from (by omega))).len
   refine wv h39 (r_len (s := nth code.l t) (n := ((nth code.l t).l).length) sl_64 rfl rfl (fun w h => ((h.at 1 rfl).nth t (show t < code.l.length from (by omega)))) rfl) rfl rfl fun a41 h41 => ?_; clear h39
   refine wv h41 (r_addN (p := n) (q := ((nth code.l t).l).length) rfl rfl rfl (show n + (((nth code.l t).l).length) < 9223372036854775808 from (by first | omega | (have := (hcode.inner t (by omega) : (nth code.l t).At W).len; omega)))) rfl rfl fun a42 h42 => ?_; clear h41
   refine wms 1 h42 rfl fun a43 h43 => ?_; clear h42
   refine wpList_nil (hK33 _ _ ?_)
   refine wp_region_lit ?_
   refine wms 1 h43 rfl fun a44 h44 => ?_; clear h43
   refine wv h44 (r_addN (p := t) (q := 1) rfl rfl rfl (show t + 1 < 9223372036854775808 from (by first | omega | (have := (hcode.inner t (by omega) : (nth code.l t).At W).len; omega)))) rfl rfl fun a45 h45 => ?_; clear h44
   refine wms 1 h45 rfl fun a46 h46 => ?_; clear h45
   refine wpList_nil ?_
   refine x_again ⟨_, ?_, n + (((nth code.l t).l).length), t + 1, ?_, ?_, ?_, h46.nrm ⟨rfl, rfl, rfl, trivial⟩ [0, 1, 2] (by decide) ⟨rfl, rfl, rfl, trivial⟩, rfl⟩
   · rw [hm19]; first | omega | (simp only [lens9]; omega)
   · omega
   · rw [take_succ_nth _ _ (by simp; omega), List.map_append, List.sum_append, nth_map' _ _ _ (by omega)]; simp only [List.map_cons, List.map_nil, List.sum_cons, List.sum_nil]; omega
   · omega
  have hp32 : ¬ (t < 100) := of_decide_eq_false hb32
  refine wp_exit ?_
  refine hK16 _ _ ?_
  refine wp_seq_k fun K47 hK47 => wp_region_lit ?_
  refine wms 1 h31 rfl fun a48 h48 => ?_; clear h31
  refine wv h48 (r_gtrN (p := n) (q := 5000) rfl rfl rfl) rfl rfl fun a49 h49 => ?_; clear h48
  refine wms 1 h49 rfl fun a50 h50 => ?_; clear h49
  rcases Bool.eq_false_or_eq_true (decide (5000 < n)) with hb51 | hb51
  ·
   have hp51 : 5000 < n := of_decide_eq_true hb51
   refine wl_skip h50 (wanted_no h50.fr rfl rfl rfl rfl hb51) rfl rfl fun a52 h52 => ?_; clear h50
   refine wl_skip h52 (wanted_no h52.fr rfl rfl rfl rfl hb51) rfl rfl fun a53 h53 => ?_; clear h52
   refine wl_skip h53 (wanted_no h53.fr rfl rfl rfl rfl hb51) rfl rfl fun a54 h54 => ?_; clear h53
   refine wl_skip h54 (wanted_no h54.fr rfl rfl rfl rfl hb51) rfl rfl fun a55 h55 => ?_; clear h54
   refine wv h55 (r_pickT rfl rfl hb51 rfl) rfl rfl fun a56 h56 => ?_; clear h55
   refine wms 1 h56 rfl fun a57 h57 => ?_; clear h56
   refine wpList_nil (hK47 _ _ ?_)
   refine wp_ret ?_
   try simp only [Exit.then, Exit.inBlock]
   refine x_ret1 (fn := Try.f44) (t := 2) rfl h57 rfl ?_
   refine ⟨?_, (h57.sh.sel [] (by decide) trivial)⟩
   congr 1
   have hv : vastG (code.l.map (·.l)) words.l = (decide (5000 < n) || decide (100 < code.l.length)) := by unfold vastG; rw [take_hund (l := code.l.map (·.l)) (t := t) (by simp; omega) (by omega) (by simp; omega), List.length_map]; congr 1 <;> (rw [decide_eq_decide]; omega)
   rw [hv]
   first | (rw [show decide (5000 < n) = true by assumption]; rfl) | (rw [show decide (5000 < n) = false by assumption]; rfl)
  have hp51 : ¬ (5000 < n) := of_decide_eq_false hb51
  refine wl_val h50 (r_fieldB (r := 0) fl_28_0 rfl rfl rfl) (wanted_yes h50.fr rfl rfl rfl rfl hb51) rfl rfl fun a58 h58 => ?_; clear h50
  refine wl_val h58 (r_ldb (i := 0) ti_26 rfl rfl rfl rfl) (wanted_yes h58.fr rfl rfl rfl rfl hb51) rfl rfl fun a59 h59 => ?_; clear h58
  refine wl_val h59 (r_len (s := code) (n := code.l.length) sl_26 rfl rfl (fun w h => (h.at 1 rfl)) rfl) (wanted_yes h59.fr rfl rfl rfl rfl hb51) rfl rfl fun a60 h60 => ?_; clear h59
  refine wl_val h60 (r_gtrN (p := code.l.length) (q := 100) rfl rfl rfl) (wanted_yes h60.fr rfl rfl rfl rfl hb51) rfl rfl fun a61 h61 => ?_; clear h60
  refine wv h61 (r_pickF rfl rfl hb51 rfl) rfl rfl fun a62 h62 => ?_; clear h61
  refine wms 1 h62 rfl fun a63 h63 => ?_; clear h62
  refine wpList_nil (hK47 _ _ ?_)
  refine wp_ret ?_
  try simp only [Exit.then, Exit.inBlock]
  refine x_ret1 (fn := Try.f44) (t := 2) rfl h63 rfl ?_
  refine ⟨?_, (h63.sh.sel [] (by decide) trivial)⟩
  congr 1
  have hv : vastG (code.l.map (·.l)) words.l = (decide (5000 < n) || decide (100 < code.l.length)) := by unfold vastG; rw [take_hund (l := code.l.map (·.l)) (t := t) (by simp; omega) (by omega) (by simp; omega), List.length_map]; congr 1 <;> (rw [decide_eq_decide]; omega)
  rw [hv]
  first | (rw [show decide (5000 < n) = true by assumption]; rfl) | (rw [show decide (5000 < n) = false by assumption]; rfl)
 have hp28 : ¬ (t < code.l.length) := of_decide_eq_false hb28
 refine wl_skip h27 (wanted_no h27.fr rfl rfl rfl rfl hb28) rfl rfl fun a64 h64 => ?_; clear h27
 refine wl_skip h64 (wanted_no h64.fr rfl rfl rfl rfl hb28) rfl rfl fun a65 h65 => ?_; clear h64
 refine wv h65 (r_pickF rfl rfl hb28 rfl) rfl rfl fun a66 h66 => ?_; clear h65
 refine wpList_nil (hK21 _ _ ?_)
 refine x_condF h66 rfl rfl ?_
 refine wp_exit ?_
 refine hK16 _ _ ?_
 refine wp_seq_k fun K67 hK67 => wp_region_lit ?_
 refine wms 1 h66 rfl fun a68 h68 => ?_; clear h66
 refine wv h68 (r_gtrN (p := n) (q := 5000) rfl rfl rfl) rfl rfl fun a69 h69 => ?_; clear h68
 refine wms 1 h69 rfl fun a70 h70 => ?_; clear h69
 rcases Bool.eq_false_or_eq_true (decide (5000 < n)) with hb71 | hb71
 ·
  have hp71 : 5000 < n := of_decide_eq_true hb71
  refine wl_skip h70 (wanted_no h70.fr rfl rfl rfl rfl hb71) rfl rfl fun a72 h72 => ?_; clear h70
  refine wl_skip h72 (wanted_no h72.fr rfl rfl rfl rfl hb71) rfl rfl fun a73 h73 => ?_; clear h72
  refine wl_skip h73 (wanted_no h73.fr rfl rfl rfl rfl hb71) rfl rfl fun a74 h74 => ?_; clear h73
  refine wl_skip h74 (wanted_no h74.fr rfl rfl rfl rfl hb71) rfl rfl fun a75 h75 => ?_; clear h74
  refine wv h75 (r_pickT rfl rfl hb71 rfl) rfl rfl fun a76 h76 => ?_; clear h75
  refine wms 1 h76 rfl fun a77 h77 => ?_; clear h76
  refine wpList_nil (hK67 _ _ ?_)
  refine wp_ret ?_
  try simp only [Exit.then, Exit.inBlock]
  refine x_ret1 (fn := Try.f44) (t := 2) rfl h77 rfl ?_
  refine ⟨?_, (h77.sh.sel [] (by decide) trivial)⟩
  congr 1
  have hv : vastG (code.l.map (·.l)) words.l = (decide (5000 < n) || decide (100 < code.l.length)) := by unfold vastG; rw [take_hund (l := code.l.map (·.l)) (t := t) (by simp; omega) (by omega) (by simp; omega), List.length_map]; congr 1 <;> (rw [decide_eq_decide]; omega)
  rw [hv]
  first | (rw [show decide (5000 < n) = true by assumption]; rfl) | (rw [show decide (5000 < n) = false by assumption]; rfl)
 have hp71 : ¬ (5000 < n) := of_decide_eq_false hb71
 refine wl_val h70 (r_fieldB (r := 0) fl_28_0 rfl rfl rfl) (wanted_yes h70.fr rfl rfl rfl rfl hb71) rfl rfl fun a78 h78 => ?_; clear h70
 refine wl_val h78 (r_ldb (i := 0) ti_26 rfl rfl rfl rfl) (wanted_yes h78.fr rfl rfl rfl rfl hb71) rfl rfl fun a79 h79 => ?_; clear h78
 refine wl_val h79 (r_len (s := code) (n := code.l.length) sl_26 rfl rfl (fun w h => (h.at 1 rfl)) rfl) (wanted_yes h79.fr rfl rfl rfl rfl hb71) rfl rfl fun a80 h80 => ?_; clear h79
 refine wl_val h80 (r_gtrN (p := code.l.length) (q := 100) rfl rfl rfl) (wanted_yes h80.fr rfl rfl rfl rfl hb71) rfl rfl fun a81 h81 => ?_; clear h80
 refine wv h81 (r_pickF rfl rfl hb71 rfl) rfl rfl fun a82 h82 => ?_; clear h81
 refine wms 1 h82 rfl fun a83 h83 => ?_; clear h82
 refine wpList_nil (hK67 _ _ ?_)
 refine wp_ret ?_
 try simp only [Exit.then, Exit.inBlock]
 refine x_ret1 (fn := Try.f44) (t := 2) rfl h83 rfl ?_
 refine ⟨?_, (h83.sh.sel [] (by decide) trivial)⟩
 congr 1
 have hv : vastG (code.l.map (·.l)) words.l = (decide (5000 < n) || decide (100 < code.l.length)) := by unfold vastG; rw [take_hund (l := code.l.map (·.l)) (t := t) (by simp; omega) (by omega) (by simp; omega), List.length_map]; congr 1 <;> (rw [decide_eq_decide]; omega)
 rw [hv]
 first | (rw [show decide (5000 < n) = true by assumption]; rfl) | (rw [show decide (5000 < n) = false by assumption]; rfl)

set_option maxRecDepth 100000 in
set_option maxHeartbeats 1000000 in
theorem kints_c (x y : Ls Int) (W : World) (hx : x.At W) (hy : y.At W) :
    Rets Try.prog 43 [x.v, y.v] W (fun v w' => v = .bool (decide (x.l = y.l)) ∧ Sh0 W w' []) := by
 refine x_enter (N := 26) Try.func43 rfl Try.ntmps43 (Nat.le_of_ble_eq_true rfl) fun a1 hf1 => ?_
 have h1 : St 26 (fun _ => False) W a1 W [(0, x.v), (1, y.v)] [.at_ x, .at_ y] := ⟨hf1.sub ⟨rfl, rfl, trivial⟩, Sh0.ext2 hx hy⟩
 clear hf1
 refine wp_seq_k fun K2 hK2 => wp_region_lit ?_
 refine wms 1 h1 rfl fun a3 h3 => ?_; clear h1
 refine wpList_nil (hK2 _ _ ?_)
 refine wp_seq_k fun K4 hK4 => ?_
 refine wp_seq_k fun K5 hK5 => wp_region_lit ?_
 refine wms 1 h3 rfl fun a6 h6 => ?_; clear h3
 have hl7 : x.l.length ≤ 140737488355328 := (h6.sh.at 0 rfl).len
 refine wv h6 (r_len (s := x) (n := x.l.length) sl_24 rfl rfl (fun w h => (h.at 0 rfl)) rfl) rfl rfl fun a8 h8 => ?_; clear h6
 refine wms 1 h8 rfl fun a9 h9 => ?_; clear h8
 have hl10 : y.l.length ≤ 140737488355328 := (h9.sh.at 1 rfl).len
 refine wv h9 (r_len (s := y) (n := y.l.length) sl_24 rfl rfl (fun w h => (h.at 1 rfl)) rfl) rfl rfl fun a11 h11 => ?_; clear h9
 refine wv h11 (r_neqN (p := x.l.length) (q := y.l.length) rfl rfl rfl) rfl rfl fun a12 h12 => ?_; clear h11
 refine wpList_nil (hK5 _ _ ?_)
 refine x_cond h12 rfl (fun hb13 => ?_) (fun hb13 => ?_)
 ·
  have hp13 : x.l.length ≠ y.l.length := of_decide_eq_true hb13
  refine wp_seq_k fun K14 hK14 => wp_region_lit ?_
  refine wms 1 h12 rfl fun a15 h15 => ?_; clear h12
  refine wpList_nil (hK14 _ _ ?_)
  refine wp_ret ?_
  try simp only [Exit.then, Exit.inBlock]
  refine x_ret1 (fn := Try.f43) (t := 4) rfl h15 rfl ?_
  refine ⟨?_, (h15.sh.sel [] (by decide) trivial)⟩
  congr 1
  first | (exact (decide_eq_true (ext_nth _ _ (by omega) fun i hi => hall i (by omega))).symm) | (refine (decide_eq_false fun e => ?_).symm; simp_all)
 have hp13 : ¬ (x.l.length ≠ y.l.length) := of_decide_eq_false hb13
 refine wp_skip ?_
 refine hK4 _ _ ?_
 refine wp_seq_k fun K16 hK16 => ?_
 refine wp_seq_k fun K17 hK17 => wp_region_lit ?_
 refine wms 1 h12 rfl fun a18 h18 => ?_; clear h12
 refine wpList_nil (hK17 _ _ ?_)
 refine wp_block ?_
 refine x_loop (fun m a w => ∃ (k : Nat), (k ≤ x.l.length) ∧ (∀ j, j < k → nth x.l j = nth y.l j) ∧ St 26 (fun _ => False) W a w [(0, x.v), (1, y.v), (5, .int .i64 ((k : Nat) : Int))] [.at_ x, .at_ y] ∧ m = x.l.length - k) ⟨_, 0, (by omega), (fun j hj => absurd hj (by omega)), h18.nrm ⟨rfl, rfl, rfl, trivial⟩ [0, 1] (by decide) ⟨rfl, rfl, trivial⟩, rfl⟩ ?_
 clear h18
 rintro m19 a19 w19 ⟨k, hk, hall, h19, hm19⟩
 refine wp_seq_k fun K20 hK20 => ?_
 refine wp_seq_k fun K21 hK21 => wp_region_lit ?_
 refine wms 2 h19 rfl fun a22 h22 => ?_; clear h19
 refine wv h22 (r_len (s := x) (n := x.l.length) sl_24 rfl rfl (fun w h => (h.at 0 rfl)) rfl) rfl rfl fun a23 h23 => ?_; clear h22
 refine wv h23 (r_lssN (p := k) (q := x.l.length) rfl rfl rfl) rfl rfl fun a24 h24 => ?_; clear h23
 refine wpList_nil (hK21 _ _ ?_)
 refine x_cond h24 rfl (fun hb25 => ?_) (fun hb25 => ?_)
 ·
  have hp25 : k < x.l.length := of_decide_eq_true hb25
  refine wp_skip ?_
  refine hK20 _ _ ?_
  refine wp_seq_k fun K26 hK26 => ?_
  refine wp_block ?_
  refine wp_seq_k fun K27 hK27 => ?_
  refine x_quiet (by kernel_rfl) (by kernel_rfl) h24 fun Z28 hZ28 => ?_
  have hq28 := h24.fr
  refine wq_val hq28 (r_move rfl rfl) (wanted_none rfl _) rfl rfl fun a29 hq29 => ?_; clear hq28
  refine wq_val hq29 (r_move rfl rfl) (wanted_none rfl _) rfl rfl fun a30 hq30 => ?_; clear hq29
  refine wq_val hq30 (r_ixN (s := x) (q := k) sl_24 ti_3 rfl rfl rfl (fun w h => (h.at 0 rfl)) (show k < x.l.length from (by omega))) (wanted_none rfl _) rfl rfl fun a31 hq31 => ?_; clear hq30
  refine wq_val hq31 (r_lde (s := x) (i := k) (v := .int .i64 (nth x.l k)) ti_3 rfl rfl rfl (fun w h => (h.at 0 rfl)) (show k < x.l.length from (by omega)) (Nat.le_of_ble_eq_true rfl) rfl) (wanted_none rfl _) rfl rfl fun a32 hq32 => ?_; clear hq31
  refine wq_val hq32 (r_move rfl rfl) (wanted_none rfl _) rfl rfl fun a33 hq33 => ?_; clear hq32
  refine wq_val hq33 (r_move rfl rfl) (wanted_none rfl _) rfl rfl fun a34 hq34 => ?_; clear hq33
  refine wq_val hq34 (r_ixN (s := y) (q := k) sl_24 ti_3 rfl rfl rfl (fun w h => (h.at 1 rfl)) (show k < y.l.length from (by omega))) (wanted_none rfl _) rfl rfl fun a35 hq35 => ?_; clear hq34
  refine wq_val hq35 (r_lde (s := y) (i := k) (v := .int .i64 (nth y.l k)) ti_3 rfl rfl rfl (fun w h => (h.at 1 rfl)) (show k < y.l.length from (by omega)) (Nat.le_of_ble_eq_true rfl) rfl) (wanted_none rfl _) rfl rfl fun a36 hq36 => ?_; clear hq35
  refine wq_val hq36 (r_neqI (p := nth x.l k) (q := nth y.l k) rfl rfl rfl) (wanted_none rfl _) rfl rfl fun a37 hq37 => ?_; clear hq36
  refine wpQuiet_nil (hZ28 _ fun w38 hw38 => ?_)
  have h38 : St 26 (fun _ => False) W a37 w38 _ _ := ⟨hq37, hw38⟩
  clear hq37 hw38 h24
  refine hK27 _ _ ?_
  refine x_cond h38 rfl (fun hb39 => ?_) (fun hb39 => ?_)
  ·
   have hp39 : nth x.l k ≠ nth y.l k := of_decide_eq_true hb39
   refine wp_seq_k fun K40 hK40 => wp_region_lit ?_
   refine wms 1 h38 rfl fun a41 h41 => ?_; clear h38
   refine wpList_nil (hK40 _ _ ?_)
   refine wp_ret ?_
   try simp only [Exit.then, Exit.inBlock]
   refine x_ret1 (fn := Try.f43) (t := 4) rfl h41 rfl ?_
   refine ⟨?_, (h41.sh.sel [] (by decide) trivial)⟩
   congr 1
   first | (exact (decide_eq_true (ext_nth _ _ (by omega) fun i hi => hall i (by omega))).symm) | (refine (decide_eq_false fun e => ?_).symm; simp_all)
  have hp39 : ¬ (nth x.l k ≠ nth y.l k) := of_decide_eq_false hb39
  refine wp_skip ?_
  refine hK26 _ _ ?_
  refine wp_region_lit ?_
  refine wms 1 h38 rfl fun a42 h42 => ?_; clear h38
  refine wv h42 (r_addN (p := k) (q := 1) rfl rfl rfl (show k + 1 < 9223372036854775808 from (by omega))) rfl rfl fun a43 h43 => ?_; clear h42
  refine wms 1 h43 rfl fun a44 h44 => ?_; clear h43
  refine wpList_nil ?_
  refine x_again ⟨_, ?_, k + 1, ?_, ?_, h44.nrm ⟨rfl, rfl, rfl, trivial⟩ [0, 1] (by decide) ⟨rfl, rfl, trivial⟩, rfl⟩
  · rw [hm19]; first | omega | (simp only [lens9]; omega)
  · omega
  · intro j hj; rcases Nat.lt_or_ge j k with h | h; exact hall j h; obtain rfl : j = k := (by omega); simp_all
 have hp25 : ¬ (k < x.l.length) := of_decide_eq_false hb25
 refine wp_exit ?_
 refine hK16 _ _ ?_
 refine wp_seq_k fun K45 hK45 => wp_region_lit ?_
 refine wms 1 h24 rfl fun a46 h46 => ?_; clear h24
 refine wpList_nil (hK45 _ _ ?_)
 refine wp_ret ?_
 try simp only [Exit.then, Exit.inBlock]
 refine x_ret1 (fn := Try.f43) (t := 4) rfl h46 rfl ?_
 refine ⟨?_, (h46.sh.sel [] (by decide) trivial)⟩
 congr 1
 first | (exact (decide_eq_true (ext_nth _ _ (by omega) fun i hi => hall i (by omega))).symm) | (refine (decide_eq_false fun e => ?_).symm; simp_all)

set_option maxRecDepth 100000 in
set_option maxHeartbeats 1000000 in
theorem buffers_c (W : World) :
    Rets Try.prog 42 [] W (fun v w' => ∃ (c : Ls (Ls Ins)) (u : Ls Int), v = .agg #[c.v, u.v, .int .i64 0, .int .i64 2] ∧ c.l.map (·.l) = [buf0, buf1] ∧ u.l = [0, 0] ∧ Sh0 W w' [.deep 64 c, .own 3 u]) := by
 refine x_enter (N := 18) Try.func42 rfl Try.ntmps42 (Nat.le_of_ble_eq_true rfl) fun a1 hf1 => ?_
 have h1 : St 18 (fun _ => False) W a1 W [] [] := ⟨hf1.sub trivial, Sh0.start W⟩
 clear hf1
 refine wp_seq_k fun K2 hK2 => wp_region_lit ?_
 refine wl_ex (x_alloc h1 ti_28 rfl rfl rfl) (wanted_none rfl _) ?_
 rintro a3 w3 ⟨b3, h3⟩; clear h1
 refine wpList_nil (hK2 _ _ ?_)
 refine wp_seq_k fun K4 hK4 => wp_region_lit ?_
 refine wv h3 (r_build (cs := [.int .i64 1, .int .i64 0, .int .i64 1, .int .i64 0]) rfl rfl (by kernel_rfl)) rfl rfl fun a5 h5 => ?_; clear h3
 refine wv h5 (r_build (cs := [.int .i64 9, .int .i64 0, .int .i64 0, .int .i64 0]) rfl rfl (by kernel_rfl)) rfl rfl fun a6 h6 => ?_; clear h5
 refine wv h6 (r_build (cs := [.int .i64 8, .int .i64 1, .int .i64 1, .int .i64 0]) rfl rfl (by kernel_rfl)) rfl rfl fun a7 h7 => ?_; clear h6
 refine wv h7 (r_build (cs := [.int .i64 16, .int .i64 1, .int .i64 0, .int .i64 0]) rfl rfl (by kernel_rfl)) rfl rfl fun a8 h8 => ?_; clear h7
 refine wl_ex (x_lit (n := 4) (cs := [.int .i64 1, .int .i64 0, .int .i64 1, .int .i64 0, .int .i64 9, .int .i64 0, .int .i64 0, .int .i64 0, .int .i64 8, .int .i64 1, .int .i64 1, .int .i64 0, .int .i64 16, .int .i64 1, .int .i64 0, .int .i64 0]) ([(⟨1, 0, 1, 0⟩ : Ins), (⟨9, 0, 0, 0⟩ : Ins), (⟨8, 1, 1, 0⟩ : Ins), (⟨16, 1, 0, 0⟩ : Ins)] : List Ins) h8 sl_64 ti_73 rfl rfl rfl (by decide) rfl (by kernel_rfl) rfl (fun q hq w h => Flat.inner _ _) (fun q hq b hb => (Flat.on _ _ hb).elim) rfl rfl) (wanted_none rfl _) ?_
 rintro a9 w9 ⟨v9, h9⟩; clear h8
 refine wms 1 h9 rfl fun a10 h10 => ?_; clear h9
 refine wpList_nil (hK4 _ _ ?_)
 refine wp_seq_k fun K11 hK11 => wp_region_lit ?_
 refine wv h10 (r_build (cs := [.int .i64 1, .int .i64 0, .int .i64 1, .int .i64 0]) rfl rfl (by kernel_rfl)) rfl rfl fun a12 h12 => ?_; clear h10
 refine wv h12 (r_build (cs := [.int .i64 9, .int .i64 1, .int .i64 0, .int .i64 0]) rfl rfl (by kernel_rfl)) rfl rfl fun a13 h13 => ?_; clear h12
 refine wv h13 (r_build (cs := [.int .i64 8, .int .i64 1, .int .i64 0, .int .i64 0]) rfl rfl (by kernel_rfl)) rfl rfl fun a14 h14 => ?_; clear h13
 refine wv h14 (r_build (cs := [.int .i64 16, .int .i64 1, .int .i64 0, .int .i64 0]) rfl rfl (by kernel_rfl)) rfl rfl fun a15 h15 => ?_; clear h14
 refine wl_ex (x_lit (n := 4) (cs := [.int .i64 1, .int .i64 0, .int .i64 1, .int .i64 0, .int .i64 9, .int .i64 1, .int .i64 0, .int .i64 0, .int .i64 8, .int .i64 1, .int .i64 0, .int .i64 0, .int .i64 16, .int .i64 1, .int .i64 0, .int .i64 0]) ([(⟨1, 0, 1, 0⟩ : Ins), (⟨9, 1, 0, 0⟩ : Ins), (⟨8, 1, 0, 0⟩ : Ins), (⟨16, 1, 0, 0⟩ : Ins)] : List Ins) h15 sl_64 ti_73 rfl rfl rfl (by decide) rfl (by kernel_rfl) rfl (fun q hq w h => Flat.inner _ _) (fun q hq b hb => (Flat.on _ _ hb).elim) rfl rfl) (wanted_none rfl _) ?_
 rintro a16 w16 ⟨v16, h16⟩; clear h15
 refine wms 1 h16 rfl fun a17 h17 => ?_; clear h16
 refine wpList_nil (hK11 _ _ ?_)
 refine wp_seq_k fun K18 hK18 => wp_region_lit ?_
 refine wms 2 h17 rfl fun a19 h19 => ?_; clear h17
 refine wl_ex (x_lit (n := 2) (cs := [v9, v16]) ([⟨v9⟩, ⟨v16⟩] : List RV) h19 sl_26 ti_64 rfl rfl rfl (by decide) rfl (by obtain ⟨A21, n21, c21, (e21 : v9 = _)⟩ := ((h19.sh.own 1 rfl)).form; rw [e21]; obtain ⟨A20, n20, c20, (e20 : v16 = _)⟩ := ((h19.sh.own 0 rfl)).form; rw [e20]; kernel_rfl) rfl (fun _ _ _ _ => trivial) (fun q hq b hb => (Flat.on _ _ hb).elim) rfl rfl) (wanted_none rfl _) ?_
 rintro a22 w22 ⟨v22, h22⟩
 have h23 := h22.sel (L' := [.own 64 (⟨v22, [⟨v9⟩, ⟨v16⟩]⟩ : Ls RV), .own 73 (⟨v9, [(⟨1, 0, 1, 0⟩ : Ins), (⟨9, 0, 0, 0⟩ : Ins), (⟨8, 1, 1, 0⟩ : Ins), (⟨16, 1, 0, 0⟩ : Ins)]⟩ : Ls Ins), .own 73 (⟨v16, [(⟨1, 0, 1, 0⟩ : Ins), (⟨9, 1, 0, 0⟩ : Ins), (⟨8, 1, 0, 0⟩ : Ins), (⟨16, 1, 0, 0⟩ : Ins)]⟩ : Ls Ins), .blk b3 28 [(.slice none 0 0), (.slice none 0 0), .int .i64 0, .int .i64 0]]) [0, 2, 1, 3] (by decide) ⟨rfl, rfl, rfl, rfl, trivial⟩
 have h24 : St 18 (fun _ => False) W a22 w22 _ _ := ⟨h23.fr, (Sh.close (B := matX (.own 73) 64 v22 [(⟨v9, [(⟨1, 0, 1, 0⟩ : Ins), (⟨9, 0, 0, 0⟩ : Ins), (⟨8, 1, 1, 0⟩ : Ins), (⟨16, 1, 0, 0⟩ : Ins)]⟩ : Ls Ins), (⟨v16, [(⟨1, 0, 1, 0⟩ : Ins), (⟨9, 1, 0, 0⟩ : Ins), (⟨8, 1, 0, 0⟩ : Ins), (⟨16, 1, 0, 0⟩ : Ins)]⟩ : Ls Ins)]) h23.sh).matDeep own_mat⟩
 clear h23
 clear h19
 refine wl_ex (x_lit (n := 2) (cs := [.int .i64 0, .int .i64 0]) ([0, 0] : List Int) h24 sl_24 ti_3 rfl rfl rfl (by decide) rfl (by kernel_rfl) rfl (fun q hq w h => Flat.inner _ _) (fun q hq b hb => (Flat.on _ _ hb).elim) rfl rfl) (wanted_none rfl _) ?_
 rintro a25 w25 ⟨v25, h25⟩; clear h24
 refine wv h25 (r_build (cs := [v22, v25, .int .i64 0, .int .i64 2]) rfl rfl (by obtain ⟨A27, n27, c27, (e27 : v25 = _)⟩ := ((h25.sh.own 0 rfl)).form; rw [e27]; obtain ⟨A26, n26, c26, (e26 : v22 = _)⟩ := ((h25.sh.deep 1 rfl)).form; rw [e26]; kernel_rfl)) rfl rfl fun a28 h28 => ?_; clear h25
 refine wl_ex (x_stb (i := 2) (vs := [v22, v25, .int .i64 0, .int .i64 2]) (cs' := [v22, v25, .int .i64 0, .int .i64 2]) h28 ti_28 rfl rfl rfl rfl rfl rfl rfl (allOne_cons ((h28.sh.deep 1 rfl)).one (allOne_cons ((h28.sh.own 0 rfl)).one (allOne_cons rfl (allOne_cons rfl allOne_nil)))) (Nat.le_of_ble_eq_true rfl) rfl) (wanted_none rfl _) ?_
 rintro a29 w29 h29
 clear h28
 refine wpList_nil (hK18 _ _ ?_)
 refine wp_ret ?_
 try simp only [Exit.then, Exit.inBlock]
 refine x_ret1c (fn := Try.f42) (t := 0) (i := 2) ti_28 rfl h29 rfl rfl rfl ?_
 refine ⟨⟨v22, [(⟨v9, [(⟨1, 0, 1, 0⟩ : Ins), (⟨9, 0, 0, 0⟩ : Ins), (⟨8, 1, 1, 0⟩ : Ins), (⟨16, 1, 0, 0⟩ : Ins)]⟩ : Ls Ins), (⟨v16, [(⟨1, 0, 1, 0⟩ : Ins), (⟨9, 1, 0, 0⟩ : Ins), (⟨8, 1, 0, 0⟩ : Ins), (⟨16, 1, 0, 0⟩ : Ins)]⟩ : Ls Ins)]⟩, ⟨v25, [0, 0]⟩, rfl, rfl, rfl, (h29.sh.sel (L' := [.deep 64 (⟨v22, [(⟨v9, [(⟨1, 0, 1, 0⟩ : Ins), (⟨9, 0, 0, 0⟩ : Ins), (⟨8, 1, 1, 0⟩ : Ins), (⟨16, 1, 0, 0⟩ : Ins)]⟩ : Ls Ins), (⟨v16, [(⟨1, 0, 1, 0⟩ : Ins), (⟨9, 1, 0, 0⟩ : Ins), (⟨8, 1, 0, 0⟩ : Ins), (⟨16, 1, 0, 0⟩ : Ins)]⟩ : Ls Ins)]⟩ : Ls (Ls Ins)), .own 3 (⟨v25, [0, 0]⟩ : Ls Int)]) [1, 0] (by decide) ⟨rfl, rfl, trivial⟩)⟩

set_option maxRecDepth 100000 in
set_option maxHeartbeats 4000000 in
theorem liveEnds_v (code : Ls (Ls Ins)) (words : Ls Int) (locks regs : Int) (W : World) (hcode : code.At W) (hwords : words.At W) (hv : vastG (code.l.map (·.l)) words.l = true) :
    Rets Try.prog 14 [.agg #[code.v, words.v, .int .i64 locks, .int .i64 regs]] W (fun v w' => v = .bool true ∧ Sh0 W w' []) := by
 refine x_enter (N := 178) Try.func14 rfl Try.ntmps14 (Nat.le_of_ble_eq_true rfl) fun a1 hf1 => ?_
 have h1 : St 178 (fun _ => False) W a1 W [(0, .agg #[code.v, words.v, .int .i64 locks, .int .i64 regs])] [.at_ code, .at_ words] := ⟨hf1.sub ⟨rfl, trivial⟩, Sh0.ext2 hcode hwords⟩
 clear hf1
 refine wp_seq_k fun K2 hK2 => wp_region_lit ?_
 refine wl_ex (x_box (cs := [code.v, words.v, .int .i64 locks, .int .i64 regs]) h1 rfl rfl rfl rfl rfl) (wanted_none rfl _) ?_
 rintro a3 w3 ⟨b3, h3⟩; clear h1
 refine wms 1 h3 rfl fun a4 h4 => ?_; clear h3
 refine wpList_nil (hK2 _ _ ?_)
 refine wp_seq_k fun K5 hK5 => wp_region_lit ?_
 refine wl_ex (x_call h4 bd_42 rfl rfl rfl rfl rfl (buffers_c _)) (wanted_none rfl _) ?_
 rintro a6 w6 ⟨_, ⟨bc, bu, rfl, hbc, hbu, hs6⟩, hf6⟩
 have hokb := buf_ok hbc hbu
 obtain ⟨fb, hFb⟩ := liveF3 bc
 have h6 := (⟨hf6, h4.sh.call hs6 (by intro A hA b hb; first | (simp at hA; done) | (simp at hA; subst hA; first | exact Flat.noRd hb | exact (hb : False).elim) | (simp at hA; rcases hA with rfl | rfl <;> first | exact Flat.noRd hb | exact (hb : False).elim))⟩ : St 178 (fun _ => False) W a6 w6 _ _)
 clear hf6 hs6
 clear h4
 refine wl_ex (x_call h6 bd_36 rfl rfl rfl rfl rfl (ahead_k bc bu 0 2 fb _ (h6.sh.deep 0 rfl) (h6.sh.own 1 rfl) hokb (fun t _ => hFb t))) (wanted_none rfl _) ?_
 rintro a7 w7 ⟨_, ⟨sb, rfl, hab, hs7⟩, hf7⟩
 obtain ⟨hb1, hb2, hb3, hb4⟩ := buf_ahead hbc hFb hab
 have h7 := (⟨hf7, h6.sh.call hs7 (by intro A hA b hb; first | (simp at hA; done) | (simp at hA; subst hA; first | exact Flat.noRd hb | exact (hb : False).elim) | (simp at hA; rcases hA with rfl | rfl <;> first | exact Flat.noRd hb | exact (hb : False).elim))⟩ : St 178 (fun _ => False) W a7 w7 _ _)
 clear hf7 hs7
 clear h6
 refine wms 1 h7 rfl fun a8 h8 => ?_; clear h7
 refine wv h8 (r_extract rfl rfl rfl) rfl rfl fun a9 h9 => ?_; clear h8
 refine wv h9 (r_extract rfl rfl rfl) rfl rfl fun a10 h10 => ?_; clear h9
 refine wl_ex (x_alloc h10 ti_31 rfl rfl rfl) (wanted_none rfl _) ?_
 rintro a11 w11 ⟨b11, h11⟩; clear h10
 refine wms 1 h11 rfl fun a12 h12 => ?_; clear h11
 refine wl_ex (x_stb (i := 0) (vs := [.int .i64 0, .int .i64 0, .int .i64 0]) (cs' := [.int .i64 0, .int .i64 0, .int .i64 0]) h12 ti_31 rfl rfl rfl rfl rfl rfl rfl (allOne_cons rfl (allOne_cons rfl (allOne_cons rfl allOne_nil))) (Nat.le_of_ble_eq_true rfl) rfl) (wanted_none rfl _) ?_
 rintro a13 w13 h13
 clear h12
 refine wpList_nil (hK5 _ _ ?_)
 refine wp_seq_k fun K14 hK14 => ?_
 refine wp_seq_k fun K15 hK15 => wp_region_lit ?_
 refine wv h13 (r_fieldB (r := 0) fl_31_0 rfl rfl rfl) rfl rfl fun a16 h16 => ?_; clear h13
 refine wv h16 (r_ldb (i := 0) ti_22 rfl rfl rfl rfl) rfl rfl fun a17 h17 => ?_; clear h16
 refine wv h17 (r_neqN (p := 0) (q := 0) rfl rfl rfl) rfl rfl fun a18 h18 => ?_; clear h17
 refine wms 1 h18 rfl fun a19 h19 => ?_; clear h18
 refine wl_val h19 (r_move rfl rfl) (wanted_yes h19.fr rfl rfl rfl rfl (by decide)) rfl rfl fun a20 h20 => ?_; clear h19
 have hl21 : sb.l.length ≤ 140737488355328 := (h20.sh.deep 1 rfl).len
 refine wl_val h20 (r_len (s := sb) (n := sb.l.length) sl_59 rfl rfl (fun w h => (h.deep 1 rfl)) rfl) (wanted_yes h20.fr rfl rfl rfl rfl (by decide)) rfl rfl fun a22 h22 => ?_; clear h20
 refine wl_val h22 (r_neqN (p := sb.l.length) (q := 2) rfl rfl rfl) (wanted_yes h22.fr rfl rfl rfl rfl (by decide)) rfl rfl fun a23 h23 => ?_; clear h22
 refine wv h23 (r_pickF rfl rfl (by decide) rfl) rfl rfl fun a24 h24 => ?_; clear h23
 refine wms 1 h24 rfl fun a25 h25 => ?_; clear h24
 refine wl_val h25 (r_move rfl rfl) (wanted_yes h25.fr rfl rfl rfl rfl (decide_eq_false (by omega))) rfl rfl fun a26 h26 => ?_; clear h25
 refine wl_val h26 (r_ixN (s := sb) (q := 0) sl_59 ti_46 rfl rfl rfl (fun w h => (h.deep 1 rfl)) (show 0 < sb.l.length from (by omega))) (wanted_yes h26.fr rfl rfl rfl rfl (decide_eq_false (by omega))) rfl rfl fun a27 h27 => ?_; clear h26
 refine wl_val h27 (r_lde (s := sb) (i := 0) (v := (nth sb.l 0).v) ti_46 rfl rfl rfl (fun w h => (h.deep 1 rfl)) (show 0 < sb.l.length from (by omega)) (Nat.le_of_ble_eq_true rfl) rfl) (wanted_yes h27.fr rfl rfl rfl rfl (decide_eq_false (by omega))) rfl rfl fun a28 h28 => ?_; clear h27
 have hl29 : ((nth sb.l 0).l).length ≤ 140737488355328 := ((h28.sh.deep 1 rfl).nth 0 (show 0 < sb.l.length from (by omega))).len
 refine wl_val h28 (r_len (s := nth sb.l 0) (n := ((nth sb.l 0).l).length) sl_46 rfl rfl (fun w h => ((h.deep 1 rfl).nth 0 (show 0 < sb.l.length from (by omega)))) rfl) (wanted_yes h28.fr rfl rfl rfl rfl (decide_eq_false (by omega))) rfl rfl fun a30 h30 => ?_; clear h28
 refine wl_val h30 (r_neqN (p := ((nth sb.l 0).l).length) (q := 5) rfl rfl rfl) (wanted_yes h30.fr rfl rfl rfl rfl (decide_eq_false (by omega))) rfl rfl fun a31 h31 => ?_; clear h30
 refine wv h31 (r_pickF rfl rfl (decide_eq_false (by omega)) rfl) rfl rfl fun a32 h32 => ?_; clear h31
 refine wms 1 h32 rfl fun a33 h33 => ?_; clear h32
 refine wl_val h33 (r_move rfl rfl) (wanted_yes h33.fr rfl rfl rfl rfl (decide_eq_false (by omega))) rfl rfl fun a34 h34 => ?_; clear h33
 refine wl_val h34 (r_ixN (s := sb) (q := 0) sl_59 ti_46 rfl rfl rfl (fun w h => (h.deep 1 rfl)) (show 0 < sb.l.length from (by omega))) (wanted_yes h34.fr rfl rfl rfl rfl (decide_eq_false (by omega))) rfl rfl fun a35 h35 => ?_; clear h34
 refine wl_val h35 (r_lde (s := sb) (i := 0) (v := (nth sb.l 0).v) ti_46 rfl rfl rfl (fun w h => (h.deep 1 rfl)) (show 0 < sb.l.length from (by omega)) (Nat.le_of_ble_eq_true rfl) rfl) (wanted_yes h35.fr rfl rfl rfl rfl (decide_eq_false (by omega))) rfl rfl fun a36 h36 => ?_; clear h35
 refine wl_val h36 (r_ixN (s := nth sb.l 0) (q := 0) sl_46 ti_24 rfl rfl rfl (fun w h => ((h.deep 1 rfl).nth 0 (show 0 < sb.l.length from (by omega)))) (show 0 < ((nth sb.l 0).l).length from (by omega))) (wanted_yes h36.fr rfl rfl rfl rfl (decide_eq_false (by omega))) rfl rfl fun a37 h37 => ?_; clear h36
 refine wl_val h37 (r_lde (s := nth sb.l 0) (i := 0) (v := (nth ((nth sb.l 0).l) 0).v) ti_24 rfl rfl rfl (fun w h => ((h.deep 1 rfl).nth 0 (show 0 < sb.l.length from (by omega)))) (show 0 < ((nth sb.l 0).l).length from (by omega)) (Nat.le_of_ble_eq_true rfl) rfl) (wanted_yes h37.fr rfl rfl rfl rfl (decide_eq_false (by omega))) rfl rfl fun a38 h38 => ?_; clear h37
 have hl39 : ((nth ((nth sb.l 0).l) 0).l).length ≤ 140737488355328 := (((h38.sh.deep 1 rfl).nth 0 (show 0 < sb.l.length from (by omega))).nth 0 (show 0 < ((nth sb.l 0).l).length from (by omega))).len
 refine wl_val h38 (r_len (s := nth ((nth sb.l 0).l) 0) (n := ((nth ((nth sb.l 0).l) 0).l).length) sl_24 rfl rfl (fun w h => (((h.deep 1 rfl).nth 0 (show 0 < sb.l.length from (by omega))).nth 0 (show 0 < ((nth sb.l 0).l).length from (by omega)))) rfl) (wanted_yes h38.fr rfl rfl rfl rfl (decide_eq_false (by omega))) rfl rfl fun a40 h40 => ?_; clear h38
 refine wl_val h40 (r_neqN (p := ((nth ((nth sb.l 0).l) 0).l).length) (q := 0) rfl rfl rfl) (wanted_yes h40.fr rfl rfl rfl rfl (decide_eq_false (by omega))) rfl rfl fun a41 h41 => ?_; clear h40
 refine wv h41 (r_pickF rfl rfl (decide_eq_false (by omega)) rfl) rfl rfl fun a42 h42 => ?_; clear h41
 refine wms 1 h42 rfl fun a43 h43 => ?_; clear h42
 refine wl_val h43 (r_move rfl rfl) (wanted_yes h43.fr rfl rfl rfl rfl (decide_eq_false (by omega))) rfl rfl fun a44 h44 => ?_; clear h43
 refine wl_val h44 (r_ixN (s := sb) (q := 0) sl_59 ti_46 rfl rfl rfl (fun w h => (h.deep 1 rfl)) (show 0 < sb.l.length from (by omega))) (wanted_yes h44.fr rfl rfl rfl rfl (decide_eq_false (by omega))) rfl rfl fun a45 h45 => ?_; clear h44
 refine wl_val h45 (r_lde (s := sb) (i := 0) (v := (nth sb.l 0).v) ti_46 rfl rfl rfl (fun w h => (h.deep 1 rfl)) (show 0 < sb.l.length from (by omega)) (Nat.le_of_ble_eq_true rfl) rfl) (wanted_yes h45.fr rfl rfl rfl rfl (decide_eq_false (by omega))) rfl rfl fun a46 h46 => ?_; clear h45
 refine wl_val h46 (r_ixN (s := nth sb.l 0) (q := 1) sl_46 ti_24 rfl rfl rfl (fun w h => ((h.deep 1 rfl).nth 0 (show 0 < sb.l.length from (by omega)))) (show 1 < ((nth sb.l 0).l).length from (by omega))) (wanted_yes h46.fr rfl rfl rfl rfl (decide_eq_false (by omega))) rfl rfl fun a47 h47 => ?_; clear h46
 refine wl_val h47 (r_lde (s := nth sb.l 0) (i := 1) (v := (nth ((nth sb.l 0).l) 1).v) ti_24 rfl rfl rfl (fun w h => ((h.deep 1 rfl).nth 0 (show 0 < sb.l.length from (by omega)))) (show 1 < ((nth sb.l 0).l).length from (by omega)) (Nat.le_of_ble_eq_true rfl) rfl) (wanted_yes h47.fr rfl rfl rfl rfl (decide_eq_false (by omega))) rfl rfl fun a48 h48 => ?_; clear h47
 refine wl_ex (x_lit (n := 1) (cs := [.int .i64 0]) ([0] : List Int) h48 sl_24 ti_3 rfl rfl rfl (by decide) rfl (by kernel_rfl) rfl (fun q hq w h => Flat.inner _ _) (fun q hq b hb => (Flat.on _ _ hb).elim) rfl rfl) (wanted_yes h48.fr rfl rfl rfl rfl (decide_eq_false (by omega))) ?_
 rintro a49 w49 ⟨v49, h49⟩; clear h48
 refine wl_ex (x_call h49 bd_43 rfl rfl rfl rfl rfl (kints_c (nth ((nth sb.l 0).l) 1) (⟨v49, [0]⟩ : Ls Int) _ (((h49.sh.deep 2 rfl).nth 0 (show 0 < sb.l.length from (by omega))).nth 1 (show 1 < ((nth sb.l 0).l).length from (by omega))) (h49.sh.own 0 rfl))) (wanted_yes h49.fr rfl rfl rfl rfl (decide_eq_false (by omega))) ?_
 rintro a50 w50 ⟨_, ⟨rfl, hs50⟩, hf50⟩
 have h50 : St 178 (fun _ => False) W a50 w50 _ _ := ⟨hf50, h49.sh.call0 hs50⟩
 clear hf50 hs50
 clear h49
 refine wl_val h50 (r_not rfl rfl) (wanted_yes h50.fr rfl rfl rfl rfl (decide_eq_false (by omega))) rfl rfl fun a51 h51 => ?_; clear h50
 refine wv h51 (r_pickF rfl rfl (decide_eq_false (by omega)) rfl) rfl rfl fun a52 h52 => ?_; clear h51
 refine wpList_nil (hK15 _ _ ?_)
 have h53 : St 178 (fun _ => False) W a52 w50 [(1, .pointer (some ⟨b3, 0, none⟩)), (4, .pointer (some ⟨b11, 0, none⟩)), (52, .bool (!(decide ((nth ((nth sb.l 0).l) 1).l = [0]))))] [.own 3 (⟨v49, [0]⟩ : Ls Int), .blk b11 31 [.int .i64 0, .int .i64 0, .int .i64 0], .deep 46 sb, .deep 64 bc, .own 3 bu, .blk b3 28 [code.v, words.v, .int .i64 locks, .int .i64 regs], .at_ code, .at_ words] := h52.nrm ⟨rfl, rfl, rfl, trivial⟩ [0, 1, 2, 3, 4, 5, 6, 7] (by decide) ⟨rfl, rfl, rfl, rfl, rfl, rfl, rfl, rfl, trivial⟩
 clear h52
 refine x_condF h53 rfl (by rw [(decide_eq_true hb4)]; rfl) ?_
 refine wp_skip ?_
 refine hK14 _ _ ?_
 refine wp_seq_k fun K54 hK54 => ?_
 refine wp_seq_k fun K55 hK55 => wp_region_lit ?_
 refine wv h53 (r_ldbw (i := 5) (vs := [code.v, words.v, .int .i64 locks, .int .i64 regs]) ti_28 rfl rfl rfl rfl rfl) rfl rfl fun a56 h56 => ?_; clear h53
 refine wl_ex (x_call h56 bd_44 rfl rfl rfl rfl rfl (kvast_c code words locks regs _ (h56.sh.at 6 rfl) (h56.sh.at 7 rfl))) (wanted_none rfl _) ?_
 rintro a57 w57 ⟨_, ⟨rfl, hs57⟩, hf57⟩
 have h57 : St 178 (fun _ => False) W a57 w57 _ _ := ⟨hf57, h56.sh.call0 hs57⟩
 clear hf57 hs57
 clear h56
 refine wpList_nil (hK55 _ _ ?_)
 refine x_condT h57 rfl hv ?_
 refine wp_seq_k fun K58 hK58 => wp_region_lit ?_
 refine wms 1 h57 rfl fun a59 h59 => ?_; clear h57
 refine wpList_nil (hK58 _ _ ?_)
 refine wp_ret ?_
 try simp only [Exit.then, Exit.inBlock]
 refine x_ret1 (fn := Try.f14) (t := 2) rfl h59 rfl ?_
 exact ⟨rfl, (h59.sh.sel [] (by decide) trivial)⟩

set_option maxRecDepth 100000 in
set_option maxHeartbeats 4000000 in
theorem liveEnds_b (code : Ls (Ls Ins)) (words : Ls Int) (locks regs : Int) (W : World) (hcode : code.At W) (hwords : words.At W) (hv : vastG (code.l.map (·.l)) words.l = false) (hz : (checkG (pgOf code words locks regs)).code ≠ 0) :
    Rets Try.prog 14 [.agg #[code.v, words.v, .int .i64 locks, .int .i64 regs]] W (fun v w' => v = .bool true ∧ Sh0 W w' []) := by
 refine x_enter (N := 178) Try.func14 rfl Try.ntmps14 (Nat.le_of_ble_eq_true rfl) fun a1 hf1 => ?_
 have h1 : St 178 (fun _ => False) W a1 W [(0, .agg #[code.v, words.v, .int .i64 locks, .int .i64 regs])] [.at_ code, .at_ words] := ⟨hf1.sub ⟨rfl, trivial⟩, Sh0.ext2 hcode hwords⟩
 clear hf1
 refine wp_seq_k fun K2 hK2 => wp_region_lit ?_
 refine wl_ex (x_box (cs := [code.v, words.v, .int .i64 locks, .int .i64 regs]) h1 rfl rfl rfl rfl rfl) (wanted_none rfl _) ?_
 rintro a3 w3 ⟨b3, h3⟩; clear h1
 refine wms 1 h3 rfl fun a4 h4 => ?_; clear h3
 refine wpList_nil (hK2 _ _ ?_)
 refine wp_seq_k fun K5 hK5 => wp_region_lit ?_
 refine wl_ex (x_call h4 bd_42 rfl rfl rfl rfl rfl (buffers_c _)) (wanted_none rfl _) ?_
 rintro a6 w6 ⟨_, ⟨bc, bu, rfl, hbc, hbu, hs6⟩, hf6⟩
 have hokb := buf_ok hbc hbu
 obtain ⟨fb, hFb⟩ := liveF3 bc
 have h6 := (⟨hf6, h4.sh.call hs6 (by intro A hA b hb; first | (simp at hA; done) | (simp at hA; subst hA; first | exact Flat.noRd hb | exact (hb : False).elim) | (simp at hA; rcases hA with rfl | rfl <;> first | exact Flat.noRd hb | exact (hb : False).elim))⟩ : St 178 (fun _ => False) W a6 w6 _ _)
 clear hf6 hs6
 clear h4
 refine wl_ex (x_call h6 bd_36 rfl rfl rfl rfl rfl (ahead_k bc bu 0 2 fb _ (h6.sh.deep 0 rfl) (h6.sh.own 1 rfl) hokb (fun t _ => hFb t))) (wanted_none rfl _) ?_
 rintro a7 w7 ⟨_, ⟨sb, rfl, hab, hs7⟩, hf7⟩
 obtain ⟨hb1, hb2, hb3, hb4⟩ := buf_ahead hbc hFb hab
 have h7 := (⟨hf7, h6.sh.call hs7 (by intro A hA b hb; first | (simp at hA; done) | (simp at hA; subst hA; first | exact Flat.noRd hb | exact (hb : False).elim) | (simp at hA; rcases hA with rfl | rfl <;> first | exact Flat.noRd hb | exact (hb : False).elim))⟩ : St 178 (fun _ => False) W a7 w7 _ _)
 clear hf7 hs7
 clear h6
 refine wms 1 h7 rfl fun a8 h8 => ?_; clear h7
 refine wv h8 (r_extract rfl rfl rfl) rfl rfl fun a9 h9 => ?_; clear h8
 refine wv h9 (r_extract rfl rfl rfl) rfl rfl fun a10 h10 => ?_; clear h9
 refine wl_ex (x_alloc h10 ti_31 rfl rfl rfl) (wanted_none rfl _) ?_
 rintro a11 w11 ⟨b11, h11⟩; clear h10
 refine wms 1 h11 rfl fun a12 h12 => ?_; clear h11
 refine wl_ex (x_stb (i := 0) (vs := [.int .i64 0, .int .i64 0, .int .i64 0]) (cs' := [.int .i64 0, .int .i64 0, .int .i64 0]) h12 ti_31 rfl rfl rfl rfl rfl rfl rfl (allOne_cons rfl (allOne_cons rfl (allOne_cons rfl allOne_nil))) (Nat.le_of_ble_eq_true rfl) rfl) (wanted_none rfl _) ?_
 rintro a13 w13 h13
 clear h12
 refine wpList_nil (hK5 _ _ ?_)
 refine wp_seq_k fun K14 hK14 => ?_
 refine wp_seq_k fun K15 hK15 => wp_region_lit ?_
 refine wv h13 (r_fieldB (r := 0) fl_31_0 rfl rfl rfl) rfl rfl fun a16 h16 => ?_; clear h13
 refine wv h16 (r_ldb (i := 0) ti_22 rfl rfl rfl rfl) rfl rfl fun a17 h17 => ?_; clear h16
 refine wv h17 (r_neqN (p := 0) (q := 0) rfl rfl rfl) rfl rfl fun a18 h18 => ?_; clear h17
 refine wms 1 h18 rfl fun a19 h19 => ?_; clear h18
 refine wl_val h19 (r_move rfl rfl) (wanted_yes h19.fr rfl rfl rfl rfl (by decide)) rfl rfl fun a20 h20 => ?_; clear h19
 have hl21 : sb.l.length ≤ 140737488355328 := (h20.sh.deep 1 rfl).len
 refine wl_val h20 (r_len (s := sb) (n := sb.l.length) sl_59 rfl rfl (fun w h => (h.deep 1 rfl)) rfl) (wanted_yes h20.fr rfl rfl rfl rfl (by decide)) rfl rfl fun a22 h22 => ?_; clear h20
 refine wl_val h22 (r_neqN (p := sb.l.length) (q := 2) rfl rfl rfl) (wanted_yes h22.fr rfl rfl rfl rfl (by decide)) rfl rfl fun a23 h23 => ?_; clear h22
 refine wv h23 (r_pickF rfl rfl (by decide) rfl) rfl rfl fun a24 h24 => ?_; clear h23
 refine wms 1 h24 rfl fun a25 h25 => ?_; clear h24
 refine wl_val h25 (r_move rfl rfl) (wanted_yes h25.fr rfl rfl rfl rfl (decide_eq_false (by omega))) rfl rfl fun a26 h26 => ?_; clear h25
 refine wl_val h26 (r_ixN (s := sb) (q := 0) sl_59 ti_46 rfl rfl rfl (fun w h => (h.deep 1 rfl)) (show 0 < sb.l.length from (by omega))) (wanted_yes h26.fr rfl rfl rfl rfl (decide_eq_false (by omega))) rfl rfl fun a27 h27 => ?_; clear h26
 refine wl_val h27 (r_lde (s := sb) (i := 0) (v := (nth sb.l 0).v) ti_46 rfl rfl rfl (fun w h => (h.deep 1 rfl)) (show 0 < sb.l.length from (by omega)) (Nat.le_of_ble_eq_true rfl) rfl) (wanted_yes h27.fr rfl rfl rfl rfl (decide_eq_false (by omega))) rfl rfl fun a28 h28 => ?_; clear h27
 have hl29 : ((nth sb.l 0).l).length ≤ 140737488355328 := ((h28.sh.deep 1 rfl).nth 0 (show 0 < sb.l.length from (by omega))).len
 refine wl_val h28 (r_len (s := nth sb.l 0) (n := ((nth sb.l 0).l).length) sl_46 rfl rfl (fun w h => ((h.deep 1 rfl).nth 0 (show 0 < sb.l.length from (by omega)))) rfl) (wanted_yes h28.fr rfl rfl rfl rfl (decide_eq_false (by omega))) rfl rfl fun a30 h30 => ?_; clear h28
 refine wl_val h30 (r_neqN (p := ((nth sb.l 0).l).length) (q := 5) rfl rfl rfl) (wanted_yes h30.fr rfl rfl rfl rfl (decide_eq_false (by omega))) rfl rfl fun a31 h31 => ?_; clear h30
 refine wv h31 (r_pickF rfl rfl (decide_eq_false (by omega)) rfl) rfl rfl fun a32 h32 => ?_; clear h31
 refine wms 1 h32 rfl fun a33 h33 => ?_; clear h32
 refine wl_val h33 (r_move rfl rfl) (wanted_yes h33.fr rfl rfl rfl rfl (decide_eq_false (by omega))) rfl rfl fun a34 h34 => ?_; clear h33
 refine wl_val h34 (r_ixN (s := sb) (q := 0) sl_59 ti_46 rfl rfl rfl (fun w h => (h.deep 1 rfl)) (show 0 < sb.l.length from (by omega))) (wanted_yes h34.fr rfl rfl rfl rfl (decide_eq_false (by omega))) rfl rfl fun a35 h35 => ?_; clear h34
 refine wl_val h35 (r_lde (s := sb) (i := 0) (v := (nth sb.l 0).v) ti_46 rfl rfl rfl (fun w h => (h.deep 1 rfl)) (show 0 < sb.l.length from (by omega)) (Nat.le_of_ble_eq_true rfl) rfl) (wanted_yes h35.fr rfl rfl rfl rfl (decide_eq_false (by omega))) rfl rfl fun a36 h36 => ?_; clear h35
 refine wl_val h36 (r_ixN (s := nth sb.l 0) (q := 0) sl_46 ti_24 rfl rfl rfl (fun w h => ((h.deep 1 rfl).nth 0 (show 0 < sb.l.length from (by omega)))) (show 0 < ((nth sb.l 0).l).length from (by omega))) (wanted_yes h36.fr rfl rfl rfl rfl (decide_eq_false (by omega))) rfl rfl fun a37 h37 => ?_; clear h36
 refine wl_val h37 (r_lde (s := nth sb.l 0) (i := 0) (v := (nth ((nth sb.l 0).l) 0).v) ti_24 rfl rfl rfl (fun w h => ((h.deep 1 rfl).nth 0 (show 0 < sb.l.length from (by omega)))) (show 0 < ((nth sb.l 0).l).length from (by omega)) (Nat.le_of_ble_eq_true rfl) rfl) (wanted_yes h37.fr rfl rfl rfl rfl (decide_eq_false (by omega))) rfl rfl fun a38 h38 => ?_; clear h37
 have hl39 : ((nth ((nth sb.l 0).l) 0).l).length ≤ 140737488355328 := (((h38.sh.deep 1 rfl).nth 0 (show 0 < sb.l.length from (by omega))).nth 0 (show 0 < ((nth sb.l 0).l).length from (by omega))).len
 refine wl_val h38 (r_len (s := nth ((nth sb.l 0).l) 0) (n := ((nth ((nth sb.l 0).l) 0).l).length) sl_24 rfl rfl (fun w h => (((h.deep 1 rfl).nth 0 (show 0 < sb.l.length from (by omega))).nth 0 (show 0 < ((nth sb.l 0).l).length from (by omega)))) rfl) (wanted_yes h38.fr rfl rfl rfl rfl (decide_eq_false (by omega))) rfl rfl fun a40 h40 => ?_; clear h38
 refine wl_val h40 (r_neqN (p := ((nth ((nth sb.l 0).l) 0).l).length) (q := 0) rfl rfl rfl) (wanted_yes h40.fr rfl rfl rfl rfl (decide_eq_false (by omega))) rfl rfl fun a41 h41 => ?_; clear h40
 refine wv h41 (r_pickF rfl rfl (decide_eq_false (by omega)) rfl) rfl rfl fun a42 h42 => ?_; clear h41
 refine wms 1 h42 rfl fun a43 h43 => ?_; clear h42
 refine wl_val h43 (r_move rfl rfl) (wanted_yes h43.fr rfl rfl rfl rfl (decide_eq_false (by omega))) rfl rfl fun a44 h44 => ?_; clear h43
 refine wl_val h44 (r_ixN (s := sb) (q := 0) sl_59 ti_46 rfl rfl rfl (fun w h => (h.deep 1 rfl)) (show 0 < sb.l.length from (by omega))) (wanted_yes h44.fr rfl rfl rfl rfl (decide_eq_false (by omega))) rfl rfl fun a45 h45 => ?_; clear h44
 refine wl_val h45 (r_lde (s := sb) (i := 0) (v := (nth sb.l 0).v) ti_46 rfl rfl rfl (fun w h => (h.deep 1 rfl)) (show 0 < sb.l.length from (by omega)) (Nat.le_of_ble_eq_true rfl) rfl) (wanted_yes h45.fr rfl rfl rfl rfl (decide_eq_false (by omega))) rfl rfl fun a46 h46 => ?_; clear h45
 refine wl_val h46 (r_ixN (s := nth sb.l 0) (q := 1) sl_46 ti_24 rfl rfl rfl (fun w h => ((h.deep 1 rfl).nth 0 (show 0 < sb.l.length from (by omega)))) (show 1 < ((nth sb.l 0).l).length from (by omega))) (wanted_yes h46.fr rfl rfl rfl rfl (decide_eq_false (by omega))) rfl rfl fun a47 h47 => ?_; clear h46
 refine wl_val h47 (r_lde (s := nth sb.l 0) (i := 1) (v := (nth ((nth sb.l 0).l) 1).v) ti_24 rfl rfl rfl (fun w h => ((h.deep 1 rfl).nth 0 (show 0 < sb.l.length from (by omega)))) (show 1 < ((nth sb.l 0).l).length from (by omega)) (Nat.le_of_ble_eq_true rfl) rfl) (wanted_yes h47.fr rfl rfl rfl rfl (decide_eq_false (by omega))) rfl rfl fun a48 h48 => ?_; clear h47
 refine wl_ex (x_lit (n := 1) (cs := [.int .i64 0]) ([0] : List Int) h48 sl_24 ti_3 rfl rfl rfl (by decide) rfl (by kernel_rfl) rfl (fun q hq w h => Flat.inner _ _) (fun q hq b hb => (Flat.on _ _ hb).elim) rfl rfl) (wanted_yes h48.fr rfl rfl rfl rfl (decide_eq_false (by omega))) ?_
 rintro a49 w49 ⟨v49, h49⟩; clear h48
 refine wl_ex (x_call h49 bd_43 rfl rfl rfl rfl rfl (kints_c (nth ((nth sb.l 0).l) 1) (⟨v49, [0]⟩ : Ls Int) _ (((h49.sh.deep 2 rfl).nth 0 (show 0 < sb.l.length from (by omega))).nth 1 (show 1 < ((nth sb.l 0).l).length from (by omega))) (h49.sh.own 0 rfl))) (wanted_yes h49.fr rfl rfl rfl rfl (decide_eq_false (by omega))) ?_
 rintro a50 w50 ⟨_, ⟨rfl, hs50⟩, hf50⟩
 have h50 : St 178 (fun _ => False) W a50 w50 _ _ := ⟨hf50, h49.sh.call0 hs50⟩
 clear hf50 hs50
 clear h49
 refine wl_val h50 (r_not rfl rfl) (wanted_yes h50.fr rfl rfl rfl rfl (decide_eq_false (by omega))) rfl rfl fun a51 h51 => ?_; clear h50
 refine wv h51 (r_pickF rfl rfl (decide_eq_false (by omega)) rfl) rfl rfl fun a52 h52 => ?_; clear h51
 refine wpList_nil (hK15 _ _ ?_)
 have h53 : St 178 (fun _ => False) W a52 w50 [(1, .pointer (some ⟨b3, 0, none⟩)), (4, .pointer (some ⟨b11, 0, none⟩)), (52, .bool (!(decide ((nth ((nth sb.l 0).l) 1).l = [0]))))] [.own 3 (⟨v49, [0]⟩ : Ls Int), .blk b11 31 [.int .i64 0, .int .i64 0, .int .i64 0], .deep 46 sb, .deep 64 bc, .own 3 bu, .blk b3 28 [code.v, words.v, .int .i64 locks, .int .i64 regs], .at_ code, .at_ words] := h52.nrm ⟨rfl, rfl, rfl, trivial⟩ [0, 1, 2, 3, 4, 5, 6, 7] (by decide) ⟨rfl, rfl, rfl, rfl, rfl, rfl, rfl, rfl, trivial⟩
 clear h52
 refine x_condF h53 rfl (by rw [(decide_eq_true hb4)]; rfl) ?_
 refine wp_skip ?_
 refine hK14 _ _ ?_
 refine wp_seq_k fun K54 hK54 => ?_
 refine wp_seq_k fun K55 hK55 => wp_region_lit ?_
 refine wv h53 (r_ldbw (i := 5) (vs := [code.v, words.v, .int .i64 locks, .int .i64 regs]) ti_28 rfl rfl rfl rfl rfl) rfl rfl fun a56 h56 => ?_; clear h53
 refine wl_ex (x_call h56 bd_44 rfl rfl rfl rfl rfl (kvast_c code words locks regs _ (h56.sh.at 6 rfl) (h56.sh.at 7 rfl))) (wanted_none rfl _) ?_
 rintro a57 w57 ⟨_, ⟨rfl, hs57⟩, hf57⟩
 have h57 : St 178 (fun _ => False) W a57 w57 _ _ := ⟨hf57, h56.sh.call0 hs57⟩
 clear hf57 hs57
 clear h56
 refine wpList_nil (hK55 _ _ ?_)
 refine x_condF h57 rfl hv ?_
 refine wp_skip ?_
 refine hK54 _ _ ?_
 refine wp_seq_k fun K58 hK58 => wp_region_lit ?_
 refine wv h57 (r_ldbw (i := 5) (vs := [code.v, words.v, .int .i64 locks, .int .i64 regs]) ti_28 rfl rfl rfl rfl rfl) rfl rfl fun a59 h59 => ?_; clear h57
 refine wl_ex (x_call h59 bd_36 rfl rfl rfl rfl rfl (ahead_b code words locks regs _ (h59.sh.at 6 rfl) (h59.sh.at 7 rfl) hz)) (wanted_none rfl _) ?_
 rintro a60 w60 ⟨_, ⟨rfl, hs60⟩, hf60⟩
 have h60 : St 178 (fun _ => False) W a60 w60 _ _ := ⟨hf60, h59.sh.call0 hs60⟩
 clear hf60 hs60
 clear h59
 refine wms 1 h60 rfl fun a61 h61 => ?_; clear h60
 refine wv h61 (r_extract rfl rfl rfl) rfl rfl fun a62 h62 => ?_; clear h61
 refine wv h62 (r_extract rfl rfl rfl) rfl rfl fun a63 h63 => ?_; clear h62
 refine wms 1 h63 rfl fun a64 h64 => ?_; clear h63
 refine wl_ex (x_stb (i := 1) (vs := [.int .i64 ((checkG (pgOf code words locks regs)).code), .int .i64 ((checkG (pgOf code words locks regs)).thread), .int .i64 ((checkG (pgOf code words locks regs)).at_)]) (cs' := [.int .i64 ((checkG (pgOf code words locks regs)).code), .int .i64 ((checkG (pgOf code words locks regs)).thread), .int .i64 ((checkG (pgOf code words locks regs)).at_)]) h64 ti_31 rfl rfl rfl rfl rfl rfl rfl (allOne_cons rfl (allOne_cons rfl (allOne_cons rfl allOne_nil))) (Nat.le_of_ble_eq_true rfl) rfl) (wanted_none rfl _) ?_
 rintro a65 w65 h65
 clear h64
 refine wpList_nil (hK58 _ _ ?_)
 refine wp_seq_k fun K66 hK66 => wp_region_lit ?_
 refine wv h65 (r_ldbw (i := 5) (vs := [code.v, words.v, .int .i64 locks, .int .i64 regs]) ti_28 rfl rfl rfl rfl rfl) rfl rfl fun a67 h67 => ?_; clear h65
 refine wl_ex (x_call h67 bd_37 rfl rfl rfl rfl rfl (clash_b code words locks regs _ (h67.sh.at 6 rfl) (h67.sh.at 7 rfl) hz)) (wanted_none rfl _) ?_
 rintro a68 w68 ⟨_, ⟨rfl, hs68⟩, hf68⟩
 have h68 : St 178 (fun _ => False) W a68 w68 _ _ := ⟨hf68, h67.sh.call0 hs68⟩
 clear hf68 hs68
 clear h67
 refine wms 1 h68 rfl fun a69 h69 => ?_; clear h68
 refine wv h69 (r_extract rfl rfl rfl) rfl rfl fun a70 h70 => ?_; clear h69
 refine wv h70 (r_extract rfl rfl rfl) rfl rfl fun a71 h71 => ?_; clear h70
 refine wl_ex (x_alloc h71 ti_31 rfl rfl rfl) (wanted_none rfl _) ?_
 rintro a72 w72 ⟨b72, h72⟩; clear h71
 refine wms 1 h72 rfl fun a73 h73 => ?_; clear h72
 refine wl_ex (x_stb (i := 0) (vs := [.int .i64 ((checkG (pgOf code words locks regs)).code), .int .i64 ((checkG (pgOf code words locks regs)).thread), .int .i64 ((checkG (pgOf code words locks regs)).at_)]) (cs' := [.int .i64 ((checkG (pgOf code words locks regs)).code), .int .i64 ((checkG (pgOf code words locks regs)).thread), .int .i64 ((checkG (pgOf code words locks regs)).at_)]) h73 ti_31 rfl rfl rfl rfl rfl rfl rfl (allOne_cons rfl (allOne_cons rfl (allOne_cons rfl allOne_nil))) (Nat.le_of_ble_eq_true rfl) rfl) (wanted_none rfl _) ?_
 rintro a74 w74 h74
 clear h73
 refine wpList_nil (hK66 _ _ ?_)
 refine wp_seq_k fun K75 hK75 => ?_
 refine wp_seq_k fun K76 hK76 => wp_region_lit ?_
 refine wv h74 (r_ldbw (i := 2) (vs := [.int .i64 ((checkG (pgOf code words locks regs)).code), .int .i64 ((checkG (pgOf code words locks regs)).thread), .int .i64 ((checkG (pgOf code words locks regs)).at_)]) ti_31 rfl rfl rfl rfl rfl) rfl rfl fun a77 h77 => ?_; clear h74
 refine wv h77 (r_ldbw (i := 0) (vs := [.int .i64 ((checkG (pgOf code words locks regs)).code), .int .i64 ((checkG (pgOf code words locks regs)).thread), .int .i64 ((checkG (pgOf code words locks regs)).at_)]) ti_31 rfl rfl rfl rfl rfl) rfl rfl fun a78 h78 => ?_; clear h77
 refine wv h78 (r_neqS rfl rfl rfl (fun w => neq_fltG _ _ ⟨(checkG (pgOf code words locks regs)).code, (checkG (pgOf code words locks regs)).thread, (checkG (pgOf code words locks regs)).at_⟩ ⟨(checkG (pgOf code words locks regs)).code, (checkG (pgOf code words locks regs)).thread, (checkG (pgOf code words locks regs)).at_⟩ w) (fun w => neq_flt ⟨(checkG (pgOf code words locks regs)).code, (checkG (pgOf code words locks regs)).thread, (checkG (pgOf code words locks regs)).at_⟩ ⟨(checkG (pgOf code words locks regs)).code, (checkG (pgOf code words locks regs)).thread, (checkG (pgOf code words locks regs)).at_⟩ w)) rfl rfl fun a79 h79 => ?_; clear h78
 refine wpList_nil (hK76 _ _ ?_)
 refine x_condF h79 rfl (decide_eq_false (fun h => h rfl)) ?_
 refine wp_skip ?_
 refine hK75 _ _ ?_
 refine wp_seq_k fun K80 hK80 => ?_
 refine wp_seq_k fun K81 hK81 => wp_region_lit ?_
 refine wms 1 h79 rfl fun a82 h82 => ?_; clear h79
 refine wpList_nil (hK81 _ _ ?_)
 refine wp_block ?_
 refine x_loop (fun m a w => ∃ (t : Nat), (t ≤ ([] : List (Ls (Ls Int))).length) ∧ St 178 (fun _ => False) W a w [(3, (.slice none 0 0)), (5, (.slice none 0 0)), (7, .int .i64 ((t : Nat) : Int))] [.blk b72 31 [.int .i64 ((checkG (pgOf code words locks regs)).code), .int .i64 ((checkG (pgOf code words locks regs)).thread), .int .i64 ((checkG (pgOf code words locks regs)).at_)], .own 3 (⟨v49, [0]⟩ : Ls Int), .blk b11 31 [.int .i64 ((checkG (pgOf code words locks regs)).code), .int .i64 ((checkG (pgOf code words locks regs)).thread), .int .i64 ((checkG (pgOf code words locks regs)).at_)], .deep 46 sb, .deep 64 bc, .own 3 bu, .blk b3 28 [code.v, words.v, .int .i64 locks, .int .i64 regs], .at_ code, .at_ words] ∧ m = ([] : List (Ls (Ls Int))).length - t) ⟨_, 0, (Nat.zero_le _), h82.nrm ⟨rfl, rfl, rfl, trivial⟩ [0, 1, 2, 3, 4, 5, 6, 7, 8] (by decide) ⟨rfl, rfl, rfl, rfl, rfl, rfl, rfl, rfl, rfl, trivial⟩, rfl⟩ ?_
 clear h82
 rintro m83 a83 w83 ⟨t, ht, h83, hm83⟩
 refine wp_seq_k fun K84 hK84 => ?_
 refine wp_seq_k fun K85 hK85 => wp_region_lit ?_
 refine wms 2 h83 rfl fun a86 h86 => ?_; clear h83
 have hl87 : ([] : List (Ls (Ls Int))).length ≤ 140737488355328 := (Sh.nilAt (α := Ls (Ls Int)) h86.sh).len
 refine wv h86 (r_len (s := (⟨.slice none 0 0, []⟩ : Ls (Ls (Ls Int)))) (n := ([] : List (Ls (Ls Int))).length) sl_59 rfl rfl (fun w h => (Sh.nilAt (α := Ls (Ls Int)) h)) rfl) rfl rfl fun a88 h88 => ?_; clear h86
 refine wv h88 (r_lssN (p := t) (q := ([] : List (Ls (Ls Int))).length) rfl rfl rfl) rfl rfl fun a89 h89 => ?_; clear h88
 refine wpList_nil (hK85 _ _ ?_)
 refine x_condF h89 rfl (decide_eq_false (Nat.not_lt_zero _)) ?_
 refine wp_exit ?_
 refine hK80 _ _ ?_
 refine wp_seq_k fun K90 hK90 => ?_
 refine wp_seq_k fun K91 hK91 => wp_region_lit ?_
 refine wms 1 h89 rfl fun a92 h92 => ?_; clear h89
 refine wpList_nil (hK91 _ _ ?_)
 refine wp_block ?_
 refine x_loop (fun m a w => ∃ (t2 : Nat), (t2 ≤ ([] : List (Ls (Ls Int))).length) ∧ St 178 (fun _ => False) W a w [(5, (.slice none 0 0)), (8, .int .i64 ((t2 : Nat) : Int))] [.blk b72 31 [.int .i64 ((checkG (pgOf code words locks regs)).code), .int .i64 ((checkG (pgOf code words locks regs)).thread), .int .i64 ((checkG (pgOf code words locks regs)).at_)], .own 3 (⟨v49, [0]⟩ : Ls Int), .blk b11 31 [.int .i64 ((checkG (pgOf code words locks regs)).code), .int .i64 ((checkG (pgOf code words locks regs)).thread), .int .i64 ((checkG (pgOf code words locks regs)).at_)], .deep 46 sb, .deep 64 bc, .own 3 bu, .blk b3 28 [code.v, words.v, .int .i64 locks, .int .i64 regs], .at_ code, .at_ words] ∧ m = ([] : List (Ls (Ls Int))).length - t2) ⟨_, 0, (Nat.zero_le _), h92.nrm ⟨rfl, rfl, trivial⟩ [0, 1, 2, 3, 4, 5, 6, 7, 8] (by decide) ⟨rfl, rfl, rfl, rfl, rfl, rfl, rfl, rfl, rfl, trivial⟩, rfl⟩ ?_
 clear h92
 rintro m93 a93 w93 ⟨t2, ht2, h93, hm93⟩
 refine wp_seq_k fun K94 hK94 => ?_
 refine wp_seq_k fun K95 hK95 => wp_region_lit ?_
 refine wms 2 h93 rfl fun a96 h96 => ?_; clear h93
 refine wv h96 (r_len (s := (⟨.slice none 0 0, []⟩ : Ls (Ls (Ls Int)))) (n := ([] : List (Ls (Ls Int))).length) sl_59 rfl rfl (fun w h => (Sh.nilAt (α := Ls (Ls Int)) h)) rfl) rfl rfl fun a97 h97 => ?_; clear h96
 refine wv h97 (r_lssN (p := t2) (q := ([] : List (Ls (Ls Int))).length) rfl rfl rfl) rfl rfl fun a98 h98 => ?_; clear h97
 refine wpList_nil (hK95 _ _ ?_)
 refine x_condF h98 rfl (decide_eq_false (Nat.not_lt_zero _)) ?_
 refine wp_exit ?_
 refine hK90 _ _ ?_
 refine wp_seq_k fun K99 hK99 => wp_region_lit ?_
 refine wms 1 h98 rfl fun a100 h100 => ?_; clear h98
 refine wpList_nil (hK99 _ _ ?_)
 refine wp_ret ?_
 try simp only [Exit.then, Exit.inBlock]
 refine x_ret1 (fn := Try.f14) (t := 2) rfl h100 rfl ?_
 exact ⟨rfl, (h100.sh.sel [] (by decide) trivial)⟩

set_option maxRecDepth 100000 in
set_option maxHeartbeats 4000000 in
theorem liveEnds_k (code : Ls (Ls Ins)) (words : Ls Int) (locks regs : Int) (W : World) (hcode : code.At W) (hwords : words.At W) (hv : vastG (code.l.map (·.l)) words.l = false) (hok : OkPg (pgOf code words locks regs)) :
    Rets Try.prog 14 [.agg #[code.v, words.v, .int .i64 locks, .int .i64 regs]] W (fun v w' => v = .bool true ∧ Sh0 W w' []) := by
 have hz := checkG_ok hok
 obtain ⟨hl1, hl2, hl3, hl4', hl5, hl6, hl7⟩ := ok_len hok
 have hrg := hok.regs
 have hrg1 : (pgOf code words locks regs).regs = regs := rfl
 rw [hrg1] at hrg
 obtain ⟨f, hF0⟩ := liveF3 code
 have hF : ∀ t, t < code.l.length → ∀ r j, (f t r j = true ↔ LiveI (nth code.l t).l r j) := fun t _ => hF0 t
 refine x_enter (N := 178) Try.func14 rfl Try.ntmps14 (Nat.le_of_ble_eq_true rfl) fun a1 hf1 => ?_
 have h1 : St 178 (fun _ => False) W a1 W [(0, .agg #[code.v, words.v, .int .i64 locks, .int .i64 regs])] [.at_ code, .at_ words] := ⟨hf1.sub ⟨rfl, trivial⟩, Sh0.ext2 hcode hwords⟩
 clear hf1
 refine wp_seq_k fun K2 hK2 => wp_region_lit ?_
 refine wl_ex (x_box (cs := [code.v, words.v, .int .i64 locks, .int .i64 regs]) h1 rfl rfl rfl rfl rfl) (wanted_none rfl _) ?_
 rintro a3 w3 ⟨b3, h3⟩; clear h1
 refine wms 1 h3 rfl fun a4 h4 => ?_; clear h3
 refine wpList_nil (hK2 _ _ ?_)
 refine wp_seq_k fun K5 hK5 => wp_region_lit ?_
 refine wl_ex (x_call h4 bd_42 rfl rfl rfl rfl rfl (buffers_c _)) (wanted_none rfl _) ?_
 rintro a6 w6 ⟨_, ⟨bc, bu, rfl, hbc, hbu, hs6⟩, hf6⟩
 have hokb := buf_ok hbc hbu
 obtain ⟨fb, hFb⟩ := liveF3 bc
 have h6 := (⟨hf6, h4.sh.call hs6 (by intro A hA b hb; first | (simp at hA; done) | (simp at hA; subst hA; first | exact Flat.noRd hb | exact (hb : False).elim) | (simp at hA; rcases hA with rfl | rfl <;> first | exact Flat.noRd hb | exact (hb : False).elim))⟩ : St 178 (fun _ => False) W a6 w6 _ _)
 clear hf6 hs6
 clear h4
 refine wl_ex (x_call h6 bd_36 rfl rfl rfl rfl rfl (ahead_k bc bu 0 2 fb _ (h6.sh.deep 0 rfl) (h6.sh.own 1 rfl) hokb (fun t _ => hFb t))) (wanted_none rfl _) ?_
 rintro a7 w7 ⟨_, ⟨sb, rfl, hab, hs7⟩, hf7⟩
 obtain ⟨hb1, hb2, hb3, hb4⟩ := buf_ahead hbc hFb hab
 have h7 := (⟨hf7, h6.sh.call hs7 (by intro A hA b hb; first | (simp at hA; done) | (simp at hA; subst hA; first | exact Flat.noRd hb | exact (hb : False).elim) | (simp at hA; rcases hA with rfl | rfl <;> first | exact Flat.noRd hb | exact (hb : False).elim))⟩ : St 178 (fun _ => False) W a7 w7 _ _)
 clear hf7 hs7
 clear h6
 refine wms 1 h7 rfl fun a8 h8 => ?_; clear h7
 refine wv h8 (r_extract rfl rfl rfl) rfl rfl fun a9 h9 => ?_; clear h8
 refine wv h9 (r_extract rfl rfl rfl) rfl rfl fun a10 h10 => ?_; clear h9
 refine wl_ex (x_alloc h10 ti_31 rfl rfl rfl) (wanted_none rfl _) ?_
 rintro a11 w11 ⟨b11, h11⟩; clear h10
 refine wms 1 h11 rfl fun a12 h12 => ?_; clear h11
 refine wl_ex (x_stb (i := 0) (vs := [.int .i64 0, .int .i64 0, .int .i64 0]) (cs' := [.int .i64 0, .int .i64 0, .int .i64 0]) h12 ti_31 rfl rfl rfl rfl rfl rfl rfl (allOne_cons rfl (allOne_cons rfl (allOne_cons rfl allOne_nil))) (Nat.le_of_ble_eq_true rfl) rfl) (wanted_none rfl _) ?_
 rintro a13 w13 h13
 clear h12
 refine wpList_nil (hK5 _ _ ?_)
 refine wp_seq_k fun K14 hK14 => ?_
 refine wp_seq_k fun K15 hK15 => wp_region_lit ?_
 refine wv h13 (r_fieldB (r := 0) fl_31_0 rfl rfl rfl) rfl rfl fun a16 h16 => ?_; clear h13
 refine wv h16 (r_ldb (i := 0) ti_22 rfl rfl rfl rfl) rfl rfl fun a17 h17 => ?_; clear h16
 refine wv h17 (r_neqN (p := 0) (q := 0) rfl rfl rfl) rfl rfl fun a18 h18 => ?_; clear h17
 refine wms 1 h18 rfl fun a19 h19 => ?_; clear h18
 refine wl_val h19 (r_move rfl rfl) (wanted_yes h19.fr rfl rfl rfl rfl (by decide)) rfl rfl fun a20 h20 => ?_; clear h19
 have hl21 : sb.l.length ≤ 140737488355328 := (h20.sh.deep 1 rfl).len
 refine wl_val h20 (r_len (s := sb) (n := sb.l.length) sl_59 rfl rfl (fun w h => (h.deep 1 rfl)) rfl) (wanted_yes h20.fr rfl rfl rfl rfl (by decide)) rfl rfl fun a22 h22 => ?_; clear h20
 refine wl_val h22 (r_neqN (p := sb.l.length) (q := 2) rfl rfl rfl) (wanted_yes h22.fr rfl rfl rfl rfl (by decide)) rfl rfl fun a23 h23 => ?_; clear h22
 refine wv h23 (r_pickF rfl rfl (by decide) rfl) rfl rfl fun a24 h24 => ?_; clear h23
 refine wms 1 h24 rfl fun a25 h25 => ?_; clear h24
 refine wl_val h25 (r_move rfl rfl) (wanted_yes h25.fr rfl rfl rfl rfl (decide_eq_false (by omega))) rfl rfl fun a26 h26 => ?_; clear h25
 refine wl_val h26 (r_ixN (s := sb) (q := 0) sl_59 ti_46 rfl rfl rfl (fun w h => (h.deep 1 rfl)) (show 0 < sb.l.length from (by omega))) (wanted_yes h26.fr rfl rfl rfl rfl (decide_eq_false (by omega))) rfl rfl fun a27 h27 => ?_; clear h26
 refine wl_val h27 (r_lde (s := sb) (i := 0) (v := (nth sb.l 0).v) ti_46 rfl rfl rfl (fun w h => (h.deep 1 rfl)) (show 0 < sb.l.length from (by omega)) (Nat.le_of_ble_eq_true rfl) rfl) (wanted_yes h27.fr rfl rfl rfl rfl (decide_eq_false (by omega))) rfl rfl fun a28 h28 => ?_; clear h27
 have hl29 : ((nth sb.l 0).l).length ≤ 140737488355328 := ((h28.sh.deep 1 rfl).nth 0 (show 0 < sb.l.length from (by omega))).len
 refine wl_val h28 (r_len (s := nth sb.l 0) (n := ((nth sb.l 0).l).length) sl_46 rfl rfl (fun w h => ((h.deep 1 rfl).nth 0 (show 0 < sb.l.length from (by omega)))) rfl) (wanted_yes h28.fr rfl rfl rfl rfl (decide_eq_false (by omega))) rfl rfl fun a30 h30 => ?_; clear h28
 refine wl_val h30 (r_neqN (p := ((nth sb.l 0).l).length) (q := 5) rfl rfl rfl) (wanted_yes h30.fr rfl rfl rfl rfl (decide_eq_false (by omega))) rfl rfl fun a31 h31 => ?_; clear h30
 refine wv h31 (r_pickF rfl rfl (decide_eq_false (by omega)) rfl) rfl rfl fun a32 h32 => ?_; clear h31
 refine wms 1 h32 rfl fun a33 h33 => ?_; clear h32
 refine wl_val h33 (r_move rfl rfl) (wanted_yes h33.fr rfl rfl rfl rfl (decide_eq_false (by omega))) rfl rfl fun a34 h34 => ?_; clear h33
 refine wl_val h34 (r_ixN (s := sb) (q := 0) sl_59 ti_46 rfl rfl rfl (fun w h => (h.deep 1 rfl)) (show 0 < sb.l.length from (by omega))) (wanted_yes h34.fr rfl rfl rfl rfl (decide_eq_false (by omega))) rfl rfl fun a35 h35 => ?_; clear h34
 refine wl_val h35 (r_lde (s := sb) (i := 0) (v := (nth sb.l 0).v) ti_46 rfl rfl rfl (fun w h => (h.deep 1 rfl)) (show 0 < sb.l.length from (by omega)) (Nat.le_of_ble_eq_true rfl) rfl) (wanted_yes h35.fr rfl rfl rfl rfl (decide_eq_false (by omega))) rfl rfl fun a36 h36 => ?_; clear h35
 refine wl_val h36 (r_ixN (s := nth sb.l 0) (q := 0) sl_46 ti_24 rfl rfl rfl (fun w h => ((h.deep 1 rfl).nth 0 (show 0 < sb.l.length from (by omega)))) (show 0 < ((nth sb.l 0).l).length from (by omega))) (wanted_yes h36.fr rfl rfl rfl rfl (decide_eq_false (by omega))) rfl rfl fun a37 h37 => ?_; clear h36
 refine wl_val h37 (r_lde (s := nth sb.l 0) (i := 0) (v := (nth ((nth sb.l 0).l) 0).v) ti_24 rfl rfl rfl (fun w h => ((h.deep 1 rfl).nth 0 (show 0 < sb.l.length from (by omega)))) (show 0 < ((nth sb.l 0).l).length from (by omega)) (Nat.le_of_ble_eq_true rfl) rfl) (wanted_yes h37.fr rfl rfl rfl rfl (decide_eq_false (by omega))) rfl rfl fun a38 h38 => ?_; clear h37
 have hl39 : ((nth ((nth sb.l 0).l) 0).l).length ≤ 140737488355328 := (((h38.sh.deep 1 rfl).nth 0 (show 0 < sb.l.length from (by omega))).nth 0 (show 0 < ((nth sb.l 0).l).length from (by omega))).len
 refine wl_val h38 (r_len (s := nth ((nth sb.l 0).l) 0) (n := ((nth ((nth sb.l 0).l) 0).l).length) sl_24 rfl rfl (fun w h => (((h.deep 1 rfl).nth 0 (show 0 < sb.l.length from (by omega))).nth 0 (show 0 < ((nth sb.l 0).l).length from (by omega)))) rfl) (wanted_yes h38.fr rfl rfl rfl rfl (decide_eq_false (by omega))) rfl rfl fun a40 h40 => ?_; clear h38
 refine wl_val h40 (r_neqN (p := ((nth ((nth sb.l 0).l) 0).l).length) (q := 0) rfl rfl rfl) (wanted_yes h40.fr rfl rfl rfl rfl (decide_eq_false (by omega))) rfl rfl fun a41 h41 => ?_; clear h40
 refine wv h41 (r_pickF rfl rfl (decide_eq_false (by omega)) rfl) rfl rfl fun a42 h42 => ?_; clear h41
 refine wms 1 h42 rfl fun a43 h43 => ?_; clear h42
 refine wl_val h43 (r_move rfl rfl) (wanted_yes h43.fr rfl rfl rfl rfl (decide_eq_false (by omega))) rfl rfl fun a44 h44 => ?_; clear h43
 refine wl_val h44 (r_ixN (s := sb) (q := 0) sl_59 ti_46 rfl rfl rfl (fun w h => (h.deep 1 rfl)) (show 0 < sb.l.length from (by omega))) (wanted_yes h44.fr rfl rfl rfl rfl (decide_eq_false (by omega))) rfl rfl fun a45 h45 => ?_; clear h44
 refine wl_val h45 (r_lde (s := sb) (i := 0) (v := (nth sb.l 0).v) ti_46 rfl rfl rfl (fun w h => (h.deep 1 rfl)) (show 0 < sb.l.length from (by omega)) (Nat.le_of_ble_eq_true rfl) rfl) (wanted_yes h45.fr rfl rfl rfl rfl (decide_eq_false (by omega))) rfl rfl fun a46 h46 => ?_; clear h45
 refine wl_val h46 (r_ixN (s := nth sb.l 0) (q := 1) sl_46 ti_24 rfl rfl rfl (fun w h => ((h.deep 1 rfl).nth 0 (show 0 < sb.l.length from (by omega)))) (show 1 < ((nth sb.l 0).l).length from (by omega))) (wanted_yes h46.fr rfl rfl rfl rfl (decide_eq_false (by omega))) rfl rfl fun a47 h47 => ?_; clear h46
 refine wl_val h47 (r_lde (s := nth sb.l 0) (i := 1) (v := (nth ((nth sb.l 0).l) 1).v) ti_24 rfl rfl rfl (fun w h => ((h.deep 1 rfl).nth 0 (show 0 < sb.l.length from (by omega)))) (show 1 < ((nth sb.l 0).l).length from (by omega)) (Nat.le_of_ble_eq_true rfl) rfl) (wanted_yes h47.fr rfl rfl rfl rfl (decide_eq_false (by omega))) rfl rfl fun a48 h48 => ?_; clear h47
 refine wl_ex (x_lit (n := 1) (cs := [.int .i64 0]) ([0] : List Int) h48 sl_24 ti_3 rfl rfl rfl (by decide) rfl (by kernel_rfl) rfl (fun q hq w h => Flat.inner _ _) (fun q hq b hb => (Flat.on _ _ hb).elim) rfl rfl) (wanted_yes h48.fr rfl rfl rfl rfl (decide_eq_false (by omega))) ?_
 rintro a49 w49 ⟨v49, h49⟩; clear h48
 refine wl_ex (x_call h49 bd_43 rfl rfl rfl rfl rfl (kints_c (nth ((nth sb.l 0).l) 1) (⟨v49, [0]⟩ : Ls Int) _ (((h49.sh.deep 2 rfl).nth 0 (show 0 < sb.l.length from (by omega))).nth 1 (show 1 < ((nth sb.l 0).l).length from (by omega))) (h49.sh.own 0 rfl))) (wanted_yes h49.fr rfl rfl rfl rfl (decide_eq_false (by omega))) ?_
 rintro a50 w50 ⟨_, ⟨rfl, hs50⟩, hf50⟩
 have h50 : St 178 (fun _ => False) W a50 w50 _ _ := ⟨hf50, h49.sh.call0 hs50⟩
 clear hf50 hs50
 clear h49
 refine wl_val h50 (r_not rfl rfl) (wanted_yes h50.fr rfl rfl rfl rfl (decide_eq_false (by omega))) rfl rfl fun a51 h51 => ?_; clear h50
 refine wv h51 (r_pickF rfl rfl (decide_eq_false (by omega)) rfl) rfl rfl fun a52 h52 => ?_; clear h51
 refine wpList_nil (hK15 _ _ ?_)
 have h53 : St 178 (fun _ => False) W a52 w50 [(1, .pointer (some ⟨b3, 0, none⟩)), (4, .pointer (some ⟨b11, 0, none⟩)), (52, .bool (!(decide ((nth ((nth sb.l 0).l) 1).l = [0]))))] [.own 3 (⟨v49, [0]⟩ : Ls Int), .blk b11 31 [.int .i64 0, .int .i64 0, .int .i64 0], .deep 46 sb, .deep 64 bc, .own 3 bu, .blk b3 28 [code.v, words.v, .int .i64 locks, .int .i64 regs], .at_ code, .at_ words] := h52.nrm ⟨rfl, rfl, rfl, trivial⟩ [0, 1, 2, 3, 4, 5, 6, 7] (by decide) ⟨rfl, rfl, rfl, rfl, rfl, rfl, rfl, rfl, trivial⟩
 clear h52
 refine x_condF h53 rfl (by rw [(decide_eq_true hb4)]; rfl) ?_
 refine wp_skip ?_
 refine hK14 _ _ ?_
 refine wp_seq_k fun K54 hK54 => ?_
 refine wp_seq_k fun K55 hK55 => wp_region_lit ?_
 refine wv h53 (r_ldbw (i := 5) (vs := [code.v, words.v, .int .i64 locks, .int .i64 regs]) ti_28 rfl rfl rfl rfl rfl) rfl rfl fun a56 h56 => ?_; clear h53
 refine wl_ex (x_call h56 bd_44 rfl rfl rfl rfl rfl (kvast_c code words locks regs _ (h56.sh.at 6 rfl) (h56.sh.at 7 rfl))) (wanted_none rfl _) ?_
 rintro a57 w57 ⟨_, ⟨rfl, hs57⟩, hf57⟩
 have h57 : St 178 (fun _ => False) W a57 w57 _ _ := ⟨hf57, h56.sh.call0 hs57⟩
 clear hf57 hs57
 clear h56
 refine wpList_nil (hK55 _ _ ?_)
 refine x_condF h57 rfl hv ?_
 refine wp_skip ?_
 refine hK54 _ _ ?_
 refine wp_seq_k fun K58 hK58 => wp_region_lit ?_
 refine wv h57 (r_ldbw (i := 5) (vs := [code.v, words.v, .int .i64 locks, .int .i64 regs]) ti_28 rfl rfl rfl rfl rfl) rfl rfl fun a59 h59 => ?_; clear h57
 refine wl_ex (x_call h59 bd_36 rfl rfl rfl rfl rfl (ahead_k code words locks regs f _ (h59.sh.at 6 rfl) (h59.sh.at 7 rfl) hok hF)) (wanted_none rfl _) ?_
 rintro a60 w60 ⟨_, ⟨s60, rfl, hah, hs60⟩, hf60⟩
 have h60 := (⟨hf60, h59.sh.call hs60 (by intro A hA b hb; first | (simp at hA; done) | (simp at hA; subst hA; first | exact Flat.noRd hb | exact (hb : False).elim) | (simp at hA; rcases hA with rfl | rfl <;> first | exact Flat.noRd hb | exact (hb : False).elim))⟩ : St 178 (fun _ => False) W a60 w60 _ _)
 clear hf60 hs60
 clear h59
 refine wms 1 h60 rfl fun a61 h61 => ?_; clear h60
 refine wv h61 (r_extract rfl rfl rfl) rfl rfl fun a62 h62 => ?_; clear h61
 refine wv h62 (r_extract rfl rfl rfl) rfl rfl fun a63 h63 => ?_; clear h62
 refine wms 1 h63 rfl fun a64 h64 => ?_; clear h63
 refine wl_ex (x_stb (i := 2) (vs := [.int .i64 0, .int .i64 0, .int .i64 0]) (cs' := [.int .i64 0, .int .i64 0, .int .i64 0]) h64 ti_31 rfl rfl rfl rfl rfl rfl rfl (allOne_cons rfl (allOne_cons rfl (allOne_cons rfl allOne_nil))) (Nat.le_of_ble_eq_true rfl) rfl) (wanted_none rfl _) ?_
 rintro a65 w65 h65
 clear h64
 refine wpList_nil (hK58 _ _ ?_)
 refine wp_seq_k fun K66 hK66 => wp_region_lit ?_
 refine wv h65 (r_ldbw (i := 6) (vs := [code.v, words.v, .int .i64 locks, .int .i64 regs]) ti_28 rfl rfl rfl rfl rfl) rfl rfl fun a67 h67 => ?_; clear h65
 refine wl_ex (x_call h67 bd_37 rfl rfl rfl rfl rfl (clash_k code words locks regs f _ (h67.sh.at 7 rfl) (h67.sh.at 8 rfl) hok hF)) (wanted_none rfl _) ?_
 rintro a68 w68 ⟨_, ⟨s68, rfl, hcl, hs68⟩, hf68⟩
 have h68 := (⟨hf68, h67.sh.call hs68 (by intro A hA b hb; first | (simp at hA; done) | (simp at hA; subst hA; first | exact Flat.noRd hb | exact (hb : False).elim) | (simp at hA; rcases hA with rfl | rfl <;> first | exact Flat.noRd hb | exact (hb : False).elim))⟩ : St 178 (fun _ => False) W a68 w68 _ _)
 clear hf68 hs68
 clear h67
 refine wms 1 h68 rfl fun a69 h69 => ?_; clear h68
 refine wv h69 (r_extract rfl rfl rfl) rfl rfl fun a70 h70 => ?_; clear h69
 refine wv h70 (r_extract rfl rfl rfl) rfl rfl fun a71 h71 => ?_; clear h70
 refine wl_ex (x_alloc h71 ti_31 rfl rfl rfl) (wanted_none rfl _) ?_
 rintro a72 w72 ⟨b72, h72⟩; clear h71
 refine wms 1 h72 rfl fun a73 h73 => ?_; clear h72
 refine wl_ex (x_stb (i := 0) (vs := [.int .i64 0, .int .i64 0, .int .i64 0]) (cs' := [.int .i64 0, .int .i64 0, .int .i64 0]) h73 ti_31 rfl rfl rfl rfl rfl rfl rfl (allOne_cons rfl (allOne_cons rfl (allOne_cons rfl allOne_nil))) (Nat.le_of_ble_eq_true rfl) rfl) (wanted_none rfl _) ?_
 rintro a74 w74 h74
 clear h73
 refine wpList_nil (hK66 _ _ ?_)
 refine wp_seq_k fun K75 hK75 => ?_
 refine wp_seq_k fun K76 hK76 => wp_region_lit ?_
 refine wv h74 (r_ldbw (i := 4) (vs := [.int .i64 0, .int .i64 0, .int .i64 0]) ti_31 rfl rfl rfl rfl rfl) rfl rfl fun a77 h77 => ?_; clear h74
 refine wv h77 (r_ldbw (i := 0) (vs := [.int .i64 0, .int .i64 0, .int .i64 0]) ti_31 rfl rfl rfl rfl rfl) rfl rfl fun a78 h78 => ?_; clear h77
 refine wv h78 (r_neqS rfl rfl rfl (fun w => neq_fltG _ _ ⟨0, 0, 0⟩ ⟨0, 0, 0⟩ w) (fun w => neq_flt ⟨0, 0, 0⟩ ⟨0, 0, 0⟩ w)) rfl rfl fun a79 h79 => ?_; clear h78
 refine wpList_nil (hK76 _ _ ?_)
 refine x_condF h79 rfl (decide_eq_false (fun h => h rfl)) ?_
 refine wp_skip ?_
 refine hK75 _ _ ?_
 obtain ⟨hal, hav⟩ := rowsV hah
 obtain ⟨hcl1, hcv⟩ := rowsV hcl
 refine wp_seq_k fun K80 hK80 => ?_
 refine wp_seq_k fun K81 hK81 => wp_region_lit ?_
 refine wms 1 h79 rfl fun a82 h82 => ?_; clear h79
 refine wpList_nil (hK81 _ _ ?_)
 refine wp_block ?_
 refine x_loop (fun m a w => ∃ (t : Nat), (t ≤ s60.l.length) ∧ St 178 (fun _ => False) W a w [(3, s60.v), (5, s68.v), (7, .int .i64 ((t : Nat) : Int))] [.blk b72 31 [.int .i64 0, .int .i64 0, .int .i64 0], .deep 46 s68, .deep 46 s60, .own 3 (⟨v49, [0]⟩ : Ls Int), .blk b11 31 [.int .i64 0, .int .i64 0, .int .i64 0], .deep 46 sb, .deep 64 bc, .own 3 bu, .blk b3 28 [code.v, words.v, .int .i64 locks, .int .i64 regs], .at_ code, .at_ words] ∧ m = s60.l.length - t) ⟨_, 0, (Nat.zero_le _), h82.nrm ⟨rfl, rfl, rfl, trivial⟩ [0, 1, 2, 3, 4, 5, 6, 7, 8, 9, 10] (by decide) ⟨rfl, rfl, rfl, rfl, rfl, rfl, rfl, rfl, rfl, rfl, rfl, trivial⟩, rfl⟩ ?_
 clear h82
 rintro m83 a83 w83 ⟨t, ht, h83, hm83⟩
 refine wp_seq_k fun K84 hK84 => ?_
 refine wp_seq_k fun K85 hK85 => wp_region_lit ?_
 refine wms 2 h83 rfl fun a86 h86 => ?_; clear h83
 have hl87 : s60.l.length ≤ 140737488355328 := (h86.sh.deep 2 rfl).len
 refine wv h86 (r_len (s := s60) (n := s60.l.length) sl_59 rfl rfl (fun w h => (h.deep 2 rfl)) rfl) rfl rfl fun a88 h88 => ?_; clear h86
 refine wv h88 (r_lssN (p := t) (q := s60.l.length) rfl rfl rfl) rfl rfl fun a89 h89 => ?_; clear h88
 refine wpList_nil (hK85 _ _ ?_)
 refine x_cond h89 rfl (fun hb90 => ?_) (fun hb90 => ?_)
 ·
  have hp90 : t < s60.l.length := of_decide_eq_true hb90
  refine wp_skip ?_
  refine hK84 _ _ ?_
  obtain ⟨ha1, ha2⟩ := rowsV (hav t (by omega))
  have hlast : (nth (nth s60.l t).l ((nth s60.l t).l.length - 1)).l.length = 0 := by rw [ha2 _ (by omega), ha1, Nat.add_sub_cancel, listB_none (last_live (hF t (by omega)))]; rfl
  refine wp_seq_k fun K91 hK91 => ?_
  refine wp_block ?_
  refine wp_seq_k fun K92 hK92 => ?_
  refine x_quiet (by kernel_rfl) (by kernel_rfl) h89 fun Z93 hZ93 => ?_
  have hq93 := h89.fr
  refine wq_val hq93 (r_move rfl rfl) (wanted_none rfl _) rfl rfl fun a94 hq94 => ?_; clear hq93
  refine wq_val hq94 (r_move rfl rfl) (wanted_none rfl _) rfl rfl fun a95 hq95 => ?_; clear hq94
  refine wq_val hq95 (r_ixN (s := s60) (q := t) sl_59 ti_46 rfl rfl rfl (fun w h => (h.deep 2 rfl)) (show t < s60.l.length from (by omega))) (wanted_none rfl _) rfl rfl fun a96 hq96 => ?_; clear hq95
  refine wq_val hq96 (r_lde (s := s60) (i := t) (v := (nth s60.l t).v) ti_46 rfl rfl rfl (fun w h => (h.deep 2 rfl)) (show t < s60.l.length from (by omega)) (Nat.le_of_ble_eq_true rfl) rfl) (wanted_none rfl _) rfl rfl fun a97 hq97 => ?_; clear hq96
  have hl98 : ((nth s60.l t).l).length ≤ 140737488355328 := ((h89.sh.deep 2 rfl).nth t (show t < s60.l.length from (by omega))).len
  refine wq_val hq97 (r_len (s := nth s60.l t) (n := ((nth s60.l t).l).length) sl_46 rfl rfl (fun w h => ((h.deep 2 rfl).nth t (show t < s60.l.length from (by omega)))) rfl) (wanted_none rfl _) rfl rfl fun a99 hq99 => ?_; clear hq97
  refine wq_val hq99 (r_eqlN (p := ((nth s60.l t).l).length) (q := 0) rfl rfl rfl) (wanted_none rfl _) rfl rfl fun a100 hq100 => ?_; clear hq99
  refine wq_val hq100 (r_move rfl rfl) (wanted_none rfl _) rfl rfl fun a101 hq101 => ?_; clear hq100
  refine wq_val hq101 (r_move rfl rfl) (wanted_yes hq101 rfl rfl rfl rfl (decide_eq_false (by omega))) rfl rfl fun a103 hq103 => ?_; clear hq101
  refine wq_val hq103 (r_move rfl rfl) (wanted_yes hq103 rfl rfl rfl rfl (decide_eq_false (by omega))) rfl rfl fun a105 hq105 => ?_; clear hq103
  refine wq_val hq105 (r_ixN (s := s60) (q := t) sl_59 ti_46 rfl rfl rfl (fun w h => (h.deep 2 rfl)) (show t < s60.l.length from (by omega))) (wanted_yes hq105 rfl rfl rfl rfl (decide_eq_false (by omega))) rfl rfl fun a107 hq107 => ?_; clear hq105
  refine wq_val hq107 (r_lde (s := s60) (i := t) (v := (nth s60.l t).v) ti_46 rfl rfl rfl (fun w h => (h.deep 2 rfl)) (show t < s60.l.length from (by omega)) (Nat.le_of_ble_eq_true rfl) rfl) (wanted_yes hq107 rfl rfl rfl rfl (decide_eq_false (by omega))) rfl rfl fun a109 hq109 => ?_; clear hq107
  refine wq_val hq109 (r_move rfl rfl) (wanted_yes hq109 rfl rfl rfl rfl (decide_eq_false (by omega))) rfl rfl fun a111 hq111 => ?_; clear hq109
  refine wq_val hq111 (r_move rfl rfl) (wanted_yes hq111 rfl rfl rfl rfl (decide_eq_false (by omega))) rfl rfl fun a113 hq113 => ?_; clear hq111
  refine wq_val hq113 (r_ixN (s := s60) (q := t) sl_59 ti_46 rfl rfl rfl (fun w h => (h.deep 2 rfl)) (show t < s60.l.length from (by omega))) (wanted_yes hq113 rfl rfl rfl rfl (decide_eq_false (by omega))) rfl rfl fun a115 hq115 => ?_; clear hq113
  refine wq_val hq115 (r_lde (s := s60) (i := t) (v := (nth s60.l t).v) ti_46 rfl rfl rfl (fun w h => (h.deep 2 rfl)) (show t < s60.l.length from (by omega)) (Nat.le_of_ble_eq_true rfl) rfl) (wanted_yes hq115 rfl rfl rfl rfl (decide_eq_false (by omega))) rfl rfl fun a117 hq117 => ?_; clear hq115
  refine wq_val hq117 (r_len (s := nth s60.l t) (n := ((nth s60.l t).l).length) sl_46 rfl rfl (fun w h => ((h.deep 2 rfl).nth t (show t < s60.l.length from (by omega)))) rfl) (wanted_yes hq117 rfl rfl rfl rfl (decide_eq_false (by omega))) rfl rfl fun a119 hq119 => ?_; clear hq117
  refine wq_val hq119 (r_subN (p := ((nth s60.l t).l).length) (q := 1) rfl rfl rfl (show 1 ≤ ((nth s60.l t).l).length ∧ ((nth s60.l t).l).length < 9223372036854775808 from (by omega))) (wanted_yes hq119 rfl rfl rfl rfl (decide_eq_false (by omega))) rfl rfl fun a121 hq121 => ?_; clear hq119
  refine wq_val hq121 (r_ixN (s := nth s60.l t) (q := (((nth s60.l t).l).length) - 1) sl_46 ti_24 rfl rfl rfl (fun w h => ((h.deep 2 rfl).nth t (show t < s60.l.length from (by omega)))) (show (((nth s60.l t).l).length) - 1 < ((nth s60.l t).l).length from (by omega))) (wanted_yes hq121 rfl rfl rfl rfl (decide_eq_false (by omega))) rfl rfl fun a123 hq123 => ?_; clear hq121
  refine wq_val hq123 (r_lde (s := nth s60.l t) (i := (((nth s60.l t).l).length) - 1) (v := (nth ((nth s60.l t).l) ((((nth s60.l t).l).length) - 1)).v) ti_24 rfl rfl rfl (fun w h => ((h.deep 2 rfl).nth t (show t < s60.l.length from (by omega)))) (show (((nth s60.l t).l).length) - 1 < ((nth s60.l t).l).length from (by omega)) (Nat.le_of_ble_eq_true rfl) rfl) (wanted_yes hq123 rfl rfl rfl rfl (decide_eq_false (by omega))) rfl rfl fun a125 hq125 => ?_; clear hq123
  have hl127 : ((nth ((nth s60.l t).l) ((((nth s60.l t).l).length) - 1)).l).length ≤ 140737488355328 := (((h89.sh.deep 2 rfl).nth t (show t < s60.l.length from (by omega))).nth ((((nth s60.l t).l).length) - 1) (show (((nth s60.l t).l).length) - 1 < ((nth s60.l t).l).length from (by omega))).len
  refine wq_val hq125 (r_len (s := nth ((nth s60.l t).l) ((((nth s60.l t).l).length) - 1)) (n := ((nth ((nth s60.l t).l) ((((nth s60.l t).l).length) - 1)).l).length) sl_24 rfl rfl (fun w h => (((h.deep 2 rfl).nth t (show t < s60.l.length from (by omega))).nth ((((nth s60.l t).l).length) - 1) (show (((nth s60.l t).l).length) - 1 < ((nth s60.l t).l).length from (by omega)))) rfl) (wanted_yes hq125 rfl rfl rfl rfl (decide_eq_false (by omega))) rfl rfl fun a128 hq128 => ?_; clear hq125
  refine wq_val hq128 (r_neqN (p := ((nth ((nth s60.l t).l) ((((nth s60.l t).l).length) - 1)).l).length) (q := 0) rfl rfl rfl) (wanted_yes hq128 rfl rfl rfl rfl (decide_eq_false (by omega))) rfl rfl fun a130 hq130 => ?_; clear hq128
  refine wq_val hq130 (r_pickF rfl rfl (decide_eq_false (by omega)) rfl) (wanted_none rfl _) rfl rfl fun a131 hq131 => ?_; clear hq130
  refine wpQuiet_nil (hZ93 _ fun w132 hw132 => ?_)
  have h132 : St 178 (fun _ => False) W a131 w132 _ _ := ⟨hq131, hw132⟩
  clear hq131 hw132 h89
  refine hK92 _ _ ?_
  have h133 : St 178 (fun _ => False) W a131 w132 [(3, s60.v), (5, s68.v), (7, .int .i64 ((t : Nat) : Int)), (95, .bool (decide (((nth ((nth s60.l t).l) ((((nth s60.l t).l).length) - 1)).l).length ≠ 0)))] [.blk b72 31 [.int .i64 0, .int .i64 0, .int .i64 0], .deep 46 s68, .deep 46 s60, .own 3 (⟨v49, [0]⟩ : Ls Int), .blk b11 31 [.int .i64 0, .int .i64 0, .int .i64 0], .deep 46 sb, .deep 64 bc, .own 3 bu, .blk b3 28 [code.v, words.v, .int .i64 locks, .int .i64 regs], .at_ code, .at_ words] := h132.nrm ⟨rfl, rfl, rfl, rfl, trivial⟩ [0, 1, 2, 3, 4, 5, 6, 7, 8, 9, 10] (by decide) ⟨rfl, rfl, rfl, rfl, rfl, rfl, rfl, rfl, rfl, rfl, rfl, trivial⟩
  clear h132
  refine x_condF h133 rfl (decide_eq_false (by omega)) ?_
  refine wp_skip ?_
  refine hK91 _ _ ?_
  refine wp_region_lit ?_
  refine wms 1 h133 rfl fun a134 h134 => ?_; clear h133
  refine wv h134 (r_addN (p := t) (q := 1) rfl rfl rfl (show t + 1 < 9223372036854775808 from (by omega))) rfl rfl fun a135 h135 => ?_; clear h134
  refine wms 1 h135 rfl fun a136 h136 => ?_; clear h135
  refine wpList_nil ?_
  refine x_again ⟨_, ?_, t + 1, ?_, h136.nrm ⟨rfl, rfl, rfl, trivial⟩ [0, 1, 2, 3, 4, 5, 6, 7, 8, 9, 10] (by decide) ⟨rfl, rfl, rfl, rfl, rfl, rfl, rfl, rfl, rfl, rfl, rfl, trivial⟩, rfl⟩
  · rw [hm83]; first | omega | (simp only [lens9]; omega)
  · omega
 have hp90 : ¬ (t < s60.l.length) := of_decide_eq_false hb90
 refine wp_exit ?_
 refine hK80 _ _ ?_
 refine wp_seq_k fun K137 hK137 => ?_
 refine wp_seq_k fun K138 hK138 => wp_region_lit ?_
 refine wms 1 h89 rfl fun a139 h139 => ?_; clear h89
 refine wpList_nil (hK138 _ _ ?_)
 refine wp_block ?_
 refine x_loop (fun m a w => ∃ (t2 : Nat), (t2 ≤ s68.l.length) ∧ St 178 (fun _ => False) W a w [(5, s68.v), (8, .int .i64 ((t2 : Nat) : Int))] [.blk b72 31 [.int .i64 0, .int .i64 0, .int .i64 0], .deep 46 s68, .deep 46 s60, .own 3 (⟨v49, [0]⟩ : Ls Int), .blk b11 31 [.int .i64 0, .int .i64 0, .int .i64 0], .deep 46 sb, .deep 64 bc, .own 3 bu, .blk b3 28 [code.v, words.v, .int .i64 locks, .int .i64 regs], .at_ code, .at_ words] ∧ m = s68.l.length - t2) ⟨_, 0, (Nat.zero_le _), h139.nrm ⟨rfl, rfl, trivial⟩ [0, 1, 2, 3, 4, 5, 6, 7, 8, 9, 10] (by decide) ⟨rfl, rfl, rfl, rfl, rfl, rfl, rfl, rfl, rfl, rfl, rfl, trivial⟩, rfl⟩ ?_
 clear h139
 rintro m140 a140 w140 ⟨t2, ht2, h140, hm140⟩
 refine wp_seq_k fun K141 hK141 => ?_
 refine wp_seq_k fun K142 hK142 => wp_region_lit ?_
 refine wms 2 h140 rfl fun a143 h143 => ?_; clear h140
 have hl144 : s68.l.length ≤ 140737488355328 := (h143.sh.deep 1 rfl).len
 refine wv h143 (r_len (s := s68) (n := s68.l.length) sl_59 rfl rfl (fun w h => (h.deep 1 rfl)) rfl) rfl rfl fun a145 h145 => ?_; clear h143
 refine wv h145 (r_lssN (p := t2) (q := s68.l.length) rfl rfl rfl) rfl rfl fun a146 h146 => ?_; clear h145
 refine wpList_nil (hK142 _ _ ?_)
 refine x_cond h146 rfl (fun hb147 => ?_) (fun hb147 => ?_)
 ·
  have hp147 : t2 < s68.l.length := of_decide_eq_true hb147
  refine wp_skip ?_
  refine hK141 _ _ ?_
  obtain ⟨hc1, hc2⟩ := rowsV (hcv t2 (by omega))
  have hov := okV_of hok t2 (by omega)
  refine wp_seq_k fun K148 hK148 => ?_
  refine wp_block ?_
  refine wp_seq_k fun K149 hK149 => wp_region_lit ?_
  refine wms 1 h146 rfl fun a150 h150 => ?_; clear h146
  refine wpList_nil (hK149 _ _ ?_)
  refine wp_block ?_
  refine x_loop (fun m a w => ∃ (r : Nat), (r ≤ (nth s68.l t2).l.length) ∧ St 178 (fun _ => False) W a w [(5, s68.v), (8, .int .i64 ((t2 : Nat) : Int)), (9, .int .i64 ((r : Nat) : Int))] [.blk b72 31 [.int .i64 0, .int .i64 0, .int .i64 0], .deep 46 s68, .deep 46 s60, .own 3 (⟨v49, [0]⟩ : Ls Int), .blk b11 31 [.int .i64 0, .int .i64 0, .int .i64 0], .deep 46 sb, .deep 64 bc, .own 3 bu, .blk b3 28 [code.v, words.v, .int .i64 locks, .int .i64 regs], .at_ code, .at_ words] ∧ m = (nth s68.l t2).l.length - r) ⟨_, 0, (Nat.zero_le _), h150.nrm ⟨rfl, rfl, rfl, trivial⟩ [0, 1, 2, 3, 4, 5, 6, 7, 8, 9, 10] (by decide) ⟨rfl, rfl, rfl, rfl, rfl, rfl, rfl, rfl, rfl, rfl, rfl, trivial⟩, rfl⟩ ?_
  clear h150
  rintro m151 a151 w151 ⟨r, hr, h151, hm151⟩
  refine wp_seq_k fun K152 hK152 => ?_
  refine wp_seq_k fun K153 hK153 => wp_region_lit ?_
  refine wms 3 h151 rfl fun a154 h154 => ?_; clear h151
  refine wv h154 (r_ixN (s := s68) (q := t2) sl_59 ti_46 rfl rfl rfl (fun w h => (h.deep 1 rfl)) (show t2 < s68.l.length from (by omega))) rfl rfl fun a155 h155 => ?_; clear h154
  refine wv h155 (r_lde (s := s68) (i := t2) (v := (nth s68.l t2).v) ti_46 rfl rfl rfl (fun w h => (h.deep 1 rfl)) (show t2 < s68.l.length from (by omega)) (Nat.le_of_ble_eq_true rfl) rfl) rfl rfl fun a156 h156 => ?_; clear h155
  have hl157 : ((nth s68.l t2).l).length ≤ 140737488355328 := ((h156.sh.deep 1 rfl).nth t2 (show t2 < s68.l.length from (by omega))).len
  refine wv h156 (r_len (s := nth s68.l t2) (n := ((nth s68.l t2).l).length) sl_46 rfl rfl (fun w h => ((h.deep 1 rfl).nth t2 (show t2 < s68.l.length from (by omega)))) rfl) rfl rfl fun a158 h158 => ?_; clear h156
  refine wv h158 (r_lssN (p := r) (q := ((nth s68.l t2).l).length) rfl rfl rfl) rfl rfl fun a159 h159 => ?_; clear h158
  refine wpList_nil (hK153 _ _ ?_)
  refine x_cond h159 rfl (fun hb160 => ?_) (fun hb160 => ?_)
  ·
   have hp160 : r < ((nth s68.l t2).l).length := of_decide_eq_true hb160
   refine wp_skip ?_
   refine hK152 _ _ ?_
   refine wp_seq_k fun K161 hK161 => ?_
   refine wp_block ?_
   refine wp_seq_k fun K162 hK162 => wp_region_lit ?_
   refine wms 1 h159 rfl fun a163 h163 => ?_; clear h159
   refine wpList_nil (hK162 _ _ ?_)
   refine wp_block ?_
   refine x_loop (fun m a w => ∃ (i : Nat), (i ≤ (nth (nth s68.l t2).l r).l.length) ∧ St 178 (fun _ => False) W a w [(5, s68.v), (8, .int .i64 ((t2 : Nat) : Int)), (9, .int .i64 ((r : Nat) : Int)), (10, .int .i64 ((i : Nat) : Int))] [.blk b72 31 [.int .i64 0, .int .i64 0, .int .i64 0], .deep 46 s68, .deep 46 s60, .own 3 (⟨v49, [0]⟩ : Ls Int), .blk b11 31 [.int .i64 0, .int .i64 0, .int .i64 0], .deep 46 sb, .deep 64 bc, .own 3 bu, .blk b3 28 [code.v, words.v, .int .i64 locks, .int .i64 regs], .at_ code, .at_ words] ∧ m = (nth (nth s68.l t2).l r).l.length - i) ⟨_, 0, (Nat.zero_le _), h163.nrm ⟨rfl, rfl, rfl, rfl, trivial⟩ [0, 1, 2, 3, 4, 5, 6, 7, 8, 9, 10] (by decide) ⟨rfl, rfl, rfl, rfl, rfl, rfl, rfl, rfl, rfl, rfl, rfl, trivial⟩, rfl⟩ ?_
   clear h163
   rintro m164 a164 w164 ⟨i, hi, h164, hm164⟩
   refine wp_seq_k fun K165 hK165 => ?_
   refine wp_seq_k fun K166 hK166 => wp_region_lit ?_
   refine wms 3 h164 rfl fun a167 h167 => ?_; clear h164
   refine wv h167 (r_ixN (s := s68) (q := t2) sl_59 ti_46 rfl rfl rfl (fun w h => (h.deep 1 rfl)) (show t2 < s68.l.length from (by omega))) rfl rfl fun a168 h168 => ?_; clear h167
   refine wv h168 (r_lde (s := s68) (i := t2) (v := (nth s68.l t2).v) ti_46 rfl rfl rfl (fun w h => (h.deep 1 rfl)) (show t2 < s68.l.length from (by omega)) (Nat.le_of_ble_eq_true rfl) rfl) rfl rfl fun a169 h169 => ?_; clear h168
   refine wms 1 h169 rfl fun a170 h170 => ?_; clear h169
   refine wv h170 (r_ixN (s := nth s68.l t2) (q := r) sl_46 ti_24 rfl rfl rfl (fun w h => ((h.deep 1 rfl).nth t2 (show t2 < s68.l.length from (by omega)))) (show r < ((nth s68.l t2).l).length from (by omega))) rfl rfl fun a171 h171 => ?_; clear h170
   refine wv h171 (r_lde (s := nth s68.l t2) (i := r) (v := (nth ((nth s68.l t2).l) r).v) ti_24 rfl rfl rfl (fun w h => ((h.deep 1 rfl).nth t2 (show t2 < s68.l.length from (by omega)))) (show r < ((nth s68.l t2).l).length from (by omega)) (Nat.le_of_ble_eq_true rfl) rfl) rfl rfl fun a172 h172 => ?_; clear h171
   have hl173 : ((nth ((nth s68.l t2).l) r).l).length ≤ 140737488355328 := (((h172.sh.deep 1 rfl).nth t2 (show t2 < s68.l.length from (by omega))).nth r (show r < ((nth s68.l t2).l).length from (by omega))).len
   refine wv h172 (r_len (s := nth ((nth s68.l t2).l) r) (n := ((nth ((nth s68.l t2).l) r).l).length) sl_24 rfl rfl (fun w h => (((h.deep 1 rfl).nth t2 (show t2 < s68.l.length from (by omega))).nth r (show r < ((nth s68.l t2).l).length from (by omega)))) rfl) rfl rfl fun a174 h174 => ?_; clear h172
   refine wv h174 (r_lssN (p := i) (q := ((nth ((nth s68.l t2).l) r).l).length) rfl rfl rfl) rfl rfl fun a175 h175 => ?_; clear h174
   refine wpList_nil (hK166 _ _ ?_)
   refine x_cond h175 rfl (fun hb176 => ?_) (fun hb176 => ?_)
   ·
    have hp176 : i < ((nth ((nth s68.l t2).l) r).l).length := of_decide_eq_true hb176
    refine wp_skip ?_
    refine hK165 _ _ ?_
    refine wp_seq_k fun K177 hK177 => ?_
    refine wp_block ?_
    refine wp_seq_k fun K178 hK178 => wp_region_lit ?_
    refine wms 2 h175 rfl fun a179 h179 => ?_; clear h175
    refine wv h179 (r_ixN (s := s68) (q := t2) sl_59 ti_46 rfl rfl rfl (fun w h => (h.deep 1 rfl)) (show t2 < s68.l.length from (by omega))) rfl rfl fun a180 h180 => ?_; clear h179
    refine wv h180 (r_lde (s := s68) (i := t2) (v := (nth s68.l t2).v) ti_46 rfl rfl rfl (fun w h => (h.deep 1 rfl)) (show t2 < s68.l.length from (by omega)) (Nat.le_of_ble_eq_true rfl) rfl) rfl rfl fun a181 h181 => ?_; clear h180
    refine wms 1 h181 rfl fun a182 h182 => ?_; clear h181
    refine wv h182 (r_ixN (s := nth s68.l t2) (q := r) sl_46 ti_24 rfl rfl rfl (fun w h => ((h.deep 1 rfl).nth t2 (show t2 < s68.l.length from (by omega)))) (show r < ((nth s68.l t2).l).length from (by omega))) rfl rfl fun a183 h183 => ?_; clear h182
    refine wv h183 (r_lde (s := nth s68.l t2) (i := r) (v := (nth ((nth s68.l t2).l) r).v) ti_24 rfl rfl rfl (fun w h => ((h.deep 1 rfl).nth t2 (show t2 < s68.l.length from (by omega)))) (show r < ((nth s68.l t2).l).length from (by omega)) (Nat.le_of_ble_eq_true rfl) rfl) rfl rfl fun a184 h184 => ?_; clear h183
    refine wms 1 h184 rfl fun a185 h185 => ?_; clear h184
    refine wv h185 (r_ixN (s := nth ((nth s68.l t2).l) r) (q := i) sl_24 ti_3 rfl rfl rfl (fun w h => (((h.deep 1 rfl).nth t2 (show t2 < s68.l.length from (by omega))).nth r (show r < ((nth s68.l t2).l).length from (by omega)))) (show i < ((nth ((nth s68.l t2).l) r).l).length from (by omega))) rfl rfl fun a186 h186 => ?_; clear h185
    refine wv h186 (r_lde (s := nth ((nth s68.l t2).l) r) (i := i) (v := .int .i64 (nth ((nth ((nth s68.l t2).l) r).l) i)) ti_3 rfl rfl rfl (fun w h => (((h.deep 1 rfl).nth t2 (show t2 < s68.l.length from (by omega))).nth r (show r < ((nth s68.l t2).l).length from (by omega)))) (show i < ((nth ((nth s68.l t2).l) r).l).length from (by omega)) (Nat.le_of_ble_eq_true rfl) rfl) rfl rfl fun a187 h187 => ?_; clear h186
    refine wms 1 h187 rfl fun a188 h188 => ?_; clear h187
    refine wpList_nil (hK178 _ _ ?_)
    have hrow := hc2 r (by omega)
    have hmem := nth_mem (nth (nth s68.l t2).l r).l i (by omega)
    obtain ⟨b, hbe, hb200, hcl9⟩ := listB_mem.1 (show nth (nth (nth s68.l t2).l r).l i ∈ listB _ by rw [← hrow]; exact hmem)
    have hlt9 := cl_lt hov (hF t2 (by omega)) (Nat.le_refl _) hcl9
    refine wp_seq_k fun K189 hK189 => ?_
    refine wp_seq_k fun K190 hK190 => wp_region_lit ?_
    refine wms 1 h188 rfl fun a191 h191 => ?_; clear h188
    refine wv h191 (r_lssI (p := nth ((nth ((nth s68.l t2).l) r).l) i) (q := 0) rfl rfl rfl) rfl rfl fun a192 h192 => ?_; clear h191
    refine wms 1 h192 rfl fun a193 h193 => ?_; clear h192
    refine wl_val h193 (r_move rfl rfl) (wanted_yes h193.fr rfl rfl rfl rfl (decide_eq_false (by omega))) rfl rfl fun a194 h194 => ?_; clear h193
    refine wl_val h194 (r_move rfl rfl) (wanted_yes h194.fr rfl rfl rfl rfl (decide_eq_false (by omega))) rfl rfl fun a195 h195 => ?_; clear h194
    refine wl_val h195 (r_move rfl rfl) (wanted_yes h195.fr rfl rfl rfl rfl (decide_eq_false (by omega))) rfl rfl fun a196 h196 => ?_; clear h195
    refine wl_val h196 (r_ixN (s := s68) (q := t2) sl_59 ti_46 rfl rfl rfl (fun w h => (h.deep 1 rfl)) (show t2 < s68.l.length from (by omega))) (wanted_yes h196.fr rfl rfl rfl rfl (decide_eq_false (by omega))) rfl rfl fun a197 h197 => ?_; clear h196
    refine wl_val h197 (r_lde (s := s68) (i := t2) (v := (nth s68.l t2).v) ti_46 rfl rfl rfl (fun w h => (h.deep 1 rfl)) (show t2 < s68.l.length from (by omega)) (Nat.le_of_ble_eq_true rfl) rfl) (wanted_yes h197.fr rfl rfl rfl rfl (decide_eq_false (by omega))) rfl rfl fun a198 h198 => ?_; clear h197
    refine wl_val h198 (r_len (s := nth s68.l t2) (n := ((nth s68.l t2).l).length) sl_46 rfl rfl (fun w h => ((h.deep 1 rfl).nth t2 (show t2 < s68.l.length from (by omega)))) rfl) (wanted_yes h198.fr rfl rfl rfl rfl (decide_eq_false (by omega))) rfl rfl fun a199 h199 => ?_; clear h198
    refine wl_val h199 (r_geqI (p := nth ((nth ((nth s68.l t2).l) r).l) i) (q := ((((nth s68.l t2).l).length : Nat) : Int)) rfl rfl rfl) (wanted_yes h199.fr rfl rfl rfl rfl (decide_eq_false (by omega))) rfl rfl fun a200 h200 => ?_; clear h199
    refine wv h200 (r_pickF rfl rfl (decide_eq_false (by omega)) rfl) rfl rfl fun a201 h201 => ?_; clear h200
    refine wms 1 h201 rfl fun a202 h202 => ?_; clear h201
    refine wl_val h202 (r_move rfl rfl) (wanted_yes h202.fr rfl rfl rfl rfl (decide_eq_false (by omega))) rfl rfl fun a203 h203 => ?_; clear h202
    refine wl_val h203 (r_move rfl rfl) (wanted_yes h203.fr rfl rfl rfl rfl (decide_eq_false (by omega))) rfl rfl fun a204 h204 => ?_; clear h203
    refine wl_val h204 (r_eqlI (p := nth ((nth ((nth s68.l t2).l) r).l) i) (q := ((r : Nat) : Int)) rfl rfl rfl) (wanted_yes h204.fr rfl rfl rfl rfl (decide_eq_false (by omega))) rfl rfl fun a205 h205 => ?_; clear h204
    refine wv h205 (r_pickF rfl rfl (decide_eq_false (by omega)) rfl) rfl rfl fun a206 h206 => ?_; clear h205
    refine wpList_nil (hK190 _ _ ?_)
    have h207 : St 178 (fun _ => False) W a206 w164 [(5, s68.v), (8, .int .i64 ((t2 : Nat) : Int)), (9, .int .i64 ((r : Nat) : Int)), (10, .int .i64 ((i : Nat) : Int)), (11, .int .i64 (nth ((nth ((nth s68.l t2).l) r).l) i)), (148, .bool (decide (nth ((nth ((nth s68.l t2).l) r).l) i = ((r : Nat) : Int))))] [.blk b72 31 [.int .i64 0, .int .i64 0, .int .i64 0], .deep 46 s68, .deep 46 s60, .own 3 (⟨v49, [0]⟩ : Ls Int), .blk b11 31 [.int .i64 0, .int .i64 0, .int .i64 0], .deep 46 sb, .deep 64 bc, .own 3 bu, .blk b3 28 [code.v, words.v, .int .i64 locks, .int .i64 regs], .at_ code, .at_ words] := h206.nrm ⟨rfl, rfl, rfl, rfl, rfl, rfl, trivial⟩ [0, 1, 2, 3, 4, 5, 6, 7, 8, 9, 10] (by decide) ⟨rfl, rfl, rfl, rfl, rfl, rfl, rfl, rfl, rfl, rfl, rfl, trivial⟩
    clear h206
    refine x_condF h207 rfl (decide_eq_false (by omega)) ?_
    refine wp_skip ?_
    refine hK189 _ _ ?_
    refine wp_seq_k fun K208 hK208 => wp_region_lit ?_
    refine wms 1 h207 rfl fun a209 h209 => ?_; clear h207
    refine wpList_nil (hK208 _ _ ?_)
    refine wp_seq_k fun K210 hK210 => ?_
    refine wp_seq_k fun K211 hK211 => wp_region_lit ?_
    refine wms 1 h209 rfl fun a212 h212 => ?_; clear h209
    refine wpList_nil (hK211 _ _ ?_)
    refine wp_block ?_
    refine x_loop (fun m a w => ∃ (k : Nat) (bk : Bool), (k ≤ (nth (nth s68.l t2).l (nth (nth (nth s68.l t2).l r).l i).toNat).l.length) ∧ (bk = ((nth (nth s68.l t2).l (nth (nth (nth s68.l t2).l r).l i).toNat).l.take k).any fun v => decide (v = (r : Int))) ∧ St 178 (fun _ => False) W a w [(5, s68.v), (8, .int .i64 ((t2 : Nat) : Int)), (9, .int .i64 ((r : Nat) : Int)), (10, .int .i64 ((i : Nat) : Int)), (11, .int .i64 (nth ((nth ((nth s68.l t2).l) r).l) i)), (12, .bool bk), (13, .int .i64 ((k : Nat) : Int))] [.blk b72 31 [.int .i64 0, .int .i64 0, .int .i64 0], .deep 46 s68, .deep 46 s60, .own 3 (⟨v49, [0]⟩ : Ls Int), .blk b11 31 [.int .i64 0, .int .i64 0, .int .i64 0], .deep 46 sb, .deep 64 bc, .own 3 bu, .blk b3 28 [code.v, words.v, .int .i64 locks, .int .i64 regs], .at_ code, .at_ words] ∧ m = (nth (nth s68.l t2).l (nth (nth (nth s68.l t2).l r).l i).toNat).l.length - k) ⟨_, 0, false, (Nat.zero_le _), (any_zero.symm), h212.nrm ⟨rfl, rfl, rfl, rfl, rfl, rfl, rfl, trivial⟩ [0, 1, 2, 3, 4, 5, 6, 7, 8, 9, 10] (by decide) ⟨rfl, rfl, rfl, rfl, rfl, rfl, rfl, rfl, rfl, rfl, rfl, trivial⟩, rfl⟩ ?_
    clear h212
    rintro m213 a213 w213 ⟨k, bk, hk, hbk, h213, hm213⟩
    refine wp_seq_k fun K214 hK214 => ?_
    refine wp_seq_k fun K215 hK215 => wp_region_lit ?_
    refine wms 3 h213 rfl fun a216 h216 => ?_; clear h213
    refine wv h216 (r_ixN (s := s68) (q := t2) sl_59 ti_46 rfl rfl rfl (fun w h => (h.deep 1 rfl)) (show t2 < s68.l.length from (by omega))) rfl rfl fun a217 h217 => ?_; clear h216
    refine wv h217 (r_lde (s := s68) (i := t2) (v := (nth s68.l t2).v) ti_46 rfl rfl rfl (fun w h => (h.deep 1 rfl)) (show t2 < s68.l.length from (by omega)) (Nat.le_of_ble_eq_true rfl) rfl) rfl rfl fun a218 h218 => ?_; clear h217
    refine wms 1 h218 rfl fun a219 h219 => ?_; clear h218
    refine wv h219 (r_ixI (s := nth s68.l t2) (q := nth ((nth ((nth s68.l t2).l) r).l) i) sl_46 ti_24 rfl rfl rfl (fun w h => ((h.deep 1 rfl).nth t2 (show t2 < s68.l.length from (by omega)))) (show 0 ≤ nth ((nth ((nth s68.l t2).l) r).l) i ∧ nth ((nth ((nth s68.l t2).l) r).l) i < ((nth s68.l t2).l).length from (by omega))) rfl rfl fun a220 h220 => ?_; clear h219
    refine wv h220 (r_lde (s := nth s68.l t2) (i := (nth ((nth ((nth s68.l t2).l) r).l) i).toNat) (v := (nth ((nth s68.l t2).l) ((nth ((nth ((nth s68.l t2).l) r).l) i).toNat)).v) ti_24 rfl rfl rfl (fun w h => ((h.deep 1 rfl).nth t2 (show t2 < s68.l.length from (by omega)))) (show (nth ((nth ((nth s68.l t2).l) r).l) i).toNat < ((nth s68.l t2).l).length from (by omega)) (Nat.le_of_ble_eq_true rfl) rfl) rfl rfl fun a221 h221 => ?_; clear h220
    have hl222 : ((nth ((nth s68.l t2).l) ((nth ((nth ((nth s68.l t2).l) r).l) i).toNat)).l).length ≤ 140737488355328 := (((h221.sh.deep 1 rfl).nth t2 (show t2 < s68.l.length from (by omega))).nth ((nth ((nth ((nth s68.l t2).l) r).l) i).toNat) (show (nth ((nth ((nth s68.l t2).l) r).l) i).toNat < ((nth s68.l t2).l).length from (by omega))).len
    refine wv h221 (r_len (s := nth ((nth s68.l t2).l) ((nth ((nth ((nth s68.l t2).l) r).l) i).toNat)) (n := ((nth ((nth s68.l t2).l) ((nth ((nth ((nth s68.l t2).l) r).l) i).toNat)).l).length) sl_24 rfl rfl (fun w h => (((h.deep 1 rfl).nth t2 (show t2 < s68.l.length from (by omega))).nth ((nth ((nth ((nth s68.l t2).l) r).l) i).toNat) (show (nth ((nth ((nth s68.l t2).l) r).l) i).toNat < ((nth s68.l t2).l).length from (by omega)))) rfl) rfl rfl fun a223 h223 => ?_; clear h221
    refine wv h223 (r_lssN (p := k) (q := ((nth ((nth s68.l t2).l) ((nth ((nth ((nth s68.l t2).l) r).l) i).toNat)).l).length) rfl rfl rfl) rfl rfl fun a224 h224 => ?_; clear h223
    refine wpList_nil (hK215 _ _ ?_)
    refine x_cond h224 rfl (fun hb225 => ?_) (fun hb225 => ?_)
    ·
     have hp225 : k < ((nth ((nth s68.l t2).l) ((nth ((nth ((nth s68.l t2).l) r).l) i).toNat)).l).length := of_decide_eq_true hb225
     refine wp_skip ?_
     refine hK214 _ _ ?_
     refine wp_seq_k fun K226 hK226 => ?_
     refine wp_block ?_
     refine wp_region_lit ?_
     refine wms 2 h224 rfl fun a227 h227 => ?_; clear h224
     rcases Bool.eq_false_or_eq_true bk with hb228 | hb228
     ·
      skip
      refine wl_skip h227 (wanted_no h227.fr rfl rfl rfl rfl hb228) rfl rfl fun a229 h229 => ?_; clear h227
      refine wl_skip h229 (wanted_no h229.fr rfl rfl rfl rfl hb228) rfl rfl fun a230 h230 => ?_; clear h229
      refine wl_skip h230 (wanted_no h230.fr rfl rfl rfl rfl hb228) rfl rfl fun a231 h231 => ?_; clear h230
      refine wl_skip h231 (wanted_no h231.fr rfl rfl rfl rfl hb228) rfl rfl fun a232 h232 => ?_; clear h231
      refine wl_skip h232 (wanted_no h232.fr rfl rfl rfl rfl hb228) rfl rfl fun a233 h233 => ?_; clear h232
      refine wl_skip h233 (wanted_no h233.fr rfl rfl rfl rfl hb228) rfl rfl fun a234 h234 => ?_; clear h233
      refine wl_skip h234 (wanted_no h234.fr rfl rfl rfl rfl hb228) rfl rfl fun a235 h235 => ?_; clear h234
      refine wl_skip h235 (wanted_no h235.fr rfl rfl rfl rfl hb228) rfl rfl fun a236 h236 => ?_; clear h235
      refine wl_skip h236 (wanted_no h236.fr rfl rfl rfl rfl hb228) rfl rfl fun a237 h237 => ?_; clear h236
      refine wl_skip h237 (wanted_no h237.fr rfl rfl rfl rfl hb228) rfl rfl fun a238 h238 => ?_; clear h237
      refine wl_skip h238 (wanted_no h238.fr rfl rfl rfl rfl hb228) rfl rfl fun a239 h239 => ?_; clear h238
      refine wl_skip h239 (wanted_no h239.fr rfl rfl rfl rfl hb228) rfl rfl fun a240 h240 => ?_; clear h239
      refine wv h240 (r_pickT rfl rfl hb228 rfl) rfl rfl fun a241 h241 => ?_; clear h240
      refine wms 1 h241 rfl fun a242 h242 => ?_; clear h241
      refine wpList_nil (hK226 _ _ ?_)
      have h243 : St 178 (fun _ => False) W a242 w213 [(5, s68.v), (8, .int .i64 ((t2 : Nat) : Int)), (9, .int .i64 ((r : Nat) : Int)), (10, .int .i64 ((i : Nat) : Int)), (11, .int .i64 (nth ((nth ((nth s68.l t2).l) r).l) i)), (12, .bool true), (13, .int .i64 ((k : Nat) : Int))] [.blk b72 31 [.int .i64 0, .int .i64 0, .int .i64 0], .deep 46 s68, .deep 46 s60, .own 3 (⟨v49, [0]⟩ : Ls Int), .blk b11 31 [.int .i64 0, .int .i64 0, .int .i64 0], .deep 46 sb, .deep 64 bc, .own 3 bu, .blk b3 28 [code.v, words.v, .int .i64 locks, .int .i64 regs], .at_ code, .at_ words] := h242.nrm ⟨rfl, rfl, rfl, rfl, rfl, rfl, rfl, trivial⟩ [0, 1, 2, 3, 4, 5, 6, 7, 8, 9, 10] (by decide) ⟨rfl, rfl, rfl, rfl, rfl, rfl, rfl, rfl, rfl, rfl, rfl, trivial⟩
      clear h242
      refine wp_region_lit ?_
      refine wms 1 h243 rfl fun a244 h244 => ?_; clear h243
      refine wv h244 (r_addN (p := k) (q := 1) rfl rfl rfl (show k + 1 < 9223372036854775808 from (by omega))) rfl rfl fun a245 h245 => ?_; clear h244
      refine wms 1 h245 rfl fun a246 h246 => ?_; clear h245
      refine wpList_nil ?_
      refine x_again ⟨_, ?_, k + 1, true, ?_, ?_, h246.nrm ⟨rfl, rfl, rfl, rfl, rfl, rfl, rfl, trivial⟩ [0, 1, 2, 3, 4, 5, 6, 7, 8, 9, 10] (by decide) ⟨rfl, rfl, rfl, rfl, rfl, rfl, rfl, rfl, rfl, rfl, rfl, trivial⟩, rfl⟩
      · rw [hm213]; first | omega | (simp only [lens9]; omega)
      · omega
      · first | (rw [any_step (by omega), ← hbk, show bk = true by assumption]; rfl) | (rw [any_step (by omega), ← hbk, show bk = false by assumption]; rfl)
     refine wl_val h227 (r_move rfl rfl) (wanted_yes h227.fr rfl rfl rfl rfl hb228) rfl rfl fun a247 h247 => ?_; clear h227
     refine wl_val h247 (r_move rfl rfl) (wanted_yes h247.fr rfl rfl rfl rfl hb228) rfl rfl fun a248 h248 => ?_; clear h247
     refine wl_val h248 (r_ixN (s := s68) (q := t2) sl_59 ti_46 rfl rfl rfl (fun w h => (h.deep 1 rfl)) (show t2 < s68.l.length from (by omega))) (wanted_yes h248.fr rfl rfl rfl rfl hb228) rfl rfl fun a249 h249 => ?_; clear h248
     refine wl_val h249 (r_lde (s := s68) (i := t2) (v := (nth s68.l t2).v) ti_46 rfl rfl rfl (fun w h => (h.deep 1 rfl)) (show t2 < s68.l.length from (by omega)) (Nat.le_of_ble_eq_true rfl) rfl) (wanted_yes h249.fr rfl rfl rfl rfl hb228) rfl rfl fun a250 h250 => ?_; clear h249
     refine wl_val h250 (r_move rfl rfl) (wanted_yes h250.fr rfl rfl rfl rfl hb228) rfl rfl fun a251 h251 => ?_; clear h250
     refine wl_val h251 (r_ixI (s := nth s68.l t2) (q := nth ((nth ((nth s68.l t2).l) r).l) i) sl_46 ti_24 rfl rfl rfl (fun w h => ((h.deep 1 rfl).nth t2 (show t2 < s68.l.length from (by omega)))) (show 0 ≤ nth ((nth ((nth s68.l t2).l) r).l) i ∧ nth ((nth ((nth s68.l t2).l) r).l) i < ((nth s68.l t2).l).length from (by omega))) (wanted_yes h251.fr rfl rfl rfl rfl hb228) rfl rfl fun a252 h252 => ?_; clear h251
     refine wl_val h252 (r_lde (s := nth s68.l t2) (i := (nth ((nth ((nth s68.l t2).l) r).l) i).toNat) (v := (nth ((nth s68.l t2).l) ((nth ((nth ((nth s68.l t2).l) r).l) i).toNat)).v) ti_24 rfl rfl rfl (fun w h => ((h.deep 1 rfl).nth t2 (show t2 < s68.l.length from (by omega)))) (show (nth ((nth ((nth s68.l t2).l) r).l) i).toNat < ((nth s68.l t2).l).length from (by omega)) (Nat.le_of_ble_eq_true rfl) rfl) (wanted_yes h252.fr rfl rfl rfl rfl hb228) rfl rfl fun a253 h253 => ?_; clear h252
     refine wl_val h253 (r_move rfl rfl) (wanted_yes h253.fr rfl rfl rfl rfl hb228) rfl rfl fun a254 h254 => ?_; clear h253
     refine wl_val h254 (r_ixN (s := nth ((nth s68.l t2).l) ((nth ((nth ((nth s68.l t2).l) r).l) i).toNat)) (q := k) sl_24 ti_3 rfl rfl rfl (fun w h => (((h.deep 1 rfl).nth t2 (show t2 < s68.l.length from (by omega))).nth ((nth ((nth ((nth s68.l t2).l) r).l) i).toNat) (show (nth ((nth ((nth s68.l t2).l) r).l) i).toNat < ((nth s68.l t2).l).length from (by omega)))) (show k < ((nth ((nth s68.l t2).l) ((nth ((nth ((nth s68.l t2).l) r).l) i).toNat)).l).length from (by omega))) (wanted_yes h254.fr rfl rfl rfl rfl hb228) rfl rfl fun a255 h255 => ?_; clear h254
     refine wl_val h255 (r_lde (s := nth ((nth s68.l t2).l) ((nth ((nth ((nth s68.l t2).l) r).l) i).toNat)) (i := k) (v := .int .i64 (nth ((nth ((nth s68.l t2).l) ((nth ((nth ((nth s68.l t2).l) r).l) i).toNat)).l) k)) ti_3 rfl rfl rfl (fun w h => (((h.deep 1 rfl).nth t2 (show t2 < s68.l.length from (by omega))).nth ((nth ((nth ((nth s68.l t2).l) r).l) i).toNat) (show (nth ((nth ((nth s68.l t2).l) r).l) i).toNat < ((nth s68.l t2).l).length from (by omega)))) (show k < ((nth ((nth s68.l t2).l) ((nth ((nth ((nth s68.l t2).l) r).l) i).toNat)).l).length from (by omega)) (Nat.le_of_ble_eq_true rfl) rfl) (wanted_yes h255.fr rfl rfl rfl rfl hb228) rfl rfl fun a256 h256 => ?_; clear h255
     refine wl_val h256 (r_move rfl rfl) (wanted_yes h256.fr rfl rfl rfl rfl hb228) rfl rfl fun a257 h257 => ?_; clear h256
     refine wl_val h257 (r_eqlI (p := nth ((nth ((nth s68.l t2).l) ((nth ((nth ((nth s68.l t2).l) r).l) i).toNat)).l) k) (q := ((r : Nat) : Int)) rfl rfl rfl) (wanted_yes h257.fr rfl rfl rfl rfl hb228) rfl rfl fun a258 h258 => ?_; clear h257
     refine wv h258 (r_pickF rfl rfl hb228 rfl) rfl rfl fun a259 h259 => ?_; clear h258
     refine wms 1 h259 rfl fun a260 h260 => ?_; clear h259
     refine wpList_nil (hK226 _ _ ?_)
     have h261 : St 178 (fun _ => False) W a260 w213 [(5, s68.v), (8, .int .i64 ((t2 : Nat) : Int)), (9, .int .i64 ((r : Nat) : Int)), (10, .int .i64 ((i : Nat) : Int)), (11, .int .i64 (nth ((nth ((nth s68.l t2).l) r).l) i)), (12, .bool (decide (nth ((nth ((nth s68.l t2).l) ((nth ((nth ((nth s68.l t2).l) r).l) i).toNat)).l) k = ((r : Nat) : Int)))), (13, .int .i64 ((k : Nat) : Int))] [.blk b72 31 [.int .i64 0, .int .i64 0, .int .i64 0], .deep 46 s68, .deep 46 s60, .own 3 (⟨v49, [0]⟩ : Ls Int), .blk b11 31 [.int .i64 0, .int .i64 0, .int .i64 0], .deep 46 sb, .deep 64 bc, .own 3 bu, .blk b3 28 [code.v, words.v, .int .i64 locks, .int .i64 regs], .at_ code, .at_ words] := h260.nrm ⟨rfl, rfl, rfl, rfl, rfl, rfl, rfl, trivial⟩ [0, 1, 2, 3, 4, 5, 6, 7, 8, 9, 10] (by decide) ⟨rfl, rfl, rfl, rfl, rfl, rfl, rfl, rfl, rfl, rfl, rfl, trivial⟩
     clear h260
     refine wp_region_lit ?_
     refine wms 1 h261 rfl fun a262 h262 => ?_; clear h261
     refine wv h262 (r_addN (p := k) (q := 1) rfl rfl rfl (show k + 1 < 9223372036854775808 from (by omega))) rfl rfl fun a263 h263 => ?_; clear h262
     refine wms 1 h263 rfl fun a264 h264 => ?_; clear h263
     refine wpList_nil ?_
     refine x_again ⟨_, ?_, k + 1, decide (nth ((nth ((nth s68.l t2).l) ((nth ((nth ((nth s68.l t2).l) r).l) i).toNat)).l) k = ((r : Nat) : Int)), ?_, ?_, h264.nrm ⟨rfl, rfl, rfl, rfl, rfl, rfl, rfl, trivial⟩ [0, 1, 2, 3, 4, 5, 6, 7, 8, 9, 10] (by decide) ⟨rfl, rfl, rfl, rfl, rfl, rfl, rfl, rfl, rfl, rfl, rfl, trivial⟩, rfl⟩
     · rw [hm213]; first | omega | (simp only [lens9]; omega)
     · omega
     · first | (rw [any_step (by omega), ← hbk, show bk = true by assumption]; rfl) | (rw [any_step (by omega), ← hbk, show bk = false by assumption]; rfl)
    have hp225 : ¬ (k < ((nth ((nth s68.l t2).l) ((nth ((nth ((nth s68.l t2).l) r).l) i).toNat)).l).length) := of_decide_eq_false hb225
    refine wp_exit ?_
    refine hK210 _ _ ?_
    have hbt : bk = true := by
     rw [hbk, any_all (by omega), List.any_eq_true]
     refine ⟨(r : Int), ?_, decide_eq_true rfl⟩
     rw [hc2 _ (by omega), show (nth (nth (nth s68.l t2).l r).l i).toNat = b by omega]
     exact listB_mem.2 ⟨r, rfl, by omega, by rw [clTo_symm]; exact hcl9⟩
    refine wp_seq_k fun K265 hK265 => wp_region_lit ?_
    refine wms 1 h224 rfl fun a266 h266 => ?_; clear h224
    refine wv h266 (r_not rfl rfl) rfl rfl fun a267 h267 => ?_; clear h266
    refine wpList_nil (hK265 _ _ ?_)
    refine x_condF h267 rfl (by rw [hbt]; rfl) ?_
    refine wp_skip ?_
    refine hK177 _ _ ?_
    refine wp_region_lit ?_
    refine wms 1 h267 rfl fun a268 h268 => ?_; clear h267
    refine wv h268 (r_addN (p := i) (q := 1) rfl rfl rfl (show i + 1 < 9223372036854775808 from (by omega))) rfl rfl fun a269 h269 => ?_; clear h268
    refine wms 1 h269 rfl fun a270 h270 => ?_; clear h269
    refine wpList_nil ?_
    refine x_again ⟨_, ?_, i + 1, ?_, h270.nrm ⟨rfl, rfl, rfl, rfl, trivial⟩ [0, 1, 2, 3, 4, 5, 6, 7, 8, 9, 10] (by decide) ⟨rfl, rfl, rfl, rfl, rfl, rfl, rfl, rfl, rfl, rfl, rfl, trivial⟩, rfl⟩
    · rw [hm164]; first | omega | (simp only [lens9]; omega)
    · omega
   have hp176 : ¬ (i < ((nth ((nth s68.l t2).l) r).l).length) := of_decide_eq_false hb176
   refine wp_exit ?_
   refine hK161 _ _ ?_
   refine wp_region_lit ?_
   refine wms 1 h175 rfl fun a271 h271 => ?_; clear h175
   refine wv h271 (r_addN (p := r) (q := 1) rfl rfl rfl (show r + 1 < 9223372036854775808 from (by omega))) rfl rfl fun a272 h272 => ?_; clear h271
   refine wms 1 h272 rfl fun a273 h273 => ?_; clear h272
   refine wpList_nil ?_
   refine x_again ⟨_, ?_, r + 1, ?_, h273.nrm ⟨rfl, rfl, rfl, trivial⟩ [0, 1, 2, 3, 4, 5, 6, 7, 8, 9, 10] (by decide) ⟨rfl, rfl, rfl, rfl, rfl, rfl, rfl, rfl, rfl, rfl, rfl, trivial⟩, rfl⟩
   · rw [hm151]; first | omega | (simp only [lens9]; omega)
   · omega
  have hp160 : ¬ (r < ((nth s68.l t2).l).length) := of_decide_eq_false hb160
  refine wp_exit ?_
  refine hK148 _ _ ?_
  refine wp_region_lit ?_
  refine wms 1 h159 rfl fun a274 h274 => ?_; clear h159
  refine wv h274 (r_addN (p := t2) (q := 1) rfl rfl rfl (show t2 + 1 < 9223372036854775808 from (by omega))) rfl rfl fun a275 h275 => ?_; clear h274
  refine wms 1 h275 rfl fun a276 h276 => ?_; clear h275
  refine wpList_nil ?_
  refine x_again ⟨_, ?_, t2 + 1, ?_, h276.nrm ⟨rfl, rfl, trivial⟩ [0, 1, 2, 3, 4, 5, 6, 7, 8, 9, 10] (by decide) ⟨rfl, rfl, rfl, rfl, rfl, rfl, rfl, rfl, rfl, rfl, rfl, trivial⟩, rfl⟩
  · rw [hm140]; first | omega | (simp only [lens9]; omega)
  · omega
 have hp147 : ¬ (t2 < s68.l.length) := of_decide_eq_false hb147
 refine wp_exit ?_
 refine hK137 _ _ ?_
 refine wp_seq_k fun K277 hK277 => wp_region_lit ?_
 refine wms 1 h146 rfl fun a278 h278 => ?_; clear h146
 refine wpList_nil (hK277 _ _ ?_)
 refine wp_ret ?_
 try simp only [Exit.then, Exit.inBlock]
 refine x_ret1 (fn := Try.f14) (t := 2) rfl h278 rfl ?_
 exact ⟨rfl, (h278.sh.sel [] (by decide) trivial)⟩

theorem liveEnds_any (code : Ls (Ls Ins)) (words : Ls Int) (locks regs : Int) (W : World) (hcode : code.At W) (hwords : words.At W) : Rets Try.prog 14 [.agg #[code.v, words.v, .int .i64 locks, .int .i64 regs]] W (fun v w' => v = .bool true ∧ Sh0 W w' []) := by
  cases hv : vastG (code.l.map (·.l)) words.l with
  | true => exact liveEnds_v code words locks regs W hcode hwords hv
  | false =>
    by_cases hok : OkPg (pgOf code words locks regs)
    · exact liveEnds_k code words locks regs W hcode hwords hv hok
    · exact liveEnds_b code words locks regs W hcode hwords hv (fun h => hok (checkG_code_pos.1 h))
end Go.Proofs.Ytanhbpofhebbaaa
