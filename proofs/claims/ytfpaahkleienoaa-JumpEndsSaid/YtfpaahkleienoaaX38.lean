/-
  Contracts of functions of this program and of the references, each walked once.
-/
import Derived.Test.YtfpaahkleienoaaX35
import Derived.Test.YtfpaahkleienoaaX5
import Derived.Test.YtfpaahkleienoaaX33
import Derived.Test.YtfpaahkleienoaaX6
section
namespace Go.Proofs.Ytfpaahkleienoaa
open Go.RowKit
set_option linter.unusedSimpArgs false
set_option linter.unusedVariables false


theorem neq_flt (f g : Flt) (w : World) : (binOp .neq 28 f.val g.val).run Try.prog w = .ok (.bool (decide (f ≠ g))) w := by
  obtain ⟨a, b, c⟩ := f
  obtain ⟨a', b', c'⟩ := g
  simp [binOp, Flt.val, Op.equal, Op.maxDepth, go_sem]
  by_cases h1 : a = a' <;> by_cases h2 : b = b' <;> by_cases h3 : c = c' <;> simp [h1, h2, h3]
theorem neq_fltG (x y : Operand) (f g : Flt) (w : World) : (eqGuard .neq 28 x y f.val g.val).run Try.prog w = .ok () w := by
  simp [eqGuard, Flt.val]
  try kernel_rfl

theorem r_neqS {P : Program} {o : Oper} {N : Nat} {K : Nat → Prop} {W : World} {F : List (Nat × Value)} {L : List Asn} {T U : TypeId} {x y : Operand} {u v : Value} {b : Bool} (ho : o.op = .binOp .neq T x y U) (hx : ev F x = some u) (hy : ev F y = some v) (hg : ∀ w, (eqGuard .neq T x y u v).run P w = .ok () w) (hb : ∀ w, (binOp .neq T u v).run P w = .ok (.bool b) w) : Rn P o N K W F L (.bool b) := fun a w h => by
  unfold execOp
  simp only [ho, h.fr.ev hx, h.fr.ev hy, Sem.run_bind, Sem.run_pure, Result.andThen_ok, hg, hb]
end Go.Proofs.Ytfpaahkleienoaa
end
namespace Go.Proofs.Ytfpaahkleienoaa
open Go.RowKit
set_option linter.unusedSimpArgs false
set_option linter.unusedVariables false


theorem take_hund {β : Type} {l : List β} {t : Nat} (h1 : t ≤ l.length) (h2 : t ≤ 100) (h3 : ¬ (t < l.length ∧ t < 100)) : l.take 100 = l.take t := by
  rcases Nat.lt_or_ge t 100 with h | h
  · rw [List.take_of_length_le (by omega), List.take_of_length_le (by omega)]
  · rw [show t = 100 by omega]
set_option maxRecDepth 100000 in
set_option maxHeartbeats 2000000 in
theorem kvast_c (code : Ls (Ls Ins)) (words : Ls Int) (locks regs : Int) (W : World) (hcode : code.At W) (hwords : words.At W) :
    Rets Try.prog 16 [.agg #[code.v, words.v, .int .i64 locks, .int .i64 regs]] W (fun v w' => v = .bool (vastG (code.l.map (·.l)) words.l) ∧ Sh0 W w' []) := by
 refine x_enter (N := 39) Try.func16 rfl Try.ntmps16 (Nat.le_of_ble_eq_true rfl) fun a1 hf1 => ?_
 have h1 : St 39 (fun _ => False) W a1 W [(0, .agg #[code.v, words.v, .int .i64 locks, .int .i64 regs])] [.at_ code, .at_ words] := ⟨hf1.sub ⟨rfl, trivial⟩, Sh0.ext2 hcode hwords⟩
 clear hf1
 refine wp_seq_k fun K2 hK2 => wp_region_lit ?_
 refine wl_ex (x_box (cs := [code.v, words.v, .int .i64 locks, .int .i64 regs]) h1 rfl rfl rfl rfl rfl) (wanted_none rfl _) ?_
 rintro a3 w3 ⟨b3, h3⟩; clear h1
 refine wms 1 h3 rfl fun a4 h4 => ?_; clear h3
 refine wpList_nil (hK2 _ _ ?_)
 refine wp_seq_k fun K5 hK5 => wp_region_lit ?_
 refine wv h4 (r_fieldB (r := 0) fl_25_0 rfl rfl rfl) rfl rfl fun a6 h6 => ?_; clear h4
 refine wv h6 (r_ldb (i := 0) ti_22 rfl rfl rfl rfl) rfl rfl fun a7 h7 => ?_; clear h6
 have hl8 : code.l.length ≤ 140737488355328 := (h7.sh.at 1 rfl).len
 refine wv h7 (r_len (s := code) (n := code.l.length) sl_22 rfl rfl (fun w h => (h.at 1 rfl)) rfl) rfl rfl fun a9 h9 => ?_; clear h7
 refine wv h9 (r_fieldB (r := 1) fl_25_1 rfl rfl rfl) rfl rfl fun a10 h10 => ?_; clear h9
 refine wv h10 (r_ldb (i := 0) ti_23 rfl rfl rfl rfl) rfl rfl fun a11 h11 => ?_; clear h10
 have hl12 : words.l.length ≤ 140737488355328 := (h11.sh.at 2 rfl).len
 refine wv h11 (r_len (s := words) (n := words.l.length) sl_23 rfl rfl (fun w h => (h.at 2 rfl)) rfl) rfl rfl fun a13 h13 => ?_; clear h11
 refine wv h13 (r_addN (p := code.l.length) (q := words.l.length) rfl rfl rfl (show code.l.length + words.l.length < 9223372036854775808 from (by first | omega | (have := (hcode.inner t (by omega) : (nth code.l t).At W).len; omega)))) rfl rfl fun a14 h14 => ?_; clear h13
 refine wms 1 h14 rfl fun a15 h15 => ?_; clear h14
 refine wpList_nil (hK5 _ _ ?_)
 refine wp_seq_k fun K16 hK16 => ?_
 refine wp_seq_k fun K17 hK17 => wp_region_lit ?_
 refine wms 1 h15 rfl fun a18 h18 => ?_; clear h15
 refine wpList_nil (hK17 _ _ ?_)
 refine wp_block ?_
 have hwl := hwords.len
 have hcl := hcode.len
 refine x_loop (fun m a w => ∃ (n t : Nat), (t ≤ code.l.length ∧ t ≤ 100) ∧ ((n : Int) = code.l.length + words.l.length + (((code.l.map (·.l)).take t).map fun s => (s.length : Int)).sum) ∧ (n ≤ (t + 2) * 140737488355328) ∧ St 39 (fun _ => False) W a w [(1, .pointer (some ⟨b3, 0, none⟩)), (3, .int .i64 ((n : Nat) : Int)), (4, .int .i64 ((t : Nat) : Int))] [.blk b3 25 [code.v, words.v, .int .i64 locks, .int .i64 regs], .at_ code, .at_ words] ∧ m = code.l.length - t) ⟨_, code.l.length + words.l.length, 0, (by omega), (by simp), (by omega), h18.nrm ⟨rfl, rfl, rfl, trivial⟩ [0, 1, 2] (by decide) ⟨rfl, rfl, rfl, trivial⟩, rfl⟩ ?_
 clear h18
 rintro m19 a19 w19 ⟨n, t, ht, hn, hn2, h19, hm19⟩
 refine wp_seq_k fun K20 hK20 => ?_
 refine wp_seq_k fun K21 hK21 => wp_region_lit ?_
 refine wms 1 h19 rfl fun a22 h22 => ?_; clear h19
 refine wv h22 (r_fieldB (r := 0) fl_25_0 rfl rfl rfl) rfl rfl fun a23 h23 => ?_; clear h22
 refine wv h23 (r_ldb (i := 0) ti_22 rfl rfl rfl rfl) rfl rfl fun a24 h24 => ?_; clear h23
 refine wv h24 (r_len (s := code) (n := code.l.length) sl_22 rfl rfl (fun w h => (h.at 1 rfl)) rfl) rfl rfl fun a25 h25 => ?_; clear h24
 refine wv h25 (r_lssN (p := t) (q := code.l.length) rfl rfl rfl) rfl rfl fun a26 h26 => ?_; clear h25
 refine wms 1 h26 rfl fun a27 h27 => ?_; clear h26
 rcases Bool.eq_false_or_eq_true (decide (t < code.l.length)) with hb28 | hb28
 ·
  have hp28 : t < code.l.length := of_decide_eq_true hb28
  refine wl_val h27 (r_move rfl rfl) (wanted_yes h27.fr rfl rfl rfl rfl hb28) rfl rfl fun a29 h29 => ?_; clear h27
  refine wl_val h29 (r_lssN (p := t) (q := 100) rfl rfl rfl) (wanted_yes h29.fr rfl rfl rfl rfl hb28) rfl rfl fun a30 h30 => ?_; clear h29
  refine wv h30 (r_pickT rfl rfl hb28 rfl) rfl rfl fun a31 h31 => ?_; clear h30
  refine wpList_nil (hK21 _ _ ?_)
  refine x_cond h31 rfl (fun hb32 => ?_) (fun hb32 => ?_)
  ·
   have hp32 : t < 100 := of_decide_eq_true hb32
   refine wp_skip ?_
   refine hK20 _ _ ?_
   have hlt := (hcode.inner t (by omega) : (nth code.l t).At W).len
   refine wp_seq_k fun K33 hK33 => ?_
   refine wp_block ?_
   refine wp_region_lit ?_
   refine wms 1 h31 rfl fun a34 h34 => ?_; clear h31
   refine wv h34 (r_fieldB (r := 0) fl_25_0 rfl rfl rfl) rfl rfl fun a35 h35 => ?_; clear h34
   refine wv h35 (r_ldb (i := 0) ti_22 rfl rfl rfl rfl) rfl rfl fun a36 h36 => ?_; clear h35
   refine wms 1 h36 rfl fun a37 h37 => ?_; clear h36
   refine wv h37 (r_ixN (s := code) (q := t) sl_22 ti_33 rfl rfl rfl (fun w h => (h.at 1 rfl)) (show t < code.l.length from (by omega))) rfl rfl fun a38 h38 => ?_; clear h37
   refine wv h38 (r_lde (s := code) (i := t) (v := (nth code.l t).v) ti_33 rfl rfl rfl (fun w h => (h.at 1 rfl)) (show t < code.l.length from (by omega)) (Nat.le_of_ble_eq_true rfl) rfl) rfl rfl fun a39 h39 => ?_; clear h38
   have hl40 : ((nth code.l t).l).length ≤ 140737488355328 := ((h39.sh.at 1 rfl).nth t (show t < code.l.length from (by omega))).len
   refine wv h39 (r_len (s := nth code.l t) (n := ((nth code.l t).l).length) sl_33 rfl rfl (fun w h => ((h.at 1 rfl).nth t (show t < code.l.length from (by omega)))) rfl) rfl rfl fun a41 h41 => ?_; clear h39
   refine wv h41 (r_addN (p := n) (q := ((nth code.l t).l).length) rfl rfl rfl (show n + (((nth code.l t).l).length) < 9223372036854775808 from (by first | omega | (have := (hcode.inner t (by omega) : (nth code.l t).At W).len; omega)))) rfl rfl fun a42 h42 => ?_; clear h41
   refine wms 1 h42 rfl fun a43 h43 => ?_; clear h42
   refine wpList_nil (hK33 _ _ ?_)
   refine wp_region_lit ?_
   refine wms 1 h43 rfl fun a44 h44 => ?_; clear h43
   refine wv h44 (r_addN (p := t) (q := 1) rfl rfl rfl (show t + 1 < 9223372036854775808 from (by first | omega | (have := (hcode.inner t (by omega) : (nth code.l t).At W).len; omega)))) rfl rfl fun a45 h45 => ?_; clear h44
   refine wms 1 h45 rfl fun a46 h46 => ?_; clear h45
   refine wpList_nil ?_
   refine x_again ⟨_, ?_, n + (((nth code.l t).l).length), t + 1, ?_, ?_, ?_, h46.nrm ⟨rfl, rfl, rfl, trivial⟩ [0, 1, 2] (by decide) ⟨rfl, rfl, rfl, trivial⟩, rfl⟩
   · rw [hm19]; first | omega | (simp only [lens9]; omega)
   · omega
   · rw [take_succ_nth _ _ (by simp; omega), List.map_append, List.sum_append, nth_map' _ _ _ (by omega)]; simp only [List.map_cons, List.map_nil, List.sum_cons, List.sum_nil]; omega
   · omega
  have hp32 : ¬ (t < 100) := of_decide_eq_false hb32
  refine wp_exit ?_
  refine hK16 _ _ ?_
  refine wp_seq_k fun K47 hK47 => wp_region_lit ?_
  refine wms 1 h31 rfl fun a48 h48 => ?_; clear h31
  refine wv h48 (r_gtrN (p := n) (q := 5000) rfl rfl rfl) rfl rfl fun a49 h49 => ?_; clear h48
  refine wms 1 h49 rfl fun a50 h50 => ?_; clear h49
  rcases Bool.eq_false_or_eq_true (decide (5000 < n)) with hb51 | hb51
  ·
   have hp51 : 5000 < n := of_decide_eq_true hb51
   refine wl_skip h50 (wanted_no h50.fr rfl rfl rfl rfl hb51) rfl rfl fun a52 h52 => ?_; clear h50
   refine wl_skip h52 (wanted_no h52.fr rfl rfl rfl rfl hb51) rfl rfl fun a53 h53 => ?_; clear h52
   refine wl_skip h53 (wanted_no h53.fr rfl rfl rfl rfl hb51) rfl rfl fun a54 h54 => ?_; clear h53
   refine wl_skip h54 (wanted_no h54.fr rfl rfl rfl rfl hb51) rfl rfl fun a55 h55 => ?_; clear h54
   refine wv h55 (r_pickT rfl rfl hb51 rfl) rfl rfl fun a56 h56 => ?_; clear h55
   refine wms 1 h56 rfl fun a57 h57 => ?_; clear h56
   refine wpList_nil (hK47 _ _ ?_)
   refine wp_ret ?_
   try simp only [Exit.then, Exit.inBlock]
   refine x_ret1 (fn := Try.f16) (t := 2) rfl h57 rfl ?_
   refine ⟨?_, (h57.sh.sel [] (by decide) trivial)⟩
   congr 1
   have hv : vastG (code.l.map (·.l)) words.l = (decide (5000 < n) || decide (100 < code.l.length)) := by unfold vastG; rw [take_hund (l := code.l.map (·.l)) (t := t) (by simp; omega) (by omega) (by simp; omega), List.length_map]; congr 1 <;> (rw [decide_eq_decide]; omega)
   rw [hv]
   first | (rw [show decide (5000 < n) = true by assumption]; rfl) | (rw [show decide (5000 < n) = false by assumption]; rfl)
  have hp51 : ¬ (5000 < n) := of_decide_eq_false hb51
  refine wl_val h50 (r_fieldB (r := 0) fl_25_0 rfl rfl rfl) (wanted_yes h50.fr rfl rfl rfl rfl hb51) rfl rfl fun a58 h58 => ?_; clear h50
  refine wl_val h58 (r_ldb (i := 0) ti_22 rfl rfl rfl rfl) (wanted_yes h58.fr rfl rfl rfl rfl hb51) rfl rfl fun a59 h59 => ?_; clear h58
  refine wl_val h59 (r_len (s := code) (n := code.l.length) sl_22 rfl rfl (fun w h => (h.at 1 rfl)) rfl) (wanted_yes h59.fr rfl rfl rfl rfl hb51) rfl rfl fun a60 h60 => ?_; clear h59
  refine wl_val h60 (r_gtrN (p := code.l.length) (q := 100) rfl rfl rfl) (wanted_yes h60.fr rfl rfl rfl rfl hb51) rfl rfl fun a61 h61 => ?_; clear h60
  refine wv h61 (r_pickF rfl rfl hb51 rfl) rfl rfl fun a62 h62 => ?_; clear h61
  refine wms 1 h62 rfl fun a63 h63 => ?_; clear h62
  refine wpList_nil (hK47 _ _ ?_)
  refine wp_ret ?_
  try simp only [Exit.then, Exit.inBlock]
  refine x_ret1 (fn := Try.f16) (t := 2) rfl h63 rfl ?_
  refine ⟨?_, (h63.sh.sel [] (by decide) trivial)⟩
  congr 1
  have hv : vastG (code.l.map (·.l)) words.l = (decide (5000 < n) || decide (100 < code.l.length)) := by unfold vastG; rw [take_hund (l := code.l.map (·.l)) (t := t) (by simp; omega) (by omega) (by simp; omega), List.length_map]; congr 1 <;> (rw [decide_eq_decide]; omega)
  rw [hv]
  first | (rw [show decide (5000 < n) = true by assumption]; rfl) | (rw [show decide (5000 < n) = false by assumption]; rfl)
 have hp28 : ¬ (t < code.l.length) := of_decide_eq_false hb28
 refine wl_skip h27 (wanted_no h27.fr rfl rfl rfl rfl hb28) rfl rfl fun a64 h64 => ?_; clear h27
 refine wl_skip h64 (wanted_no h64.fr rfl rfl rfl rfl hb28) rfl rfl fun a65 h65 => ?_; clear h64
 refine wv h65 (r_pickF rfl rfl hb28 rfl) rfl rfl fun a66 h66 => ?_; clear h65
 refine wpList_nil (hK21 _ _ ?_)
 refine x_condF h66 rfl rfl ?_
 refine wp_exit ?_
 refine hK16 _ _ ?_
 refine wp_seq_k fun K67 hK67 => wp_region_lit ?_
 refine wms 1 h66 rfl fun a68 h68 => ?_; clear h66
 refine wv h68 (r_gtrN (p := n) (q := 5000) rfl rfl rfl) rfl rfl fun a69 h69 => ?_; clear h68
 refine wms 1 h69 rfl fun a70 h70 => ?_; clear h69
 rcases Bool.eq_false_or_eq_true (decide (5000 < n)) with hb71 | hb71
 ·
  have hp71 : 5000 < n := of_decide_eq_true hb71
  refine wl_skip h70 (wanted_no h70.fr rfl rfl rfl rfl hb71) rfl rfl fun a72 h72 => ?_; clear h70
  refine wl_skip h72 (wanted_no h72.fr rfl rfl rfl rfl hb71) rfl rfl fun a73 h73 => ?_; clear h72
  refine wl_skip h73 (wanted_no h73.fr rfl rfl rfl rfl hb71) rfl rfl fun a74 h74 => ?_; clear h73
  refine wl_skip h74 (wanted_no h74.fr rfl rfl rfl rfl hb71) rfl rfl fun a75 h75 => ?_; clear h74
  refine wv h75 (r_pickT rfl rfl hb71 rfl) rfl rfl fun a76 h76 => ?_; clear h75
  refine wms 1 h76 rfl fun a77 h77 => ?_; clear h76
  refine wpList_nil (hK67 _ _ ?_)
  refine wp_ret ?_
  try simp only [Exit.then, Exit.inBlock]
  refine x_ret1 (fn := Try.f16) (t := 2) rfl h77 rfl ?_
  refine ⟨?_, (h77.sh.sel [] (by decide) trivial)⟩
  congr 1
  have hv : vastG (code.l.map (·.l)) words.l = (decide (5000 < n) || decide (100 < code.l.length)) := by unfold vastG; rw [take_hund (l := code.l.map (·.l)) (t := t) (by simp; omega) (by omega) (by simp; omega), List.length_map]; congr 1 <;> (rw [decide_eq_decide]; omega)
  rw [hv]
  first | (rw [show decide (5000 < n) = true by assumption]; rfl) | (rw [show decide (5000 < n) = false by assumption]; rfl)
 have hp71 : ¬ (5000 < n) := of_decide_eq_false hb71
 refine wl_val h70 (r_fieldB (r := 0) fl_25_0 rfl rfl rfl) (wanted_yes h70.fr rfl rfl rfl rfl hb71) rfl rfl fun a78 h78 => ?_; clear h70
 refine wl_val h78 (r_ldb (i := 0) ti_22 rfl rfl rfl rfl) (wanted_yes h78.fr rfl rfl rfl rfl hb71) rfl rfl fun a79 h79 => ?_; clear h78
 refine wl_val h79 (r_len (s := code) (n := code.l.length) sl_22 rfl rfl (fun w h => (h.at 1 rfl)) rfl) (wanted_yes h79.fr rfl rfl rfl rfl hb71) rfl rfl fun a80 h80 => ?_; clear h79
 refine wl_val h80 (r_gtrN (p := code.l.length) (q := 100) rfl rfl rfl) (wanted_yes h80.fr rfl rfl rfl rfl hb71) rfl rfl fun a81 h81 => ?_; clear h80
 refine wv h81 (r_pickF rfl rfl hb71 rfl) rfl rfl fun a82 h82 => ?_; clear h81
 refine wms 1 h82 rfl fun a83 h83 => ?_; clear h82
 refine wpList_nil (hK67 _ _ ?_)
 refine wp_ret ?_
 try simp only [Exit.then, Exit.inBlock]
 refine x_ret1 (fn := Try.f16) (t := 2) rfl h83 rfl ?_
 refine ⟨?_, (h83.sh.sel [] (by decide) trivial)⟩
 congr 1
 have hv : vastG (code.l.map (·.l)) words.l = (decide (5000 < n) || decide (100 < code.l.length)) := by unfold vastG; rw [take_hund (l := code.l.map (·.l)) (t := t) (by simp; omega) (by omega) (by simp; omega), List.length_map]; congr 1 <;> (rw [decide_eq_decide]; omega)
 rw [hv]
 first | (rw [show decide (5000 < n) = true by assumption]; rfl) | (rw [show decide (5000 < n) = false by assumption]; rfl)

end Go.Proofs.Ytfpaahkleienoaa
