/-
  The memory in which stores wait: its methods.
-/
import Derived.Test.YtfpaahkleienoaaB2
import Derived.Test.YtfpaahkleienoaaS28
import Derived.Test.YtfpaahkleienoaaS15
import Derived.Test.YtfpaahkleienoaaX61
import Derived.Test.YtfpaahkleienoaaX3
import Derived.Test.YtfpaahkleienoaaX66
namespace Go.Proofs.Ytfpaahkleienoaa
open Go.RowKit
set_option linter.unusedSimpArgs false
set_option linter.unusedVariables false


theorem eq_wtv (x y : Wt) (w : World) : (binOp .eql 267 (.agg #[.bool x.lock, .int .i64 x.wh, .int .i64 x.what]) (.agg #[.bool y.lock, .int .i64 y.wh, .int .i64 y.what])).run Try.prog w = .ok (.bool (decide (x = y))) w := by
  obtain ⟨a, b, c⟩ := x
  obtain ⟨a', b', c'⟩ := y
  simp [binOp, Op.equal, Op.maxDepth, go_sem]
  by_cases h1 : a = a' <;> by_cases h2 : b = b' <;> by_cases h3 : c = c' <;> simp [h1, h2, h3]
theorem eq_wtvG (p q : Operand) (x y : Wt) (w : World) : (eqGuard .eql 267 p q (.agg #[.bool x.lock, .int .i64 x.wh, .int .i64 x.what]) (.agg #[.bool y.lock, .int .i64 y.wh, .int .i64 y.what])).run Try.prog w = .ok () w := by
  simp [eqGuard]
  try kernel_rfl

theorem Sh.holeAt {K : Nat → Prop} {W w : World} {L : List Asn} {α : Type} [Enc α] {R : Ls α → Asn} {E : TypeId} {v : Value} {M : List (Ls α)} {q : Nat} (h : Sh K W w L) (i : Nat) (hi : L[i]? = some (.big (holeX R E v M q))) : (⟨v, rvs M⟩ : Ls RV).At w :=
  own_at (E := E) ((h.ok _ (List.mem_of_getElem? hi)).1 _ (List.mem_cons_self ..))
theorem hold_yes {l : List Wt} {ad : Int} {n : Nat} (hn : n < l.length) (e : nth l n = ⟨true, ad, 0⟩) : (l.any fun x => x.lock && decide (x.wh = ad)) = true :=
  List.any_eq_true.2 ⟨_, nth_mem _ _ hn, by rw [e]; simp⟩
theorem hold_no {l : List Wt} {ad : Int} (hlk : ∀ x ∈ l, x.lock = true → x.what = 0) (h : ∀ i, i < l.length → nth l i ≠ ⟨true, ad, 0⟩) : (l.any fun x => x.lock && decide (x.wh = ad)) = false := by
  rw [List.any_eq_false]
  intro x hx hc
  obtain ⟨i, hi, rfl⟩ := List.mem_iff_getElem.1 hx
  simp only [Bool.and_eq_true, decide_eq_true_eq] at hc
  have h3 := hlk _ hx hc.1
  refine h i hi ?_
  rw [nth_lt _ _ hi]
  generalize l[i] = y at hc h3
  obtain ⟨a, b, c⟩ := y
  simp only at hc h3
  rw [hc.1, hc.2, h3]
theorem snoc_ne {l : List Wt} {y : Wt} {n : Nat} (h : ∀ i, i < n → nth l i ≠ y) (h2 : ¬ nth l n = y) : ∀ i, i < n + 1 → nth l i ≠ y := fun i hi => by
  rcases Nat.lt_or_eq_of_le (Nat.le_of_lt_succ hi) with h3 | h3
  · exact h i h3
  · subst h3; exact h2
theorem eraseIdx_td {α : Type} (l : List α) (k : Nat) : l.eraseIdx k = l.take k ++ l.drop (k + 1) := List.eraseIdx_eq_take_drop_succ l k

set_option maxRecDepth 10000 in
set_option maxHeartbeats 1000000 in
theorem cloneW_c (x : Ls Wt) (W : World) (hx : x.At W) (hl : x.l.length ≤ 100000) :
    Rets Try.prog 196 [x.v] W (fun v w' => ∃ s : Ls Wt, v = s.v ∧ Sh0 W w' [.own 267 (⟨s.v, x.l⟩ : Ls Wt)]) := by
 refine x_enter (N := 8) Try.func196 rfl Try.ntmps196 (Nat.le_of_ble_eq_true rfl) fun a1 hf1 => ?_
 have h1 : St 8 (fun _ => False) W a1 W [(0, x.v)] [.at_ x] := ⟨hf1.sub ⟨rfl, trivial⟩, Sh0.ext1 hx⟩
 clear hf1
 refine wp_seq_k fun K2 hK2 => wp_region_lit <| wms 1 h1 rfl fun a3 h3 => wpList_nil <| hK2 _ _ <| wp_seq_k fun K4 hK4 => wp_seq_k fun K5 hK5 => wp_region_lit <| wms 1 h3 rfl fun a6 h6 => wv h6 (r_eqnil (s := x) sl_268 rfl rfl rfl (fun w h => (h.at 0 rfl))) rfl rfl fun a7 h7 => wpList_nil <| hK5 _ _ <| x_cond h7 rfl (fun hb8 => ?_) (fun hb8 => ?_); clear h1 h3 h6
 ·skip
  refine wp_seq_k fun K9 hK9 => wp_region_lit <| wms 1 h7 rfl fun a10 h10 => wpList_nil <| hK9 _ _ <| wp_ret ?_; clear h7
  try simp only [Exit.then, Exit.inBlock]
  refine x_ret1 (fn := Try.f196) (t := 2) rfl h10 rfl <| ⟨⟨.slice none 0 0, []⟩, rfl, ?_⟩
  rw [nilB_nil hx (by assumption)]
  exact (h10.sh.nil (α := Wt) 267).sel (L' := [_]) [0] (by decide) ⟨rfl, trivial⟩
 refine wp_skip <| hK4 _ _ <| wp_seq_k fun K11 hK11 => wp_region_lit <| wl_ex (x_lit0 (α := Wt) h7 sl_268 ti_267 rfl rfl rfl) (wanted_none rfl _) ?_
 rintro a12 w12 ⟨v12, h12⟩; clear h7
 refine wms 1 h12 rfl fun a13 h13 => wl_ex (x_app (r := 0) (rm := 1) (s := (⟨v12, []⟩ : Ls Wt)) (m := x) h13 sl_268 ti_267 rfl rfl rfl rfl rfl rfl rfl (fun w h => (h.at 1 rfl)) (fun b hb => .inr hb) (fun q hq b hb => .inr ⟨q, hq, hb⟩) rfl rfl rfl inferInstance (show (([]).length + x.l.length) * 24 ≤ 140737488355328 ∧ ([]).length + x.l.length ≤ 140737488355328 from (by first | omega | (simp only [lens9]; omega))) rfl rfl) (wanted_none rfl _) ?_; clear h12
 rintro a14 w14 ⟨v14, h14⟩; clear h13
 refine wms 1 h14 rfl fun a15 h15 => wpList_nil <| hK11 _ _ <| wp_ret ?_; clear h14
 try simp only [Exit.then, Exit.inBlock]
 refine x_ret1 (fn := Try.f196) (t := 2) rfl h15 rfl <| ⟨⟨v14, []⟩, rfl, ?_⟩
 exact (h15.sh.sel (L' := [.own 267 (⟨v14, x.l⟩ : Ls Wt)]) [0] (by decide) ⟨rfl, trivial⟩)

set_option maxRecDepth 10000 in
set_option maxHeartbeats 1000000 in
theorem deleteW_c (K : Nat → Prop) (x : Ls Wt) (i j : Nat) (W : World) (hS : Sh K W W [.own 267 x]) (hij : i < j ∧ j ≤ x.l.length) :
    Rets Try.prog 195 [x.v, .int .i64 ((i : Nat) : Int), .int .i64 ((j : Nat) : Int)] W (fun v w' => ∃ u : Ls Wt, v = u.v ∧ Sh K W w' [.own 267 (⟨u.v, x.l.take i ++ x.l.drop j⟩ : Ls Wt)]) := by
 have hcx := own_vcap (hS.ok _ (List.mem_cons_self ..))
 have hll : (x.l.take i ++ x.l.drop j).length = x.l.length - (j - i) := by rw [List.length_append, List.length_take, List.length_drop]; omega
 refine x_enter (N := 33) Try.func195 rfl Try.ntmps195 (Nat.le_of_ble_eq_true rfl) fun a1 hf1 => ?_
 have h1 : St 33 K W a1 W [(0, x.v), (1, .int .i64 ((i : Nat) : Int)), (2, .int .i64 ((j : Nat) : Int))] [.own 267 x] := ⟨hf1.sub ⟨rfl, rfl, rfl, trivial⟩, hS⟩
 clear hf1
 refine wp_seq_k fun K2 hK2 => wp_region_lit <| wms 1 h1 rfl fun a3 h3 => wpList_nil <| hK2 _ _ <| wp_seq_k fun K4 hK4 => wp_region_lit <| wms 4 h3 rfl fun a5 h5 => ?_; clear h1 h3
 have hl6 : x.l.length ≤ 140737488355328 := (h5.sh.own 0 rfl).len
 refine wv h5 (r_len (s := x) (n := x.l.length) sl_268 rfl rfl (fun w h => (h.own 0 rfl)) rfl) rfl rfl fun a7 h7 => wv h7 (r_sl3 (s := x) (lo := i) (hi := j) (mx := x.l.length) sl_268 ti_267 rfl rfl rfl rfl rfl (fun w h => (h.own 0 rfl)) (show i ≤ j ∧ j ≤ x.l.length ∧ x.l.length ≤ x.l.length from (by omega))) rfl rfl fun a8 h8 => wpList_nil <| hK4 _ _ <| wp_seq_k fun K9 hK9 => wp_seq_k fun K10 hK10 => wp_region_lit <| wms 2 h8 rfl fun a11 h11 => wv h11 (r_eqlN (p := i) (q := j) rfl rfl rfl) rfl rfl fun a12 h12 => wpList_nil <| hK10 _ _ <| x_cond h12 rfl (fun hb13 => ?_) (fun hb13 => ?_); clear h5 h7 h8 h11
 ·have hp13 : i = j := of_decide_eq_true hb13
  exfalso
  omega
 have hp13 : ¬ (i = j) := of_decide_eq_false hb13
 refine wp_skip <| hK9 _ _ <| wp_seq_k fun K14 hK14 => wp_region_lit <| wms 1 h12 rfl fun a15 h15 => wv h15 (r_len (s := x) (n := x.l.length) sl_268 rfl rfl (fun w h => (h.own 0 rfl)) rfl) rfl rfl fun a16 h16 => wms 1 h16 rfl fun a17 h17 => wpList_nil <| hK14 _ _ <| wp_seq_k fun K18 hK18 => x_tail 6 [] (by kernel_rfl) (by kernel_rfl) h17 fun Z19 hZ19 => ?_; clear h12 h15 h16
 have hq19 := h17.fr
 refine wq_val hq19 (r_move rfl rfl) (wanted_none rfl _) rfl rfl fun a20 hq20 => wq_val hq20 (r_move rfl rfl) (wanted_none rfl _) rfl rfl fun a21 hq21 => wq_val hq21 (r_slH (s := x) (j := i) sl_268 ti_267 rfl rfl rfl (fun w h => (h.own 0 rfl)) (show i ≤ x.l.length from (by omega)) (show 0 < x.l.length from (by omega))) (wanted_none rfl _) rfl rfl fun a22 hq22 => wq_val hq22 (r_move rfl rfl) (wanted_none rfl _) rfl rfl fun a23 hq23 => wq_val hq23 (r_move rfl rfl) (wanted_none rfl _) rfl rfl fun a24 hq24 => wq_val hq24 (r_slL (s := x) (k := j) sl_268 ti_267 rfl rfl rfl (fun w h => (h.own 0 rfl)) (show j ≤ x.l.length from (by omega))) (wanted_none rfl _) rfl rfl fun a25 hq25 => wpQuiet_nil (hZ19 _ fun w26 hw26 => ?_); clear hq19 hq20 hq21 hq22 hq23 hq24
 have h26 : St 33 K W a25 w26 _ _ := ⟨hq25, hw26⟩
 clear hq25 hw26 h17
 refine wl_ex (x_del2 (r := 0) (j := i) (k := j) (s := x) h26 sl_268 ti_267 rfl rfl rfl rfl rfl rfl inferInstance (show i ≤ j ∧ j ≤ x.l.length ∧ 0 < x.l.length from (by omega)) rfl rfl) (wanted_none rfl _) ?_
 rintro a27 w27 ⟨v27, hc27, h27⟩; clear h26
 refine wms 1 h27 rfl fun a28 h28 => wpList_nil <| hK18 _ _ <| wp_seq_k fun K29 hK29 => wp_region_lit <| wms 2 h28 rfl fun a30 h30 => wv h30 (r_len (s := (⟨v27, x.l.take i ++ x.l.drop j⟩ : Ls Wt)) (n := (x.l.take i ++ x.l.drop j).length) sl_268 rfl rfl (fun w h => (h.own 0 rfl)) rfl) rfl rfl fun a31 h31 => wms 1 h31 rfl fun a32 h32 => wv h32 (r_slTail (s := (⟨v27, x.l.take i ++ x.l.drop j⟩ : Ls Wt)) (lo := (x.l.take i ++ x.l.drop j).length) (hi := x.l.length) sl_268 ti_267 rfl rfl rfl rfl (fun w h => (h.own 0 rfl)) (show (x.l.take i ++ x.l.drop j).length ≤ x.l.length ∧ x.l.length ≤ vcap v27 from (by first | omega | (simp only [lens9]; omega)))) rfl rfl fun a33 h33 => wl_ex (x_clearT (r := 0) (hi := x.l.length) (s := (⟨v27, x.l.take i ++ x.l.drop j⟩ : Ls Wt)) h33 sl_268 ti_267 rfl rfl rfl rfl rfl rfl (show (x.l.take i ++ x.l.drop j).length < x.l.length ∧ x.l.length ≤ vcap v27 from (by first | omega | (simp only [lens9]; omega))) rfl) (wanted_none rfl _) ?_; clear h27 h28 h30 h31 h32
 rintro a34 w34 h34
 clear h33
 refine wpList_nil <| hK29 _ _ ?_
 have h35 : St 33 K W a34 w34 [(0, v27)] [.own 267 (⟨v27, x.l.take i ++ x.l.drop j⟩ : Ls Wt)] := h34.nrm ⟨rfl, trivial⟩ [0] (by decide) ⟨rfl, trivial⟩
 clear h34
 refine wp_seq_k fun K36 hK36 => wp_region_lit <| wms 2 h35 rfl fun a37 h37 => wpList_nil <| hK36 _ _ <| wp_ret ?_; clear h35
 try simp only [Exit.then, Exit.inBlock]
 refine x_ret1 (fn := Try.f195) (t := 6) rfl h37 rfl ?_
 exact ⟨⟨v27, []⟩, rfl, (h37.sh.sel (L' := [.own 267 (⟨v27, x.l.take i ++ x.l.drop j⟩ : Ls Wt)]) [0] (by decide) ⟨rfl, trivial⟩)⟩

set_option maxRecDepth 100000 in
set_option maxHeartbeats 1000000 in
theorem tbWaits_c (g1 g0 : Nat) (wait : Ls (Ls Wt)) (t : Nat) (ad : Int) (W : World) (hB : Blk W g1 214 #[.pointer (some ⟨g0, 0, none⟩), wait.v]) (hw : wait.At W) (ht : t < wait.l.length) :
    Rets Try.prog 194 [.pointer (some ⟨g1, 0, none⟩), .int .i64 ((t : Nat) : Int)] W (fun v w' => v = .int .i64 (((nth wait.l t).l.length : Nat) : Int) ∧ Sh0 W w' []) := by
 refine x_enter (N := 13) Try.func194 rfl Try.ntmps194 (Nat.le_of_ble_eq_true rfl) fun a1 hf1 => ?_
 have h1 : St 13 (fun _ => False) W a1 W [(0, .pointer (some ⟨g1, 0, none⟩)), (1, .int .i64 ((t : Nat) : Int))] [.rblk g1 214 [.pointer (some ⟨g0, 0, none⟩), wait.v], .at_ wait] := ⟨hf1.sub ⟨rfl, rfl, trivial⟩, Sh0.ext (by intro A hA; simp only [List.mem_cons, List.not_mem_nil, or_false] at hA; rcases hA with rfl | rfl; exact hB; exact hw) (by intro A hA b hb; simp only [List.mem_cons, List.not_mem_nil, or_false] at hA; rcases hA with rfl | rfl <;> exact hb)⟩
 clear hf1
 refine wp_seq_k fun K2 hK2 => wp_region_lit <| wms 1 h1 rfl fun a3 h3 => wpList_nil <| hK2 _ _ <| wp_seq_k fun K4 hK4 => wp_region_lit <| wms 1 h3 rfl fun a5 h5 => wv h5 (r_nil rfl rfl) rfl rfl fun a6 h6 => wv h6 (r_fieldB (r := 1) fl_214_1 rfl rfl rfl) rfl rfl fun a7 h7 => wv h7 (r_ldbR ti_212 rfl rfl (fun w h => h.rblk 0 rfl) rfl) rfl rfl fun a8 h8 => wms 1 h8 rfl fun a9 h9 => ?_; clear h1 h3 h5 h6 h7 h8
 have hl10 : wait.l.length ≤ 140737488355328 := (h9.sh.at 1 rfl).len
 refine wv h9 (r_ixN (s := wait) (q := t) sl_212 ti_268 rfl rfl rfl (fun w h => (h.at 1 rfl)) (show t < wait.l.length from (by omega))) rfl rfl fun a11 h11 => wv h11 (r_lde (s := wait) (i := t) (v := (nth wait.l t).v) ti_268 rfl rfl rfl (fun w h => (h.at 1 rfl)) (show t < wait.l.length from (by omega)) (Nat.le_of_ble_eq_true rfl) rfl) rfl rfl fun a12 h12 => ?_; clear h9 h11
 have hl13 : ((nth wait.l t).l).length ≤ 140737488355328 := ((h12.sh.at 1 rfl).nth t (show t < wait.l.length from (by omega))).len
 refine wv h12 (r_len (s := nth wait.l t) (n := ((nth wait.l t).l).length) sl_268 rfl rfl (fun w h => ((h.at 1 rfl).nth t (show t < wait.l.length from (by omega)))) rfl) rfl rfl fun a14 h14 => wms 1 h14 rfl fun a15 h15 => wpList_nil <| hK4 _ _ <| wp_ret ?_; clear h12 h14
 try simp only [Exit.then, Exit.inBlock]
 refine x_ret1 (fn := Try.f194) (t := 4) rfl h15 rfl ?_
 exact ⟨rfl, (h15.sh.sel [] (by decide) trivial)⟩

set_option maxRecDepth 100000 in
set_option maxHeartbeats 1000000 in
theorem tbReady_c (g1 g0 : Nat) (wait : Ls (Ls Wt)) (t : Nat) (ad : Int) (W : World) (hB : Blk W g1 214 #[.pointer (some ⟨g0, 0, none⟩), wait.v]) (hw : wait.At W) (ht : t < wait.l.length) :
    Rets Try.prog 192 [.pointer (some ⟨g1, 0, none⟩), .int .i64 ((t : Nat) : Int)] W (fun v w' => ∃ s : Ls Int, v = s.v ∧ s.l = (if (nth wait.l t).l.length = 0 then [] else [0]) ∧ Sh0 W w' [.own 3 s]) := by
 refine x_enter (N := 15) Try.func192 rfl Try.ntmps192 (Nat.le_of_ble_eq_true rfl) fun a1 hf1 => ?_
 have h1 : St 15 (fun _ => False) W a1 W [(0, .pointer (some ⟨g1, 0, none⟩)), (1, .int .i64 ((t : Nat) : Int))] [.rblk g1 214 [.pointer (some ⟨g0, 0, none⟩), wait.v], .at_ wait] := ⟨hf1.sub ⟨rfl, rfl, trivial⟩, Sh0.ext (by intro A hA; simp only [List.mem_cons, List.not_mem_nil, or_false] at hA; rcases hA with rfl | rfl; exact hB; exact hw) (by intro A hA b hb; simp only [List.mem_cons, List.not_mem_nil, or_false] at hA; rcases hA with rfl | rfl <;> exact hb)⟩
 clear hf1
 refine wp_seq_k fun K2 hK2 => wp_region_lit <| wms 1 h1 rfl fun a3 h3 => wpList_nil <| hK2 _ _ <| wp_seq_k fun K4 hK4 => wp_seq_k fun K5 hK5 => wp_region_lit <| wms 1 h3 rfl fun a6 h6 => wv h6 (r_nil rfl rfl) rfl rfl fun a7 h7 => wv h7 (r_fieldB (r := 1) fl_214_1 rfl rfl rfl) rfl rfl fun a8 h8 => wv h8 (r_ldbR ti_212 rfl rfl (fun w h => h.rblk 0 rfl) rfl) rfl rfl fun a9 h9 => wms 1 h9 rfl fun a10 h10 => ?_; clear h1 h3 h6 h7 h8 h9
 have hl11 : wait.l.length ≤ 140737488355328 := (h10.sh.at 1 rfl).len
 refine wv h10 (r_ixN (s := wait) (q := t) sl_212 ti_268 rfl rfl rfl (fun w h => (h.at 1 rfl)) (show t < wait.l.length from (by omega))) rfl rfl fun a12 h12 => wv h12 (r_lde (s := wait) (i := t) (v := (nth wait.l t).v) ti_268 rfl rfl rfl (fun w h => (h.at 1 rfl)) (show t < wait.l.length from (by omega)) (Nat.le_of_ble_eq_true rfl) rfl) rfl rfl fun a13 h13 => ?_; clear h10 h12
 have hl14 : ((nth wait.l t).l).length ≤ 140737488355328 := ((h13.sh.at 1 rfl).nth t (show t < wait.l.length from (by omega))).len
 refine wv h13 (r_len (s := nth wait.l t) (n := ((nth wait.l t).l).length) sl_268 rfl rfl (fun w h => ((h.at 1 rfl).nth t (show t < wait.l.length from (by omega)))) rfl) rfl rfl fun a15 h15 => wv h15 (r_eqlN (p := ((nth wait.l t).l).length) (q := 0) rfl rfl rfl) rfl rfl fun a16 h16 => wpList_nil <| hK5 _ _ <| x_cond h16 rfl (fun hb17 => ?_) (fun hb17 => ?_); clear h13 h15
 ·have hp17 : ((nth wait.l t).l).length = 0 := of_decide_eq_true hb17
  refine wp_seq_k fun K18 hK18 => wp_region_lit <| wms 1 h16 rfl fun a19 h19 => wpList_nil <| hK18 _ _ <| wp_ret ?_; clear h16
  try simp only [Exit.then, Exit.inBlock]
  refine x_ret1 (fn := Try.f192) (t := 4) rfl h19 rfl ?_
  exact ⟨⟨.slice none 0 0, []⟩, rfl, by rw [if_pos (by assumption)], (h19.sh.nil (α := Int) 3).sel (L' := [_]) [0] (by decide) ⟨rfl, trivial⟩⟩
 have hp17 : ¬ (((nth wait.l t).l).length = 0) := of_decide_eq_false hb17
 refine wp_skip <| hK4 _ _ <| wp_seq_k fun K20 hK20 => wp_region_lit <| wl_ex (x_lit (n := 1) (cs := [.int .i64 0]) ([0] : List Int) h16 sl_23 ti_3 rfl rfl rfl (by decide) rfl (by kernel_rfl) rfl (fun q hq w h => Flat.inner _ _) (fun q hq b hb => (Flat.on _ _ hb).elim) rfl rfl) (wanted_none rfl _) ?_
 rintro a21 w21 ⟨v21, h21⟩; clear h16
 refine wms 1 h21 rfl fun a22 h22 => wpList_nil <| hK20 _ _ <| wp_ret ?_; clear h21
 try simp only [Exit.then, Exit.inBlock]
 refine x_ret1 (fn := Try.f192) (t := 4) rfl h22 rfl ?_
 exact ⟨⟨v21, [0]⟩, rfl, by rw [if_neg (by assumption)], (h22.sh.sel (L' := [.own 3 (⟨v21, [0]⟩ : Ls Int)]) [0] (by decide) ⟨rfl, trivial⟩)⟩

set_option maxRecDepth 100000 in
set_option maxHeartbeats 1000000 in
theorem tbFreeing_c (g1 g0 : Nat) (wait : Ls (Ls Wt)) (t : Nat) (ad : Int) (W : World) (hB : Blk W g1 214 #[.pointer (some ⟨g0, 0, none⟩), wait.v]) (hw : wait.At W) (ht : t < wait.l.length) (hlk : ∀ x ∈ (nth wait.l t).l, x.lock = true → x.what = 0) :
    Rets Try.prog 190 [.pointer (some ⟨g1, 0, none⟩), .int .i64 ((t : Nat) : Int), .int .i64 ad] W (fun v w' => v = .bool ((nth wait.l t).l.any fun x => x.lock && decide (x.wh = ad)) ∧ Sh0 W w' []) := by
 refine x_enter (N := 26) Try.func190 rfl Try.ntmps190 (Nat.le_of_ble_eq_true rfl) fun a1 hf1 => ?_
 have h1 : St 26 (fun _ => False) W a1 W [(0, .pointer (some ⟨g1, 0, none⟩)), (1, .int .i64 ((t : Nat) : Int)), (2, .int .i64 ad)] [.rblk g1 214 [.pointer (some ⟨g0, 0, none⟩), wait.v], .at_ wait] := ⟨hf1.sub ⟨rfl, rfl, rfl, trivial⟩, Sh0.ext (by intro A hA; simp only [List.mem_cons, List.not_mem_nil, or_false] at hA; rcases hA with rfl | rfl; exact hB; exact hw) (by intro A hA b hb; simp only [List.mem_cons, List.not_mem_nil, or_false] at hA; rcases hA with rfl | rfl <;> exact hb)⟩
 clear hf1
 refine wp_seq_k fun K2 hK2 => wp_region_lit <| wms 1 h1 rfl fun a3 h3 => wpList_nil <| hK2 _ _ <| wp_seq_k fun K4 hK4 => wp_seq_k fun K5 hK5 => wp_region_lit <| wms 1 h3 rfl fun a6 h6 => wv h6 (r_nil rfl rfl) rfl rfl fun a7 h7 => wv h7 (r_fieldB (r := 1) fl_214_1 rfl rfl rfl) rfl rfl fun a8 h8 => wv h8 (r_ldbR ti_212 rfl rfl (fun w h => h.rblk 0 rfl) rfl) rfl rfl fun a9 h9 => wms 1 h9 rfl fun a10 h10 => ?_; clear h1 h3 h6 h7 h8 h9
 have hl11 : wait.l.length ≤ 140737488355328 := (h10.sh.at 1 rfl).len
 refine wv h10 (r_ixN (s := wait) (q := t) sl_212 ti_268 rfl rfl rfl (fun w h => (h.at 1 rfl)) (show t < wait.l.length from (by omega))) rfl rfl fun a12 h12 => wv h12 (r_lde (s := wait) (i := t) (v := (nth wait.l t).v) ti_268 rfl rfl rfl (fun w h => (h.at 1 rfl)) (show t < wait.l.length from (by omega)) (Nat.le_of_ble_eq_true rfl) rfl) rfl rfl fun a13 h13 => ?_; clear h10 h12
 have hl14 : ((nth wait.l t).l).length ≤ 140737488355328 := ((h13.sh.at 1 rfl).nth t (show t < wait.l.length from (by omega))).len
 refine wv h13 (r_len (s := nth wait.l t) (n := ((nth wait.l t).l).length) sl_268 rfl rfl (fun w h => ((h.at 1 rfl).nth t (show t < wait.l.length from (by omega)))) rfl) rfl rfl fun a15 h15 => wms 1 h15 rfl fun a16 h16 => wpList_nil <| hK5 _ _ <| wp_block <| x_loop (fun m a w => ∃ (n : Nat), (n ≤ (nth wait.l t).l.length) ∧ (∀ i, i < n → nth (nth wait.l t).l i ≠ ⟨true, ad, 0⟩) ∧ St 26 (fun _ => False) W a w [(2, .int .i64 ad), (15, (nth wait.l t).v), (16, .int .i64 ((((nth wait.l t).l).length : Nat) : Int)), (17, .int .i64 ((n : Nat) : Int))] [.rblk g1 214 [.pointer (some ⟨g0, 0, none⟩), wait.v], .at_ wait] ∧ m = (nth wait.l t).l.length - n) ⟨_, 0, (by omega), (fun i hi => absurd hi (by omega)), h16.nrm ⟨rfl, rfl, rfl, rfl, trivial⟩ [0, 1] (by decide) ⟨rfl, rfl, trivial⟩, rfl⟩ ?_; clear h13 h15
 clear h16
 rintro m17 a17 w17 ⟨n, hn, hno, h17, hm17⟩
 refine wp_seq_k fun K18 hK18 => wp_region_lit <| wv h17 (r_lssN (p := n) (q := ((nth wait.l t).l).length) rfl rfl rfl) rfl rfl fun a19 h19 => wpList_nil <| hK18 _ _ <| wp_seq_k fun K20 hK20 => x_cond h19 rfl (fun hb21 => ?_) (fun hb21 => ?_); clear h17
 ·have hp21 : n < ((nth wait.l t).l).length := of_decide_eq_true hb21
  refine wp_skip <| hK20 _ _ <| wp_seq_k fun K22 hK22 => wp_block <| wp_seq_k fun K23 hK23 => wp_region_lit <| wv h19 (r_ixN (s := nth wait.l t) (q := n) sl_268 ti_267 rfl rfl rfl (fun w h => ((h.at 1 rfl).nth t (show t < wait.l.length from (by omega)))) (show n < ((nth wait.l t).l).length from (by omega))) rfl rfl fun a24 h24 => wv h24 (r_ldew (s := nth wait.l t) (i := n) (vs := [.bool ((nth ((nth wait.l t).l) n).lock), .int .i64 ((nth ((nth wait.l t).l) n).wh), .int .i64 ((nth ((nth wait.l t).l) n).what)]) ti_267 rfl rfl rfl (fun w h => ((h.at 1 rfl).nth t (show t < wait.l.length from (by omega)))) (show n < ((nth wait.l t).l).length from (by omega)) (Nat.le_of_ble_eq_true rfl) rfl) rfl rfl fun a25 h25 => wl_ex (x_alloc h25 ti_267 rfl rfl rfl) (wanted_none rfl _) ?_; clear h19 h24
  rintro a26 w26 ⟨b26, h26⟩; clear h25
  refine wl_ex (x_stb (i := 0) (vs := [.bool ((nth ((nth wait.l t).l) n).lock), .int .i64 ((nth ((nth wait.l t).l) n).wh), .int .i64 ((nth ((nth wait.l t).l) n).what)]) (cs' := [.bool ((nth ((nth wait.l t).l) n).lock), .int .i64 ((nth ((nth wait.l t).l) n).wh), .int .i64 ((nth ((nth wait.l t).l) n).what)]) h26 ti_267 rfl rfl rfl rfl rfl rfl rfl (allOne_cons rfl (allOne_cons rfl (allOne_cons rfl allOne_nil))) (Nat.le_of_ble_eq_true rfl) rfl) (wanted_none rfl _) ?_
  rintro a27 w27 h27
  clear h26
  refine wpList_nil <| hK23 _ _ <| wp_seq_k fun K28 hK28 => wp_region_lit <| wv h27 (r_ldbw (i := 0) (vs := [.bool ((nth ((nth wait.l t).l) n).lock), .int .i64 ((nth ((nth wait.l t).l) n).wh), .int .i64 ((nth ((nth wait.l t).l) n).what)]) ti_267 rfl rfl rfl rfl rfl) rfl rfl fun a29 h29 => wms 1 h29 rfl fun a30 h30 => wv h30 (r_build (cs := [.bool true, .int .i64 ad, .int .i64 0]) rfl rfl (by kernel_rfl)) rfl rfl fun a31 h31 => wv h31 (r_eqS rfl rfl rfl (fun w => eq_wtvG _ _ (⟨(nth ((nth wait.l t).l) n).lock, (nth ((nth wait.l t).l) n).wh, (nth ((nth wait.l t).l) n).what⟩ : Wt) (⟨true, ad, 0⟩ : Wt) w) (fun w => eq_wtv (⟨(nth ((nth wait.l t).l) n).lock, (nth ((nth wait.l t).l) n).wh, (nth ((nth wait.l t).l) n).what⟩ : Wt) (⟨true, ad, 0⟩ : Wt) w)) rfl rfl fun a32 h32 => wpList_nil <| hK28 _ _ <| x_cond h32 rfl (fun hb33 => ?_) (fun hb33 => ?_); clear h27 h29 h30 h31
  ·have hp33 : (⟨(nth ((nth wait.l t).l) n).lock, (nth ((nth wait.l t).l) n).wh, (nth ((nth wait.l t).l) n).what⟩ : Wt) = (⟨true, ad, 0⟩ : Wt) := of_decide_eq_true hb33
   refine wp_seq_k fun K34 hK34 => wp_region_lit <| wms 1 h32 rfl fun a35 h35 => wpList_nil <| hK34 _ _ <| wp_ret ?_; clear h32
   try simp only [Exit.then, Exit.inBlock]
   refine x_ret1 (fn := Try.f190) (t := 6) rfl h35 rfl ?_
   exact ⟨by rw [hold_yes (show n < (nth wait.l t).l.length by omega) (by assumption)], (h35.sh.sel [] (by decide) trivial)⟩
  have hp33 : ¬ ((⟨(nth ((nth wait.l t).l) n).lock, (nth ((nth wait.l t).l) n).wh, (nth ((nth wait.l t).l) n).what⟩ : Wt) = (⟨true, ad, 0⟩ : Wt)) := of_decide_eq_false hb33
  refine wp_skip <| hK22 _ _ <| wp_region_lit <| wv h32 (r_addN (p := n) (q := 1) rfl rfl rfl (show n + 1 < 9223372036854775808 from (by omega))) rfl rfl fun a36 h36 => wms 1 h36 rfl fun a37 h37 => wpList_nil <| x_again ⟨_, ?_, n + 1, ?_, ?_, h37.nrm ⟨rfl, rfl, rfl, rfl, trivial⟩ [1, 2] (by decide) ⟨rfl, rfl, trivial⟩, rfl⟩; clear h32 h36
  · rw [hm17]; first | omega | (simp only [lens9]; omega)
  · omega
  · exact snoc_ne hno (by assumption)
 have hp21 : ¬ (n < ((nth wait.l t).l).length) := of_decide_eq_false hb21
 refine wp_exit <| hK4 _ _ <| wp_seq_k fun K38 hK38 => wp_region_lit <| wms 1 h19 rfl fun a39 h39 => wpList_nil <| hK38 _ _ <| wp_ret ?_; clear h19
 try simp only [Exit.then, Exit.inBlock]
 refine x_ret1 (fn := Try.f190) (t := 6) rfl h39 rfl ?_
 exact ⟨by rw [hold_no hlk fun i hi => hno i (by omega)], (h39.sh.sel [] (by decide) trivial)⟩

set_option maxRecDepth 100000 in
set_option maxHeartbeats 1000000 in
theorem tbStore_c (K : Nat → Prop) (g1 g0 : Nat) (v9 : Value) (M : List (Ls Wt)) (t : Nat) (ad wd : Int) (W : World) (hS : Sh K W W [.blk g1 214 [.pointer (some ⟨g0, 0, none⟩), v9], .big (matX (.own 267) 268 v9 M)]) (ht : t < M.length) (hl : (nth M t).l.length ≤ 100) :
    Rets Try.prog 193 [.pointer (some ⟨g1, 0, none⟩), .int .i64 ((t : Nat) : Int), .int .i64 ad, .int .i64 wd] W (fun v w' => v = .tuple #[] ∧ ∃ u : Ls Wt, u.l = (nth M t).l ++ [⟨false, ad, wd⟩] ∧ Sh K W w' [.blk g1 214 [.pointer (some ⟨g0, 0, none⟩), v9], .big (matX (.own 267) 268 v9 (M.set t u))]) := by
 refine x_enter (N := 26) Try.func193 rfl Try.ntmps193 (Nat.le_of_ble_eq_true rfl) fun a1 hf1 => ?_
 have h1 : St 26 K W a1 W [(0, .pointer (some ⟨g1, 0, none⟩)), (1, .int .i64 ((t : Nat) : Int)), (2, .int .i64 ad), (3, .int .i64 wd)] [.blk g1 214 [.pointer (some ⟨g0, 0, none⟩), v9], .big (matX (.own 267) 268 v9 M)] := ⟨hf1.sub ⟨rfl, rfl, rfl, rfl, trivial⟩, hS⟩
 clear hf1
 have h2 : St 26 K W a1 W [(0, .pointer (some ⟨g1, 0, none⟩)), (1, .int .i64 ((t : Nat) : Int)), (2, .int .i64 ad), (3, .int .i64 wd)] [.blk g1 214 [.pointer (some ⟨g0, 0, none⟩), v9], .big (matX (.own 267) 268 v9 M)] := h1.nrm ⟨rfl, rfl, rfl, rfl, trivial⟩ [0, 1] (by decide) ⟨rfl, rfl, trivial⟩
 clear h1
 refine x_any ((fun Φ Ψ S a w => (S 15 = false ∧ S 16 = false ∧ S 18 = false ∧ FrI 26 S Φ Ψ a ∧ Sh K W w [.blk g1 214 [.pointer (some ⟨g0, 0, none⟩), v9], .big (matX (.own 267) 268 v9 M)]) ∨ (S 15 = true ∧ S 16 = false ∧ S 18 = false ∧ ∃ (v7015 : Value), FrI 26 S Φ (Ψ ++ [(15, 23, v7015)]) a ∧ Sh K W w [.own 267 (⟨v7015, [(⟨false, ad, wd⟩ : Wt)]⟩ : Ls Wt), .blk g1 214 [.pointer (some ⟨g0, 0, none⟩), v9], .big (matX (.own 267) 268 v9 M)]) ∨ (S 15 = true ∧ S 16 = true ∧ S 18 = false ∧ ∃ (v7015 : Value) (v7016 : Value), FrI 26 S Φ (Ψ ++ [(15, 23, v7015), (16, 24, v7016), (17, 25, .pointer (some (padr v9 1 t 0)))]) a ∧ Sh K W w [.own 267 (⟨v7016, (nth M t).l ++ ([(⟨false, ad, wd⟩ : Wt)])⟩ : Ls Wt), .own 267 (⟨v7015, [(⟨false, ad, wd⟩ : Wt)]⟩ : Ls Wt), .blk g1 214 [.pointer (some ⟨g0, 0, none⟩), v9], .big (holeX (.own 267) 268 v9 M t)]) ∨ (S 15 = true ∧ S 16 = true ∧ S 18 = true ∧ ∃ (v7015 : Value) (v7016 : Value), FrI 26 S Φ (Ψ ++ [(15, 23, v7015), (16, 24, v7016), (17, 25, .pointer (some (padr v9 1 t 0)))]) a ∧ Sh K W w [.own 267 (⟨v7015, [(⟨false, ad, wd⟩ : Wt)]⟩ : Ls Wt), .blk g1 214 [.pointer (some ⟨g0, 0, none⟩), v9], .big (matX (.own 267) 268 v9 (M.set t (⟨v7016, (nth M t).l ++ ([(⟨false, ad, wd⟩ : Wt)])⟩ : Ls Wt)))])) [(0, .pointer (some ⟨g1, 0, none⟩)), (1, .int .i64 ((t : Nat) : Int)), (2, .int .i64 ad), (3, .int .i64 wd)] [(0, 8, .pointer (some ⟨g1, 0, none⟩)), (1, 9, .pointer (some ⟨g1, 0, none⟩)), (2, 10, .pointer (some ⟨g1, 1, none⟩)), (3, 11, v9), (4, 12, .int .i64 ((t : Nat) : Int)), (5, 13, .pointer (some ⟨g1, 0, none⟩)), (6, 14, .pointer (some ⟨g1, 0, none⟩)), (7, 15, .pointer (some ⟨g1, 1, none⟩)), (8, 16, v9), (9, 17, .int .i64 ((t : Nat) : Int)), (10, 18, .pointer (some (padr v9 1 t 0))), (11, 19, (nth M t).v), (12, 20, .int .i64 ad), (13, 21, .int .i64 wd), (14, 22, .agg #[.bool false, .int .i64 ad, .int .i64 wd])]) (by kernel_rfl) (by kernel_rfl) (Or.inl (⟨rfl, rfl, rfl, FrI.start h2.fr, h2.sh.drew⟩)) ?_ ?_
 ·intro S i o ho hSi hcl hdep a w hI
  clear h2
  rcases i with _ | _ | _ | _ | _ | _ | _ | _ | _ | _ | _ | _ | _ | _ | _ | _ | _ | _ | _ | i
  ·obtain rfl : _ = o := Option.some.inj ho
   rcases hI with ⟨ν15, ν16, ν18, φ, ς⟩ | ⟨ν15, ν16, ν18, v7015, φ, ς⟩ | ⟨ν15, ν16, ν18, v7015, v7016, φ, ς⟩ | ⟨_, _, ν18, _⟩
   ·exact sq φ φ.fr0 ς (r_move rfl rfl) 0 rfl rfl rfl rfl rfl rfl fun a hg => Or.inl (⟨un rfl ν15, un rfl ν16, un rfl ν18, hg, ς⟩)
   ·exact sq φ φ.fr0 ς (r_move rfl rfl) 0 rfl rfl rfl rfl rfl rfl fun a hg => Or.inr (Or.inl (⟨un rfl ν15, un rfl ν16, un rfl ν18, v7015, hg, ς⟩))
   ·exact sq φ φ.fr0 ς (r_move rfl rfl) 0 rfl rfl rfl rfl rfl rfl fun a hg => Or.inr (Or.inr (Or.inl (⟨un rfl ν15, un rfl ν16, un rfl ν18, v7015, v7016, hg, ς⟩)))
   ·exact no_way (cA hcl 18 0 rfl ν18) hSi
  ·obtain rfl : _ = o := Option.some.inj ho
   have hd0 : S 0 = true := depAt hdep 0 rfl rfl
   rcases hI with ⟨ν15, ν16, ν18, φ, ς⟩ | ⟨ν15, ν16, ν18, v7015, φ, ς⟩ | ⟨ν15, ν16, ν18, v7015, v7016, φ, ς⟩ | ⟨_, _, ν18, _⟩
   ·exact sq φ (Fr.cons φ.fr0 (φ.at_ 0 0 8 _ rfl hd0)) ς (r_nil rfl rfl) 1 rfl rfl rfl rfl rfl rfl fun a hg => Or.inl (⟨un rfl ν15, un rfl ν16, un rfl ν18, hg, ς⟩)
   ·exact sq φ (Fr.cons φ.fr0 (φ.at_ 0 0 8 _ rfl hd0)) ς (r_nil rfl rfl) 1 rfl rfl rfl rfl rfl rfl fun a hg => Or.inr (Or.inl (⟨un rfl ν15, un rfl ν16, un rfl ν18, v7015, hg, ς⟩))
   ·exact sq φ (Fr.cons φ.fr0 (φ.at_ 0 0 8 _ rfl hd0)) ς (r_nil rfl rfl) 1 rfl rfl rfl rfl rfl rfl fun a hg => Or.inr (Or.inr (Or.inl (⟨un rfl ν15, un rfl ν16, un rfl ν18, v7015, v7016, hg, ς⟩)))
   ·exact no_way (cA hcl 18 1 rfl ν18) hSi
  ·obtain rfl : _ = o := Option.some.inj ho
   have hd1 : S 1 = true := depAt hdep 0 rfl rfl
   rcases hI with ⟨ν15, ν16, ν18, φ, ς⟩ | ⟨ν15, ν16, ν18, v7015, φ, ς⟩ | ⟨ν15, ν16, ν18, v7015, v7016, φ, ς⟩ | ⟨_, _, ν18, _⟩
   ·exact sq φ (Fr.cons φ.fr0 (φ.at_ 1 1 9 _ rfl hd1)) ς (r_fieldB (r := 1) fl_214_1 rfl rfl rfl) 2 rfl rfl rfl rfl rfl rfl fun a hg => Or.inl (⟨un rfl ν15, un rfl ν16, un rfl ν18, hg, ς⟩)
   ·exact sq φ (Fr.cons φ.fr0 (φ.at_ 1 1 9 _ rfl hd1)) ς (r_fieldB (r := 1) fl_214_1 rfl rfl rfl) 2 rfl rfl rfl rfl rfl rfl fun a hg => Or.inr (Or.inl (⟨un rfl ν15, un rfl ν16, un rfl ν18, v7015, hg, ς⟩))
   ·exact sq φ (Fr.cons φ.fr0 (φ.at_ 1 1 9 _ rfl hd1)) ς (r_fieldB (r := 1) fl_214_1 rfl rfl rfl) 2 rfl rfl rfl rfl rfl rfl fun a hg => Or.inr (Or.inr (Or.inl (⟨un rfl ν15, un rfl ν16, un rfl ν18, v7015, v7016, hg, ς⟩)))
   ·exact no_way (cA hcl 18 2 rfl ν18) hSi
  ·obtain rfl : _ = o := Option.some.inj ho
   have hd2 : S 2 = true := depAt hdep 0 rfl rfl
   rcases hI with ⟨ν15, ν16, ν18, φ, ς⟩ | ⟨ν15, ν16, ν18, v7015, φ, ς⟩ | ⟨ν15, ν16, ν18, v7015, v7016, φ, ς⟩ | ⟨_, _, ν18, _⟩
   ·exact sq φ (Fr.cons φ.fr0 (φ.at_ 2 2 10 _ rfl hd2)) ς (r_ldb (i := 0) ti_212 rfl rfl rfl rfl) 3 rfl rfl rfl rfl rfl rfl fun a hg => Or.inl (⟨un rfl ν15, un rfl ν16, un rfl ν18, hg, ς⟩)
   ·exact sq φ (Fr.cons φ.fr0 (φ.at_ 2 2 10 _ rfl hd2)) ς (r_ldb (i := 1) ti_212 rfl rfl rfl rfl) 3 rfl rfl rfl rfl rfl rfl fun a hg => Or.inr (Or.inl (⟨un rfl ν15, un rfl ν16, un rfl ν18, v7015, hg, ς⟩))
   ·exact sq φ (Fr.cons φ.fr0 (φ.at_ 2 2 10 _ rfl hd2)) ς (r_ldb (i := 2) ti_212 rfl rfl rfl rfl) 3 rfl rfl rfl rfl rfl rfl fun a hg => Or.inr (Or.inr (Or.inl (⟨un rfl ν15, un rfl ν16, un rfl ν18, v7015, v7016, hg, ς⟩)))
   ·exact no_way (cA hcl 18 3 rfl ν18) hSi
  ·obtain rfl : _ = o := Option.some.inj ho
   rcases hI with ⟨ν15, ν16, ν18, φ, ς⟩ | ⟨ν15, ν16, ν18, v7015, φ, ς⟩ | ⟨ν15, ν16, ν18, v7015, v7016, φ, ς⟩ | ⟨_, _, ν18, _⟩
   ·exact sq φ φ.fr0 ς (r_move rfl rfl) 4 rfl rfl rfl rfl rfl rfl fun a hg => Or.inl (⟨un rfl ν15, un rfl ν16, un rfl ν18, hg, ς⟩)
   ·exact sq φ φ.fr0 ς (r_move rfl rfl) 4 rfl rfl rfl rfl rfl rfl fun a hg => Or.inr (Or.inl (⟨un rfl ν15, un rfl ν16, un rfl ν18, v7015, hg, ς⟩))
   ·exact sq φ φ.fr0 ς (r_move rfl rfl) 4 rfl rfl rfl rfl rfl rfl fun a hg => Or.inr (Or.inr (Or.inl (⟨un rfl ν15, un rfl ν16, un rfl ν18, v7015, v7016, hg, ς⟩)))
   ·exact no_way (cA hcl 18 4 rfl ν18) hSi
  ·obtain rfl : _ = o := Option.some.inj ho
   rcases hI with ⟨ν15, ν16, ν18, φ, ς⟩ | ⟨ν15, ν16, ν18, v7015, φ, ς⟩ | ⟨_, ν16, _⟩ | ⟨_, ν16, _⟩
   ·exact sq φ φ.fr0 ς (r_move rfl rfl) 5 rfl rfl rfl rfl rfl rfl fun a hg => Or.inl (⟨un rfl ν15, un rfl ν16, un rfl ν18, hg, ς⟩)
   ·exact sq φ φ.fr0 ς (r_move rfl rfl) 5 rfl rfl rfl rfl rfl rfl fun a hg => Or.inr (Or.inl (⟨un rfl ν15, un rfl ν16, un rfl ν18, v7015, hg, ς⟩))
   ·exact no_way (cA hcl 16 5 rfl ν16) hSi
   ·exact no_way (cA hcl 16 5 rfl ν16) hSi
  ·obtain rfl : _ = o := Option.some.inj ho
   have hd5 : S 5 = true := depAt hdep 0 rfl rfl
   rcases hI with ⟨ν15, ν16, ν18, φ, ς⟩ | ⟨ν15, ν16, ν18, v7015, φ, ς⟩ | ⟨_, ν16, _⟩ | ⟨_, ν16, _⟩
   ·exact sq φ (Fr.cons φ.fr0 (φ.at_ 5 5 13 _ rfl hd5)) ς (r_nil rfl rfl) 6 rfl rfl rfl rfl rfl rfl fun a hg => Or.inl (⟨un rfl ν15, un rfl ν16, un rfl ν18, hg, ς⟩)
   ·exact sq φ (Fr.cons φ.fr0 (φ.at_ 5 5 13 _ rfl hd5)) ς (r_nil rfl rfl) 6 rfl rfl rfl rfl rfl rfl fun a hg => Or.inr (Or.inl (⟨un rfl ν15, un rfl ν16, un rfl ν18, v7015, hg, ς⟩))
   ·exact no_way (cA hcl 16 6 rfl ν16) hSi
   ·exact no_way (cA hcl 16 6 rfl ν16) hSi
  ·obtain rfl : _ = o := Option.some.inj ho
   have hd6 : S 6 = true := depAt hdep 0 rfl rfl
   rcases hI with ⟨ν15, ν16, ν18, φ, ς⟩ | ⟨ν15, ν16, ν18, v7015, φ, ς⟩ | ⟨_, ν16, _⟩ | ⟨_, ν16, _⟩
   ·exact sq φ (Fr.cons φ.fr0 (φ.at_ 6 6 14 _ rfl hd6)) ς (r_fieldB (r := 1) fl_214_1 rfl rfl rfl) 7 rfl rfl rfl rfl rfl rfl fun a hg => Or.inl (⟨un rfl ν15, un rfl ν16, un rfl ν18, hg, ς⟩)
   ·exact sq φ (Fr.cons φ.fr0 (φ.at_ 6 6 14 _ rfl hd6)) ς (r_fieldB (r := 1) fl_214_1 rfl rfl rfl) 7 rfl rfl rfl rfl rfl rfl fun a hg => Or.inr (Or.inl (⟨un rfl ν15, un rfl ν16, un rfl ν18, v7015, hg, ς⟩))
   ·exact no_way (cA hcl 16 7 rfl ν16) hSi
   ·exact no_way (cA hcl 16 7 rfl ν16) hSi
  ·obtain rfl : _ = o := Option.some.inj ho
   have hd7 : S 7 = true := depAt hdep 0 rfl rfl
   rcases hI with ⟨ν15, ν16, ν18, φ, ς⟩ | ⟨ν15, ν16, ν18, v7015, φ, ς⟩ | ⟨_, ν16, _⟩ | ⟨_, ν16, _⟩
   ·exact sq φ (Fr.cons φ.fr0 (φ.at_ 7 7 15 _ rfl hd7)) ς (r_ldb (i := 0) ti_212 rfl rfl rfl rfl) 8 rfl rfl rfl rfl rfl rfl fun a hg => Or.inl (⟨un rfl ν15, un rfl ν16, un rfl ν18, hg, ς⟩)
   ·exact sq φ (Fr.cons φ.fr0 (φ.at_ 7 7 15 _ rfl hd7)) ς (r_ldb (i := 1) ti_212 rfl rfl rfl rfl) 8 rfl rfl rfl rfl rfl rfl fun a hg => Or.inr (Or.inl (⟨un rfl ν15, un rfl ν16, un rfl ν18, v7015, hg, ς⟩))
   ·exact no_way (cA hcl 16 8 rfl ν16) hSi
   ·exact no_way (cA hcl 16 8 rfl ν16) hSi
  ·obtain rfl : _ = o := Option.some.inj ho
   rcases hI with ⟨ν15, ν16, ν18, φ, ς⟩ | ⟨ν15, ν16, ν18, v7015, φ, ς⟩ | ⟨_, ν16, _⟩ | ⟨_, ν16, _⟩
   ·exact sq φ φ.fr0 ς (r_move rfl rfl) 9 rfl rfl rfl rfl rfl rfl fun a hg => Or.inl (⟨un rfl ν15, un rfl ν16, un rfl ν18, hg, ς⟩)
   ·exact sq φ φ.fr0 ς (r_move rfl rfl) 9 rfl rfl rfl rfl rfl rfl fun a hg => Or.inr (Or.inl (⟨un rfl ν15, un rfl ν16, un rfl ν18, v7015, hg, ς⟩))
   ·exact no_way (cA hcl 16 9 rfl ν16) hSi
   ·exact no_way (cA hcl 16 9 rfl ν16) hSi
  ·obtain rfl : _ = o := Option.some.inj ho
   have hd8 : S 8 = true := depAt hdep 0 rfl rfl
   have hd9 : S 9 = true := depAt hdep 1 rfl rfl
   rcases hI with ⟨ν15, ν16, ν18, φ, ς⟩ | ⟨ν15, ν16, ν18, v7015, φ, ς⟩ | ⟨_, ν16, _⟩ | ⟨_, ν16, _⟩
   ·exact sq φ (Fr.cons (Fr.cons φ.fr0 (φ.at_ 8 8 16 _ rfl hd8)) (φ.at_ 9 9 17 _ rfl hd9)) ς (r_ixN (s := (⟨v9, rvs M⟩ : Ls RV)) (q := t) sl_212 ti_268 rfl rfl rfl (fun w h => (h.matAt 1 rfl)) (by rw [rvs_len]; exact (show t < M.length from (by omega)))) 10 rfl rfl rfl rfl rfl rfl fun a hg => Or.inl (⟨un rfl ν15, un rfl ν16, un rfl ν18, hg, ς⟩)
   ·exact sq φ (Fr.cons (Fr.cons φ.fr0 (φ.at_ 8 8 16 _ rfl hd8)) (φ.at_ 9 9 17 _ rfl hd9)) ς (r_ixN (s := (⟨v9, rvs M⟩ : Ls RV)) (q := t) sl_212 ti_268 rfl rfl rfl (fun w h => (h.matAt 2 rfl)) (by rw [rvs_len]; exact (show t < M.length from (by omega)))) 10 rfl rfl rfl rfl rfl rfl fun a hg => Or.inr (Or.inl (⟨un rfl ν15, un rfl ν16, un rfl ν18, v7015, hg, ς⟩))
   ·exact no_way (cA hcl 16 10 rfl ν16) hSi
   ·exact no_way (cA hcl 16 10 rfl ν16) hSi
  ·obtain rfl : _ = o := Option.some.inj ho
   have hd10 : S 10 = true := depAt hdep 0 rfl rfl
   rcases hI with ⟨ν15, ν16, ν18, φ, ς⟩ | ⟨ν15, ν16, ν18, v7015, φ, ς⟩ | ⟨_, ν16, _⟩ | ⟨_, ν16, _⟩
   ·exact sq φ (Fr.cons φ.fr0 (φ.at_ 10 10 18 _ rfl hd10)) ς (Rn.same (r_lde (s := (⟨v9, rvs M⟩ : Ls RV)) (i := t) (v := (nth (rvs M) t).v) ti_268 rfl rfl rfl (fun w h => h.matAt 1 rfl) (by rw [rvs_len]; exact (show t < M.length from (by omega))) (Nat.le_of_ble_eq_true rfl) rfl) (nth_rvs M t)) 11 rfl rfl rfl rfl rfl rfl fun a hg => Or.inl (⟨un rfl ν15, un rfl ν16, un rfl ν18, hg, ς⟩)
   ·exact sq φ (Fr.cons φ.fr0 (φ.at_ 10 10 18 _ rfl hd10)) ς (Rn.same (r_lde (s := (⟨v9, rvs M⟩ : Ls RV)) (i := t) (v := (nth (rvs M) t).v) ti_268 rfl rfl rfl (fun w h => h.matAt 2 rfl) (by rw [rvs_len]; exact (show t < M.length from (by omega))) (Nat.le_of_ble_eq_true rfl) rfl) (nth_rvs M t)) 11 rfl rfl rfl rfl rfl rfl fun a hg => Or.inr (Or.inl (⟨un rfl ν15, un rfl ν16, un rfl ν18, v7015, hg, ς⟩))
   ·exact no_way (cA hcl 16 11 rfl ν16) hSi
   ·exact no_way (cA hcl 16 11 rfl ν16) hSi
  ·obtain rfl : _ = o := Option.some.inj ho
   rcases hI with ⟨ν15, ν16, ν18, φ, ς⟩ | ⟨ν15, _⟩ | ⟨ν15, _⟩ | ⟨ν15, _⟩
   ·exact sq φ φ.fr0 ς (r_move rfl rfl) 12 rfl rfl rfl rfl rfl rfl fun a hg => Or.inl (⟨un rfl ν15, un rfl ν16, un rfl ν18, hg, ς⟩)
   ·exact no_way (cA hcl 15 12 rfl ν15) hSi
   ·exact no_way (cA hcl 15 12 rfl ν15) hSi
   ·exact no_way (cA hcl 15 12 rfl ν15) hSi
  ·obtain rfl : _ = o := Option.some.inj ho
   rcases hI with ⟨ν15, ν16, ν18, φ, ς⟩ | ⟨ν15, _⟩ | ⟨ν15, _⟩ | ⟨ν15, _⟩
   ·exact sq φ φ.fr0 ς (r_move rfl rfl) 13 rfl rfl rfl rfl rfl rfl fun a hg => Or.inl (⟨un rfl ν15, un rfl ν16, un rfl ν18, hg, ς⟩)
   ·exact no_way (cA hcl 15 13 rfl ν15) hSi
   ·exact no_way (cA hcl 15 13 rfl ν15) hSi
   ·exact no_way (cA hcl 15 13 rfl ν15) hSi
  ·obtain rfl : _ = o := Option.some.inj ho
   have hd12 : S 12 = true := depAt hdep 0 rfl rfl
   have hd13 : S 13 = true := depAt hdep 1 rfl rfl
   rcases hI with ⟨ν15, ν16, ν18, φ, ς⟩ | ⟨ν15, _⟩ | ⟨ν15, _⟩ | ⟨ν15, _⟩
   ·exact sq φ (Fr.cons (Fr.cons φ.fr0 (φ.at_ 12 12 20 _ rfl hd12)) (φ.at_ 13 13 21 _ rfl hd13)) ς (r_build (cs := [.bool false, .int .i64 ad, .int .i64 wd]) rfl rfl (by kernel_rfl)) 14 rfl rfl rfl rfl rfl rfl fun a hg => Or.inl (⟨un rfl ν15, un rfl ν16, un rfl ν18, hg, ς⟩)
   ·exact no_way (cA hcl 15 14 rfl ν15) hSi
   ·exact no_way (cA hcl 15 14 rfl ν15) hSi
   ·exact no_way (cA hcl 15 14 rfl ν15) hSi
  ·obtain rfl : _ = o := Option.some.inj ho
   have hd14 : S 14 = true := depAt hdep 0 rfl rfl
   rcases hI with ⟨ν15, ν16, ν18, φ, ς⟩ | ⟨ν15, _⟩ | ⟨ν15, _⟩ | ⟨ν15, _⟩
   ·have hs := St.mk (Fr.cons φ.fr0 (φ.at_ 14 14 22 _ rfl hd14)) ς
    refine step_ex (x_lit (n := 1) (cs := [.bool false, .int .i64 ad, .int .i64 wd]) ([(⟨false, ad, wd⟩ : Wt)] : List Wt) hs sl_268 ti_267 rfl rfl rfl (by decide) rfl (by kernel_rfl) rfl (fun q hq w h => Flat.inner _ _) (fun q hq b hb => (Flat.on _ _ hb).elim) rfl rfl) (wanted_none rfl _) ?_
    rintro a36 w36 ⟨v36, h36⟩ ⟨v0, ht36⟩
    exact Or.inr (Or.inl (⟨upd_self _ _, un rfl ν16, un rfl ν18, v36, φ.stepW hcl hSi [0, 1, 2, 3, 4, 5, 6, 7, 8, 9, 10, 11, 12, 13, 14] (by kernel_rfl) (by kernel_rfl) ht36 h36.fr.defers (h36.fr.at_ 23 _ rfl) 15 rfl rfl rfl rfl, (h36.sh.sel (L' := [.own 267 (⟨v36, [(⟨false, ad, wd⟩ : Wt)]⟩ : Ls Wt), .blk g1 214 [.pointer (some ⟨g0, 0, none⟩), v9], .big (matX (.own 267) 268 v9 M)]) [0, 1, 2] (by decide) ⟨rfl, rfl, rfl, trivial⟩)⟩))
   ·exact no_way ν15 hSi
   ·exact no_way ν15 hSi
   ·exact no_way ν15 hSi
  ·obtain rfl : _ = o := Option.some.inj ho
   have hd11 : S 11 = true := depAt hdep 0 rfl rfl
   have hd15 : S 15 = true := depAt hdep 1 rfl rfl
   rcases hI with ⟨ν15, _⟩ | ⟨ν15, ν16, ν18, v7015, φ, ς⟩ | ⟨_, ν16, _⟩ | ⟨_, ν16, _⟩
   ·exact no_way hd15 ν15
   ·have hs := St.mk (Fr.cons (Fr.cons φ.fr0 (φ.at_ 11 11 19 _ rfl hd11)) (φ.at_ 15 15 23 _ rfl hd15)) ς
    refine step_ex (x_appMat (i := t) (r := 2) (rm := 0) (m := (⟨v7015, [(⟨false, ad, wd⟩ : Wt)]⟩ : Ls Wt)) hs sl_268 ti_267 rfl rfl rfl rfl (show t < M.length from (by omega)) rfl rfl rfl (fun w h => (h.own 0 rfl)) (fun b hb => own_on (hs.sh.ok _ (List.mem_of_getElem? (i := 0) rfl)) hb) rfl rfl rfl inferInstance (show (((nth M t).l).length + ([(⟨false, ad, wd⟩ : Wt)]).length) * 24 ≤ 140737488355328 ∧ ((nth M t).l).length + ([(⟨false, ad, wd⟩ : Wt)]).length ≤ 140737488355328 from (by first | omega | (simp only [lens9]; omega))) rfl rfl) (wanted_none rfl _) ?_
    rintro a37 w37 ⟨v37, h37⟩ ⟨v0, ht37⟩
    exact Or.inr (Or.inr (Or.inl (⟨un rfl ν15, upd_self _ _, un rfl ν18, v7015, v37, φ.stepW hcl hSi [0, 1, 2, 3, 4, 5, 6, 7, 8, 9, 10, 11, 12, 13, 14, 15] (by kernel_rfl) (by kernel_rfl) ht37 h37.fr.defers (h37.fr.at_ 24 _ rfl) 16 rfl rfl rfl rfl, (h37.sh.sel (L' := [.own 267 (⟨v37, (nth M t).l ++ ([(⟨false, ad, wd⟩ : Wt)])⟩ : Ls Wt), .own 267 (⟨v7015, [(⟨false, ad, wd⟩ : Wt)]⟩ : Ls Wt), .blk g1 214 [.pointer (some ⟨g0, 0, none⟩), v9], .big (holeX (.own 267) 268 v9 M t)]) [0, 1, 2, 3] (by decide) ⟨rfl, rfl, rfl, rfl, trivial⟩)⟩)))
   ·exact no_way ν16 hSi
   ·exact no_way ν16 hSi
  ·obtain rfl : _ = o := Option.some.inj ho
   have hd3 : S 3 = true := depAt hdep 0 rfl rfl
   have hd4 : S 4 = true := depAt hdep 1 rfl rfl
   have hd15 : S 15 = true := depAt hdep 17 rfl rfl
   have hd16 : S 16 = true := depAt hdep 18 rfl rfl
   rcases hI with ⟨ν15, _⟩ | ⟨_, ν16, _⟩ | ⟨ν15, ν16, ν18, v7015, v7016, φ, ς⟩ | ⟨_, _, ν18, _⟩
   ·exact no_way hd15 ν15
   ·exact no_way hd16 ν16
   ·exact sq φ (Fr.cons (Fr.cons φ.fr0 (φ.at_ 3 3 11 _ rfl hd3)) (φ.at_ 4 4 12 _ rfl hd4)) ς (r_ixN (s := (⟨v9, rvs M⟩ : Ls RV)) (q := t) sl_212 ti_268 rfl rfl rfl (fun w h => (h.holeAt 3 rfl)) (by rw [rvs_len]; exact (show t < M.length from (by omega)))) 17 rfl rfl rfl rfl rfl rfl fun a hg => Or.inr (Or.inr (Or.inl (⟨un rfl ν15, un rfl ν16, un rfl ν18, v7015, v7016, hg, ς⟩)))
   ·exact no_way (cA hcl 18 17 rfl ν18) hSi
  ·obtain rfl : _ = o := Option.some.inj ho
   have hd17 : S 17 = true := depAt hdep 0 rfl rfl
   have hd16 : S 16 = true := depAt hdep 1 rfl rfl
   have hd15 : S 15 = true := depAt hdep 18 rfl rfl
   rcases hI with ⟨ν15, _⟩ | ⟨_, ν16, _⟩ | ⟨ν15, ν16, ν18, v7015, v7016, φ, ς⟩ | ⟨_, _, ν18, _⟩
   ·exact no_way hd15 ν15
   ·exact no_way hd16 ν16
   ·have hs := St.mk (Fr.cons (Fr.cons φ.fr0 (φ.at_ 16 16 24 _ rfl hd16)) (φ.at_ 17 17 25 _ rfl hd17)) ς
    refine step_ex (x_stHole (i := t) (r := 2) (s := (⟨v7016, (nth M t).l ++ ([(⟨false, ad, wd⟩ : Wt)])⟩ : Ls Wt)) hs ti_268 rfl rfl rfl rfl rfl (show t < M.length from (by omega)) (hs.sh.own 0 rfl)) (wanted_none rfl _) ?_
    rintro a39 w39 h39 ⟨v0, ht39⟩
    exact Or.inr (Or.inr (Or.inr (⟨un rfl ν15, un rfl ν16, upd_self _ _, v7015, v7016, φ.noneW hcl hSi [0, 1, 2, 3, 4, 5, 6, 7, 8, 9, 10, 11, 12, 13, 14, 15, 16, 17] (by kernel_rfl) (by kernel_rfl) ht39 h39.fr.defers rfl, (h39.sh.sel (L' := [.own 267 (⟨v7015, [(⟨false, ad, wd⟩ : Wt)]⟩ : Ls Wt), .blk g1 214 [.pointer (some ⟨g0, 0, none⟩), v9], .big (matX (.own 267) 268 v9 (M.set t (⟨v7016, (nth M t).l ++ ([(⟨false, ad, wd⟩ : Wt)])⟩ : Ls Wt)))]) [0, 1, 2] (by decide) ⟨rfl, rfl, rfl, trivial⟩)⟩)))
   ·exact no_way ν18 hSi
  · simp at ho
 intro S hall a w hI
 clear h2
 rcases hI with ⟨ν15, ν16, ν18, φ, ς⟩ | ⟨ν15, ν16, ν18, v7015, φ, ς⟩ | ⟨ν15, ν16, ν18, v7015, v7016, φ, ς⟩ | ⟨ν15, ν16, ν18, v7015, v7016, φ, ς⟩
 · exact no_way (hall 15 (by decide)) ν15
 · exact no_way (hall 16 (by decide)) ν16
 · exact no_way (hall 18 (by decide)) ν18
 have h40 : St 26 K W a w _ [.own 267 (⟨v7015, [(⟨false, ad, wd⟩ : Wt)]⟩ : Ls Wt), .blk g1 214 [.pointer (some ⟨g0, 0, none⟩), v9], .big (matX (.own 267) 268 v9 (M.set t (⟨v7016, (nth M t).l ++ ([(⟨false, ad, wd⟩ : Wt)])⟩ : Ls Wt)))] := ⟨φ.fr0, ς⟩
 clear hall φ ς ν15 ν16 ν18
 try simp only [Exit.then, Exit.inBlock, if_true]
 refine x_end0 (fn := Try.f193) rfl h40 ?_
 exact ⟨rfl, (⟨v7016, (nth M t).l ++ ([(⟨false, ad, wd⟩ : Wt)])⟩ : Ls Wt), rfl, (h40.sh.sel (L' := [.blk g1 214 [.pointer (some ⟨g0, 0, none⟩), v9], .big (matX (.own 267) 268 v9 (M.set t (⟨v7016, (nth M t).l ++ ([(⟨false, ad, wd⟩ : Wt)])⟩ : Ls Wt)))]) [1, 2] (by decide) ⟨rfl, rfl, trivial⟩)⟩

set_option maxRecDepth 100000 in
set_option maxHeartbeats 1000000 in
theorem tbFree_c (K : Nat → Prop) (g1 g0 : Nat) (v9 : Value) (M : List (Ls Wt)) (t : Nat) (ad wd : Int) (W : World) (hS : Sh K W W [.blk g1 214 [.pointer (some ⟨g0, 0, none⟩), v9], .big (matX (.own 267) 268 v9 M)]) (ht : t < M.length) (hl : (nth M t).l.length ≤ 100) :
    Rets Try.prog 189 [.pointer (some ⟨g1, 0, none⟩), .int .i64 ((t : Nat) : Int), .int .i64 ad] W (fun v w' => v = .tuple #[] ∧ ∃ u : Ls Wt, u.l = (nth M t).l ++ [⟨true, ad, 0⟩] ∧ Sh K W w' [.blk g1 214 [.pointer (some ⟨g0, 0, none⟩), v9], .big (matX (.own 267) 268 v9 (M.set t u))]) := by
 refine x_enter (N := 23) Try.func189 rfl Try.ntmps189 (Nat.le_of_ble_eq_true rfl) fun a1 hf1 => ?_
 have h1 : St 23 K W a1 W [(0, .pointer (some ⟨g1, 0, none⟩)), (1, .int .i64 ((t : Nat) : Int)), (2, .int .i64 ad)] [.blk g1 214 [.pointer (some ⟨g0, 0, none⟩), v9], .big (matX (.own 267) 268 v9 M)] := ⟨hf1.sub ⟨rfl, rfl, rfl, trivial⟩, hS⟩
 clear hf1
 have h2 : St 23 K W a1 W [(0, .pointer (some ⟨g1, 0, none⟩)), (1, .int .i64 ((t : Nat) : Int)), (2, .int .i64 ad)] [.blk g1 214 [.pointer (some ⟨g0, 0, none⟩), v9], .big (matX (.own 267) 268 v9 M)] := h1.nrm ⟨rfl, rfl, rfl, trivial⟩ [0, 1] (by decide) ⟨rfl, rfl, trivial⟩
 clear h1
 refine x_any ((fun Φ Ψ S a w => (S 14 = false ∧ S 15 = false ∧ S 17 = false ∧ FrI 23 S Φ Ψ a ∧ Sh K W w [.blk g1 214 [.pointer (some ⟨g0, 0, none⟩), v9], .big (matX (.own 267) 268 v9 M)]) ∨ (S 14 = true ∧ S 15 = false ∧ S 17 = false ∧ ∃ (v7014 : Value), FrI 23 S Φ (Ψ ++ [(14, 20, v7014)]) a ∧ Sh K W w [.own 267 (⟨v7014, [(⟨true, ad, 0⟩ : Wt)]⟩ : Ls Wt), .blk g1 214 [.pointer (some ⟨g0, 0, none⟩), v9], .big (matX (.own 267) 268 v9 M)]) ∨ (S 14 = true ∧ S 15 = true ∧ S 17 = false ∧ ∃ (v7014 : Value) (v7015 : Value), FrI 23 S Φ (Ψ ++ [(14, 20, v7014), (15, 21, v7015), (16, 22, .pointer (some (padr v9 1 t 0)))]) a ∧ Sh K W w [.own 267 (⟨v7015, (nth M t).l ++ ([(⟨true, ad, 0⟩ : Wt)])⟩ : Ls Wt), .own 267 (⟨v7014, [(⟨true, ad, 0⟩ : Wt)]⟩ : Ls Wt), .blk g1 214 [.pointer (some ⟨g0, 0, none⟩), v9], .big (holeX (.own 267) 268 v9 M t)]) ∨ (S 14 = true ∧ S 15 = true ∧ S 17 = true ∧ ∃ (v7014 : Value) (v7015 : Value), FrI 23 S Φ (Ψ ++ [(14, 20, v7014), (15, 21, v7015), (16, 22, .pointer (some (padr v9 1 t 0)))]) a ∧ Sh K W w [.own 267 (⟨v7014, [(⟨true, ad, 0⟩ : Wt)]⟩ : Ls Wt), .blk g1 214 [.pointer (some ⟨g0, 0, none⟩), v9], .big (matX (.own 267) 268 v9 (M.set t (⟨v7015, (nth M t).l ++ ([(⟨true, ad, 0⟩ : Wt)])⟩ : Ls Wt)))])) [(0, .pointer (some ⟨g1, 0, none⟩)), (1, .int .i64 ((t : Nat) : Int)), (2, .int .i64 ad)] [(0, 6, .pointer (some ⟨g1, 0, none⟩)), (1, 7, .pointer (some ⟨g1, 0, none⟩)), (2, 8, .pointer (some ⟨g1, 1, none⟩)), (3, 9, v9), (4, 10, .int .i64 ((t : Nat) : Int)), (5, 11, .pointer (some ⟨g1, 0, none⟩)), (6, 12, .pointer (some ⟨g1, 0, none⟩)), (7, 13, .pointer (some ⟨g1, 1, none⟩)), (8, 14, v9), (9, 15, .int .i64 ((t : Nat) : Int)), (10, 16, .pointer (some (padr v9 1 t 0))), (11, 17, (nth M t).v), (12, 18, .int .i64 ad), (13, 19, .agg #[.bool true, .int .i64 ad, .int .i64 0])]) (by kernel_rfl) (by kernel_rfl) (Or.inl (⟨rfl, rfl, rfl, FrI.start h2.fr, h2.sh.drew⟩)) ?_ ?_
 ·intro S i o ho hSi hcl hdep a w hI
  clear h2
  rcases i with _ | _ | _ | _ | _ | _ | _ | _ | _ | _ | _ | _ | _ | _ | _ | _ | _ | _ | i
  ·obtain rfl : _ = o := Option.some.inj ho
   rcases hI with ⟨ν14, ν15, ν17, φ, ς⟩ | ⟨ν14, ν15, ν17, v7014, φ, ς⟩ | ⟨ν14, ν15, ν17, v7014, v7015, φ, ς⟩ | ⟨_, _, ν17, _⟩
   ·exact sq φ φ.fr0 ς (r_move rfl rfl) 0 rfl rfl rfl rfl rfl rfl fun a hg => Or.inl (⟨un rfl ν14, un rfl ν15, un rfl ν17, hg, ς⟩)
   ·exact sq φ φ.fr0 ς (r_move rfl rfl) 0 rfl rfl rfl rfl rfl rfl fun a hg => Or.inr (Or.inl (⟨un rfl ν14, un rfl ν15, un rfl ν17, v7014, hg, ς⟩))
   ·exact sq φ φ.fr0 ς (r_move rfl rfl) 0 rfl rfl rfl rfl rfl rfl fun a hg => Or.inr (Or.inr (Or.inl (⟨un rfl ν14, un rfl ν15, un rfl ν17, v7014, v7015, hg, ς⟩)))
   ·exact no_way (cA hcl 17 0 rfl ν17) hSi
  ·obtain rfl : _ = o := Option.some.inj ho
   have hd0 : S 0 = true := depAt hdep 0 rfl rfl
   rcases hI with ⟨ν14, ν15, ν17, φ, ς⟩ | ⟨ν14, ν15, ν17, v7014, φ, ς⟩ | ⟨ν14, ν15, ν17, v7014, v7015, φ, ς⟩ | ⟨_, _, ν17, _⟩
   ·exact sq φ (Fr.cons φ.fr0 (φ.at_ 0 0 6 _ rfl hd0)) ς (r_nil rfl rfl) 1 rfl rfl rfl rfl rfl rfl fun a hg => Or.inl (⟨un rfl ν14, un rfl ν15, un rfl ν17, hg, ς⟩)
   ·exact sq φ (Fr.cons φ.fr0 (φ.at_ 0 0 6 _ rfl hd0)) ς (r_nil rfl rfl) 1 rfl rfl rfl rfl rfl rfl fun a hg => Or.inr (Or.inl (⟨un rfl ν14, un rfl ν15, un rfl ν17, v7014, hg, ς⟩))
   ·exact sq φ (Fr.cons φ.fr0 (φ.at_ 0 0 6 _ rfl hd0)) ς (r_nil rfl rfl) 1 rfl rfl rfl rfl rfl rfl fun a hg => Or.inr (Or.inr (Or.inl (⟨un rfl ν14, un rfl ν15, un rfl ν17, v7014, v7015, hg, ς⟩)))
   ·exact no_way (cA hcl 17 1 rfl ν17) hSi
  ·obtain rfl : _ = o := Option.some.inj ho
   have hd1 : S 1 = true := depAt hdep 0 rfl rfl
   rcases hI with ⟨ν14, ν15, ν17, φ, ς⟩ | ⟨ν14, ν15, ν17, v7014, φ, ς⟩ | ⟨ν14, ν15, ν17, v7014, v7015, φ, ς⟩ | ⟨_, _, ν17, _⟩
   ·exact sq φ (Fr.cons φ.fr0 (φ.at_ 1 1 7 _ rfl hd1)) ς (r_fieldB (r := 1) fl_214_1 rfl rfl rfl) 2 rfl rfl rfl rfl rfl rfl fun a hg => Or.inl (⟨un rfl ν14, un rfl ν15, un rfl ν17, hg, ς⟩)
   ·exact sq φ (Fr.cons φ.fr0 (φ.at_ 1 1 7 _ rfl hd1)) ς (r_fieldB (r := 1) fl_214_1 rfl rfl rfl) 2 rfl rfl rfl rfl rfl rfl fun a hg => Or.inr (Or.inl (⟨un rfl ν14, un rfl ν15, un rfl ν17, v7014, hg, ς⟩))
   ·exact sq φ (Fr.cons φ.fr0 (φ.at_ 1 1 7 _ rfl hd1)) ς (r_fieldB (r := 1) fl_214_1 rfl rfl rfl) 2 rfl rfl rfl rfl rfl rfl fun a hg => Or.inr (Or.inr (Or.inl (⟨un rfl ν14, un rfl ν15, un rfl ν17, v7014, v7015, hg, ς⟩)))
   ·exact no_way (cA hcl 17 2 rfl ν17) hSi
  ·obtain rfl : _ = o := Option.some.inj ho
   have hd2 : S 2 = true := depAt hdep 0 rfl rfl
   rcases hI with ⟨ν14, ν15, ν17, φ, ς⟩ | ⟨ν14, ν15, ν17, v7014, φ, ς⟩ | ⟨ν14, ν15, ν17, v7014, v7015, φ, ς⟩ | ⟨_, _, ν17, _⟩
   ·exact sq φ (Fr.cons φ.fr0 (φ.at_ 2 2 8 _ rfl hd2)) ς (r_ldb (i := 0) ti_212 rfl rfl rfl rfl) 3 rfl rfl rfl rfl rfl rfl fun a hg => Or.inl (⟨un rfl ν14, un rfl ν15, un rfl ν17, hg, ς⟩)
   ·exact sq φ (Fr.cons φ.fr0 (φ.at_ 2 2 8 _ rfl hd2)) ς (r_ldb (i := 1) ti_212 rfl rfl rfl rfl) 3 rfl rfl rfl rfl rfl rfl fun a hg => Or.inr (Or.inl (⟨un rfl ν14, un rfl ν15, un rfl ν17, v7014, hg, ς⟩))
   ·exact sq φ (Fr.cons φ.fr0 (φ.at_ 2 2 8 _ rfl hd2)) ς (r_ldb (i := 2) ti_212 rfl rfl rfl rfl) 3 rfl rfl rfl rfl rfl rfl fun a hg => Or.inr (Or.inr (Or.inl (⟨un rfl ν14, un rfl ν15, un rfl ν17, v7014, v7015, hg, ς⟩)))
   ·exact no_way (cA hcl 17 3 rfl ν17) hSi
  ·obtain rfl : _ = o := Option.some.inj ho
   rcases hI with ⟨ν14, ν15, ν17, φ, ς⟩ | ⟨ν14, ν15, ν17, v7014, φ, ς⟩ | ⟨ν14, ν15, ν17, v7014, v7015, φ, ς⟩ | ⟨_, _, ν17, _⟩
   ·exact sq φ φ.fr0 ς (r_move rfl rfl) 4 rfl rfl rfl rfl rfl rfl fun a hg => Or.inl (⟨un rfl ν14, un rfl ν15, un rfl ν17, hg, ς⟩)
   ·exact sq φ φ.fr0 ς (r_move rfl rfl) 4 rfl rfl rfl rfl rfl rfl fun a hg => Or.inr (Or.inl (⟨un rfl ν14, un rfl ν15, un rfl ν17, v7014, hg, ς⟩))
   ·exact sq φ φ.fr0 ς (r_move rfl rfl) 4 rfl rfl rfl rfl rfl rfl fun a hg => Or.inr (Or.inr (Or.inl (⟨un rfl ν14, un rfl ν15, un rfl ν17, v7014, v7015, hg, ς⟩)))
   ·exact no_way (cA hcl 17 4 rfl ν17) hSi
  ·obtain rfl : _ = o := Option.some.inj ho
   rcases hI with ⟨ν14, ν15, ν17, φ, ς⟩ | ⟨ν14, ν15, ν17, v7014, φ, ς⟩ | ⟨_, ν15, _⟩ | ⟨_, ν15, _⟩
   ·exact sq φ φ.fr0 ς (r_move rfl rfl) 5 rfl rfl rfl rfl rfl rfl fun a hg => Or.inl (⟨un rfl ν14, un rfl ν15, un rfl ν17, hg, ς⟩)
   ·exact sq φ φ.fr0 ς (r_move rfl rfl) 5 rfl rfl rfl rfl rfl rfl fun a hg => Or.inr (Or.inl (⟨un rfl ν14, un rfl ν15, un rfl ν17, v7014, hg, ς⟩))
   ·exact no_way (cA hcl 15 5 rfl ν15) hSi
   ·exact no_way (cA hcl 15 5 rfl ν15) hSi
  ·obtain rfl : _ = o := Option.some.inj ho
   have hd5 : S 5 = true := depAt hdep 0 rfl rfl
   rcases hI with ⟨ν14, ν15, ν17, φ, ς⟩ | ⟨ν14, ν15, ν17, v7014, φ, ς⟩ | ⟨_, ν15, _⟩ | ⟨_, ν15, _⟩
   ·exact sq φ (Fr.cons φ.fr0 (φ.at_ 5 5 11 _ rfl hd5)) ς (r_nil rfl rfl) 6 rfl rfl rfl rfl rfl rfl fun a hg => Or.inl (⟨un rfl ν14, un rfl ν15, un rfl ν17, hg, ς⟩)
   ·exact sq φ (Fr.cons φ.fr0 (φ.at_ 5 5 11 _ rfl hd5)) ς (r_nil rfl rfl) 6 rfl rfl rfl rfl rfl rfl fun a hg => Or.inr (Or.inl (⟨un rfl ν14, un rfl ν15, un rfl ν17, v7014, hg, ς⟩))
   ·exact no_way (cA hcl 15 6 rfl ν15) hSi
   ·exact no_way (cA hcl 15 6 rfl ν15) hSi
  ·obtain rfl : _ = o := Option.some.inj ho
   have hd6 : S 6 = true := depAt hdep 0 rfl rfl
   rcases hI with ⟨ν14, ν15, ν17, φ, ς⟩ | ⟨ν14, ν15, ν17, v7014, φ, ς⟩ | ⟨_, ν15, _⟩ | ⟨_, ν15, _⟩
   ·exact sq φ (Fr.cons φ.fr0 (φ.at_ 6 6 12 _ rfl hd6)) ς (r_fieldB (r := 1) fl_214_1 rfl rfl rfl) 7 rfl rfl rfl rfl rfl rfl fun a hg => Or.inl (⟨un rfl ν14, un rfl ν15, un rfl ν17, hg, ς⟩)
   ·exact sq φ (Fr.cons φ.fr0 (φ.at_ 6 6 12 _ rfl hd6)) ς (r_fieldB (r := 1) fl_214_1 rfl rfl rfl) 7 rfl rfl rfl rfl rfl rfl fun a hg => Or.inr (Or.inl (⟨un rfl ν14, un rfl ν15, un rfl ν17, v7014, hg, ς⟩))
   ·exact no_way (cA hcl 15 7 rfl ν15) hSi
   ·exact no_way (cA hcl 15 7 rfl ν15) hSi
  ·obtain rfl : _ = o := Option.some.inj ho
   have hd7 : S 7 = true := depAt hdep 0 rfl rfl
   rcases hI with ⟨ν14, ν15, ν17, φ, ς⟩ | ⟨ν14, ν15, ν17, v7014, φ, ς⟩ | ⟨_, ν15, _⟩ | ⟨_, ν15, _⟩
   ·exact sq φ (Fr.cons φ.fr0 (φ.at_ 7 7 13 _ rfl hd7)) ς (r_ldb (i := 0) ti_212 rfl rfl rfl rfl) 8 rfl rfl rfl rfl rfl rfl fun a hg => Or.inl (⟨un rfl ν14, un rfl ν15, un rfl ν17, hg, ς⟩)
   ·exact sq φ (Fr.cons φ.fr0 (φ.at_ 7 7 13 _ rfl hd7)) ς (r_ldb (i := 1) ti_212 rfl rfl rfl rfl) 8 rfl rfl rfl rfl rfl rfl fun a hg => Or.inr (Or.inl (⟨un rfl ν14, un rfl ν15, un rfl ν17, v7014, hg, ς⟩))
   ·exact no_way (cA hcl 15 8 rfl ν15) hSi
   ·exact no_way (cA hcl 15 8 rfl ν15) hSi
  ·obtain rfl : _ = o := Option.some.inj ho
   rcases hI with ⟨ν14, ν15, ν17, φ, ς⟩ | ⟨ν14, ν15, ν17, v7014, φ, ς⟩ | ⟨_, ν15, _⟩ | ⟨_, ν15, _⟩
   ·exact sq φ φ.fr0 ς (r_move rfl rfl) 9 rfl rfl rfl rfl rfl rfl fun a hg => Or.inl (⟨un rfl ν14, un rfl ν15, un rfl ν17, hg, ς⟩)
   ·exact sq φ φ.fr0 ς (r_move rfl rfl) 9 rfl rfl rfl rfl rfl rfl fun a hg => Or.inr (Or.inl (⟨un rfl ν14, un rfl ν15, un rfl ν17, v7014, hg, ς⟩))
   ·exact no_way (cA hcl 15 9 rfl ν15) hSi
   ·exact no_way (cA hcl 15 9 rfl ν15) hSi
  ·obtain rfl : _ = o := Option.some.inj ho
   have hd8 : S 8 = true := depAt hdep 0 rfl rfl
   have hd9 : S 9 = true := depAt hdep 1 rfl rfl
   rcases hI with ⟨ν14, ν15, ν17, φ, ς⟩ | ⟨ν14, ν15, ν17, v7014, φ, ς⟩ | ⟨_, ν15, _⟩ | ⟨_, ν15, _⟩
   ·exact sq φ (Fr.cons (Fr.cons φ.fr0 (φ.at_ 8 8 14 _ rfl hd8)) (φ.at_ 9 9 15 _ rfl hd9)) ς (r_ixN (s := (⟨v9, rvs M⟩ : Ls RV)) (q := t) sl_212 ti_268 rfl rfl rfl (fun w h => (h.matAt 1 rfl)) (by rw [rvs_len]; exact (show t < M.length from (by omega)))) 10 rfl rfl rfl rfl rfl rfl fun a hg => Or.inl (⟨un rfl ν14, un rfl ν15, un rfl ν17, hg, ς⟩)
   ·exact sq φ (Fr.cons (Fr.cons φ.fr0 (φ.at_ 8 8 14 _ rfl hd8)) (φ.at_ 9 9 15 _ rfl hd9)) ς (r_ixN (s := (⟨v9, rvs M⟩ : Ls RV)) (q := t) sl_212 ti_268 rfl rfl rfl (fun w h => (h.matAt 2 rfl)) (by rw [rvs_len]; exact (show t < M.length from (by omega)))) 10 rfl rfl rfl rfl rfl rfl fun a hg => Or.inr (Or.inl (⟨un rfl ν14, un rfl ν15, un rfl ν17, v7014, hg, ς⟩))
   ·exact no_way (cA hcl 15 10 rfl ν15) hSi
   ·exact no_way (cA hcl 15 10 rfl ν15) hSi
  ·obtain rfl : _ = o := Option.some.inj ho
   have hd10 : S 10 = true := depAt hdep 0 rfl rfl
   rcases hI with ⟨ν14, ν15, ν17, φ, ς⟩ | ⟨ν14, ν15, ν17, v7014, φ, ς⟩ | ⟨_, ν15, _⟩ | ⟨_, ν15, _⟩
   ·exact sq φ (Fr.cons φ.fr0 (φ.at_ 10 10 16 _ rfl hd10)) ς (Rn.same (r_lde (s := (⟨v9, rvs M⟩ : Ls RV)) (i := t) (v := (nth (rvs M) t).v) ti_268 rfl rfl rfl (fun w h => h.matAt 1 rfl) (by rw [rvs_len]; exact (show t < M.length from (by omega))) (Nat.le_of_ble_eq_true rfl) rfl) (nth_rvs M t)) 11 rfl rfl rfl rfl rfl rfl fun a hg => Or.inl (⟨un rfl ν14, un rfl ν15, un rfl ν17, hg, ς⟩)
   ·exact sq φ (Fr.cons φ.fr0 (φ.at_ 10 10 16 _ rfl hd10)) ς (Rn.same (r_lde (s := (⟨v9, rvs M⟩ : Ls RV)) (i := t) (v := (nth (rvs M) t).v) ti_268 rfl rfl rfl (fun w h => h.matAt 2 rfl) (by rw [rvs_len]; exact (show t < M.length from (by omega))) (Nat.le_of_ble_eq_true rfl) rfl) (nth_rvs M t)) 11 rfl rfl rfl rfl rfl rfl fun a hg => Or.inr (Or.inl (⟨un rfl ν14, un rfl ν15, un rfl ν17, v7014, hg, ς⟩))
   ·exact no_way (cA hcl 15 11 rfl ν15) hSi
   ·exact no_way (cA hcl 15 11 rfl ν15) hSi
  ·obtain rfl : _ = o := Option.some.inj ho
   rcases hI with ⟨ν14, ν15, ν17, φ, ς⟩ | ⟨ν14, _⟩ | ⟨ν14, _⟩ | ⟨ν14, _⟩
   ·exact sq φ φ.fr0 ς (r_move rfl rfl) 12 rfl rfl rfl rfl rfl rfl fun a hg => Or.inl (⟨un rfl ν14, un rfl ν15, un rfl ν17, hg, ς⟩)
   ·exact no_way (cA hcl 14 12 rfl ν14) hSi
   ·exact no_way (cA hcl 14 12 rfl ν14) hSi
   ·exact no_way (cA hcl 14 12 rfl ν14) hSi
  ·obtain rfl : _ = o := Option.some.inj ho
   have hd12 : S 12 = true := depAt hdep 0 rfl rfl
   rcases hI with ⟨ν14, ν15, ν17, φ, ς⟩ | ⟨ν14, _⟩ | ⟨ν14, _⟩ | ⟨ν14, _⟩
   ·exact sq φ (Fr.cons φ.fr0 (φ.at_ 12 12 18 _ rfl hd12)) ς (r_build (cs := [.bool true, .int .i64 ad, .int .i64 0]) rfl rfl (by kernel_rfl)) 13 rfl rfl rfl rfl rfl rfl fun a hg => Or.inl (⟨un rfl ν14, un rfl ν15, un rfl ν17, hg, ς⟩)
   ·exact no_way (cA hcl 14 13 rfl ν14) hSi
   ·exact no_way (cA hcl 14 13 rfl ν14) hSi
   ·exact no_way (cA hcl 14 13 rfl ν14) hSi
  ·obtain rfl : _ = o := Option.some.inj ho
   have hd13 : S 13 = true := depAt hdep 0 rfl rfl
   rcases hI with ⟨ν14, ν15, ν17, φ, ς⟩ | ⟨ν14, _⟩ | ⟨ν14, _⟩ | ⟨ν14, _⟩
   ·have hs := St.mk (Fr.cons φ.fr0 (φ.at_ 13 13 19 _ rfl hd13)) ς
    refine step_ex (x_lit (n := 1) (cs := [.bool true, .int .i64 ad, .int .i64 0]) ([(⟨true, ad, 0⟩ : Wt)] : List Wt) hs sl_268 ti_267 rfl rfl rfl (by decide) rfl (by kernel_rfl) rfl (fun q hq w h => Flat.inner _ _) (fun q hq b hb => (Flat.on _ _ hb).elim) rfl rfl) (wanted_none rfl _) ?_
    rintro a35 w35 ⟨v35, h35⟩ ⟨v0, ht35⟩
    exact Or.inr (Or.inl (⟨upd_self _ _, un rfl ν15, un rfl ν17, v35, φ.stepW hcl hSi [0, 1, 2, 3, 4, 5, 6, 7, 8, 9, 10, 11, 12, 13] (by kernel_rfl) (by kernel_rfl) ht35 h35.fr.defers (h35.fr.at_ 20 _ rfl) 14 rfl rfl rfl rfl, (h35.sh.sel (L' := [.own 267 (⟨v35, [(⟨true, ad, 0⟩ : Wt)]⟩ : Ls Wt), .blk g1 214 [.pointer (some ⟨g0, 0, none⟩), v9], .big (matX (.own 267) 268 v9 M)]) [0, 1, 2] (by decide) ⟨rfl, rfl, rfl, trivial⟩)⟩))
   ·exact no_way ν14 hSi
   ·exact no_way ν14 hSi
   ·exact no_way ν14 hSi
  ·obtain rfl : _ = o := Option.some.inj ho
   have hd11 : S 11 = true := depAt hdep 0 rfl rfl
   have hd14 : S 14 = true := depAt hdep 1 rfl rfl
   rcases hI with ⟨ν14, _⟩ | ⟨ν14, ν15, ν17, v7014, φ, ς⟩ | ⟨_, ν15, _⟩ | ⟨_, ν15, _⟩
   ·exact no_way hd14 ν14
   ·have hs := St.mk (Fr.cons (Fr.cons φ.fr0 (φ.at_ 11 11 17 _ rfl hd11)) (φ.at_ 14 14 20 _ rfl hd14)) ς
    refine step_ex (x_appMat (i := t) (r := 2) (rm := 0) (m := (⟨v7014, [(⟨true, ad, 0⟩ : Wt)]⟩ : Ls Wt)) hs sl_268 ti_267 rfl rfl rfl rfl (show t < M.length from (by omega)) rfl rfl rfl (fun w h => (h.own 0 rfl)) (fun b hb => own_on (hs.sh.ok _ (List.mem_of_getElem? (i := 0) rfl)) hb) rfl rfl rfl inferInstance (show (((nth M t).l).length + ([(⟨true, ad, 0⟩ : Wt)]).length) * 24 ≤ 140737488355328 ∧ ((nth M t).l).length + ([(⟨true, ad, 0⟩ : Wt)]).length ≤ 140737488355328 from (by first | omega | (simp only [lens9]; omega))) rfl rfl) (wanted_none rfl _) ?_
    rintro a36 w36 ⟨v36, h36⟩ ⟨v0, ht36⟩
    exact Or.inr (Or.inr (Or.inl (⟨un rfl ν14, upd_self _ _, un rfl ν17, v7014, v36, φ.stepW hcl hSi [0, 1, 2, 3, 4, 5, 6, 7, 8, 9, 10, 11, 12, 13, 14] (by kernel_rfl) (by kernel_rfl) ht36 h36.fr.defers (h36.fr.at_ 21 _ rfl) 15 rfl rfl rfl rfl, (h36.sh.sel (L' := [.own 267 (⟨v36, (nth M t).l ++ ([(⟨true, ad, 0⟩ : Wt)])⟩ : Ls Wt), .own 267 (⟨v7014, [(⟨true, ad, 0⟩ : Wt)]⟩ : Ls Wt), .blk g1 214 [.pointer (some ⟨g0, 0, none⟩), v9], .big (holeX (.own 267) 268 v9 M t)]) [0, 1, 2, 3] (by decide) ⟨rfl, rfl, rfl, rfl, trivial⟩)⟩)))
   ·exact no_way ν15 hSi
   ·exact no_way ν15 hSi
  ·obtain rfl : _ = o := Option.some.inj ho
   have hd3 : S 3 = true := depAt hdep 0 rfl rfl
   have hd4 : S 4 = true := depAt hdep 1 rfl rfl
   have hd14 : S 14 = true := depAt hdep 16 rfl rfl
   have hd15 : S 15 = true := depAt hdep 17 rfl rfl
   rcases hI with ⟨ν14, _⟩ | ⟨_, ν15, _⟩ | ⟨ν14, ν15, ν17, v7014, v7015, φ, ς⟩ | ⟨_, _, ν17, _⟩
   ·exact no_way hd14 ν14
   ·exact no_way hd15 ν15
   ·exact sq φ (Fr.cons (Fr.cons φ.fr0 (φ.at_ 3 3 9 _ rfl hd3)) (φ.at_ 4 4 10 _ rfl hd4)) ς (r_ixN (s := (⟨v9, rvs M⟩ : Ls RV)) (q := t) sl_212 ti_268 rfl rfl rfl (fun w h => (h.holeAt 3 rfl)) (by rw [rvs_len]; exact (show t < M.length from (by omega)))) 16 rfl rfl rfl rfl rfl rfl fun a hg => Or.inr (Or.inr (Or.inl (⟨un rfl ν14, un rfl ν15, un rfl ν17, v7014, v7015, hg, ς⟩)))
   ·exact no_way (cA hcl 17 16 rfl ν17) hSi
  ·obtain rfl : _ = o := Option.some.inj ho
   have hd16 : S 16 = true := depAt hdep 0 rfl rfl
   have hd15 : S 15 = true := depAt hdep 1 rfl rfl
   have hd14 : S 14 = true := depAt hdep 17 rfl rfl
   rcases hI with ⟨ν14, _⟩ | ⟨_, ν15, _⟩ | ⟨ν14, ν15, ν17, v7014, v7015, φ, ς⟩ | ⟨_, _, ν17, _⟩
   ·exact no_way hd14 ν14
   ·exact no_way hd15 ν15
   ·have hs := St.mk (Fr.cons (Fr.cons φ.fr0 (φ.at_ 15 15 21 _ rfl hd15)) (φ.at_ 16 16 22 _ rfl hd16)) ς
    refine step_ex (x_stHole (i := t) (r := 2) (s := (⟨v7015, (nth M t).l ++ ([(⟨true, ad, 0⟩ : Wt)])⟩ : Ls Wt)) hs ti_268 rfl rfl rfl rfl rfl (show t < M.length from (by omega)) (hs.sh.own 0 rfl)) (wanted_none rfl _) ?_
    rintro a38 w38 h38 ⟨v0, ht38⟩
    exact Or.inr (Or.inr (Or.inr (⟨un rfl ν14, un rfl ν15, upd_self _ _, v7014, v7015, φ.noneW hcl hSi [0, 1, 2, 3, 4, 5, 6, 7, 8, 9, 10, 11, 12, 13, 14, 15, 16] (by kernel_rfl) (by kernel_rfl) ht38 h38.fr.defers rfl, (h38.sh.sel (L' := [.own 267 (⟨v7014, [(⟨true, ad, 0⟩ : Wt)]⟩ : Ls Wt), .blk g1 214 [.pointer (some ⟨g0, 0, none⟩), v9], .big (matX (.own 267) 268 v9 (M.set t (⟨v7015, (nth M t).l ++ ([(⟨true, ad, 0⟩ : Wt)])⟩ : Ls Wt)))]) [0, 1, 2] (by decide) ⟨rfl, rfl, rfl, trivial⟩)⟩)))
   ·exact no_way ν17 hSi
  · simp at ho
 intro S hall a w hI
 clear h2
 rcases hI with ⟨ν14, ν15, ν17, φ, ς⟩ | ⟨ν14, ν15, ν17, v7014, φ, ς⟩ | ⟨ν14, ν15, ν17, v7014, v7015, φ, ς⟩ | ⟨ν14, ν15, ν17, v7014, v7015, φ, ς⟩
 · exact no_way (hall 14 (by decide)) ν14
 · exact no_way (hall 15 (by decide)) ν15
 · exact no_way (hall 17 (by decide)) ν17
 have h39 : St 23 K W a w _ [.own 267 (⟨v7014, [(⟨true, ad, 0⟩ : Wt)]⟩ : Ls Wt), .blk g1 214 [.pointer (some ⟨g0, 0, none⟩), v9], .big (matX (.own 267) 268 v9 (M.set t (⟨v7015, (nth M t).l ++ ([(⟨true, ad, 0⟩ : Wt)])⟩ : Ls Wt)))] := ⟨φ.fr0, ς⟩
 clear hall φ ς ν14 ν15 ν17
 try simp only [Exit.then, Exit.inBlock, if_true]
 refine x_end0 (fn := Try.f189) rfl h39 ?_
 exact ⟨rfl, (⟨v7015, (nth M t).l ++ ([(⟨true, ad, 0⟩ : Wt)])⟩ : Ls Wt), rfl, (h39.sh.sel (L' := [.blk g1 214 [.pointer (some ⟨g0, 0, none⟩), v9], .big (matX (.own 267) 268 v9 (M.set t (⟨v7015, (nth M t).l ++ ([(⟨true, ad, 0⟩ : Wt)])⟩ : Ls Wt)))]) [1, 2] (by decide) ⟨rfl, rfl, trivial⟩)⟩

set_option maxRecDepth 100000 in
set_option maxHeartbeats 2000000 in
theorem tbFlush_c (K : Nat → Prop) (g1 g0 : Nat) (v9 : Value) (M : List (Ls Wt)) (words owner : Ls Int) (t k : Nat) (W : World) (hS : Sh K W W [.blk g1 214 [.pointer (some ⟨g0, 0, none⟩), v9], .big (matX (.own 267) 268 v9 M), .blk g0 205 [words.v, owner.v], .own 3 words, .own 3 owner]) (ht : t < M.length) (hl : (nth M t).l.length ≤ 100) (hk : k < (nth M t).l.length) (hx : WtOk (nth (nth M t).l k) words owner) :
    Rets Try.prog 188 [.pointer (some ⟨g1, 0, none⟩), .int .i64 ((t : Nat) : Int), .int .i64 ((k : Nat) : Int)] W (fun v w' => v = .tuple #[] ∧ ∃ u : Ls Wt, u.l = (nth M t).l.eraseIdx k ∧ Sh K W w' [.blk g1 214 [.pointer (some ⟨g0, 0, none⟩), v9], .big (matX (.own 267) 268 v9 (M.set t u)), .blk g0 205 [words.v, owner.v], .own 3 (⟨words.v, if (nth (nth M t).l k).lock = true then words.l else words.l.set (nth (nth M t).l k).wh.toNat (nth (nth M t).l k).what⟩ : Ls Int), .own 3 (⟨owner.v, if (nth (nth M t).l k).lock = true then owner.l.set (nth (nth M t).l k).wh.toNat (-1) else owner.l⟩ : Ls Int)]) := by
 refine x_enter (N := 55) Try.func188 rfl Try.ntmps188 (Nat.le_of_ble_eq_true rfl) fun a1 hf1 => ?_
 have h1 : St 55 K W a1 W [(0, .pointer (some ⟨g1, 0, none⟩)), (1, .int .i64 ((t : Nat) : Int)), (2, .int .i64 ((k : Nat) : Int))] [.blk g1 214 [.pointer (some ⟨g0, 0, none⟩), v9], .big (matX (.own 267) 268 v9 M), .blk g0 205 [words.v, owner.v], .own 3 words, .own 3 owner] := ⟨hf1.sub ⟨rfl, rfl, rfl, trivial⟩, hS⟩
 clear hf1
 refine wp_seq_k fun K2 hK2 => wp_region_lit <| wms 1 h1 rfl fun a3 h3 => wv h3 (r_nil rfl rfl) rfl rfl fun a4 h4 => wv h4 (r_fieldB (r := 1) fl_214_1 rfl rfl rfl) rfl rfl fun a5 h5 => wv h5 (r_ldb (i := 0) ti_212 rfl rfl rfl rfl) rfl rfl fun a6 h6 => wms 1 h6 rfl fun a7 h7 => wv h7 (r_ixN (s := (⟨v9, rvs M⟩ : Ls RV)) (q := t) sl_212 ti_268 rfl rfl rfl (fun w h => (h.matAt 1 rfl)) (by rw [rvs_len]; exact (show t < M.length from (by omega)))) rfl rfl fun a8 h8 => wv h8 (Rn.same (r_lde (s := (⟨v9, rvs M⟩ : Ls RV)) (i := t) (v := (nth (rvs M) t).v) ti_268 rfl rfl rfl (fun w h => h.matAt 1 rfl) (by rw [rvs_len]; exact (show t < M.length from (by omega))) (Nat.le_of_ble_eq_true rfl) rfl) (nth_rvs M t)) rfl rfl fun a9 h9 => wms 1 h9 rfl fun a10 h10 => ?_; clear h1 h3 h4 h5 h6 h7 h8 h9
 have hl11 : ((nth M t).l).length ≤ 140737488355328 := (h10.sh.matRow 1 rfl t (show t < M.length from (by omega))).len
 refine wv h10 (r_ixN (s := (nth M t)) (q := k) sl_268 ti_267 rfl rfl rfl (fun w h => (h.matRow 1 rfl t (show t < M.length from (by omega)))) (show k < ((nth M t).l).length from (by omega))) rfl rfl fun a12 h12 => wv h12 (r_ldew (s := (nth M t)) (i := k) (vs := [.bool ((nth ((nth M t).l) k).lock), .int .i64 ((nth ((nth M t).l) k).wh), .int .i64 ((nth ((nth M t).l) k).what)]) ti_267 rfl rfl rfl (fun w h => (h.matRow 1 rfl t (show t < M.length from (by omega)))) (show k < ((nth M t).l).length from (by omega)) (Nat.le_of_ble_eq_true rfl) rfl) rfl rfl fun a13 h13 => wl_ex (x_alloc h13 ti_267 rfl rfl rfl) (wanted_none rfl _) ?_; clear h10 h12
 rintro a14 w14 ⟨b14, h14⟩; clear h13
 refine wl_ex (x_stb (i := 0) (vs := [.bool ((nth ((nth M t).l) k).lock), .int .i64 ((nth ((nth M t).l) k).wh), .int .i64 ((nth ((nth M t).l) k).what)]) (cs' := [.bool ((nth ((nth M t).l) k).lock), .int .i64 ((nth ((nth M t).l) k).wh), .int .i64 ((nth ((nth M t).l) k).what)]) h14 ti_267 rfl rfl rfl rfl rfl rfl rfl (allOne_cons rfl (allOne_cons rfl (allOne_cons rfl allOne_nil))) (Nat.le_of_ble_eq_true rfl) rfl) (wanted_none rfl _) ?_
 rintro a15 w15 h15
 clear h14
 refine wpList_nil <| hK2 _ _ <| wp_seq_k fun K16 hK16 => ?_
 have h17 : St 55 K W a15 w15 [(0, .pointer (some ⟨g1, 0, none⟩)), (1, .int .i64 ((t : Nat) : Int)), (2, .int .i64 ((k : Nat) : Int)), (6, .pointer (some ⟨b14, 0, none⟩)), (7, .pointer (some ⟨g1, 0, none⟩)), (8, .pointer (some ⟨g1, 0, none⟩)), (9, .pointer (some ⟨g1, 1, none⟩)), (10, v9), (11, .int .i64 ((t : Nat) : Int)), (12, .pointer (some (padr v9 1 t 0))), (13, (nth M t).v), (14, .int .i64 ((k : Nat) : Int)), (15, .pointer (some (padr ((nth M t).v) 3 k 0))), (16, .agg #[.bool ((nth ((nth M t).l) k).lock), .int .i64 ((nth ((nth M t).l) k).wh), .int .i64 ((nth ((nth M t).l) k).what)])] [.blk b14 267 [.bool ((nth ((nth M t).l) k).lock), .int .i64 ((nth ((nth M t).l) k).wh), .int .i64 ((nth ((nth M t).l) k).what)], .blk g1 214 [.pointer (some ⟨g0, 0, none⟩), v9], .big (matX (.own 267) 268 v9 M), .blk g0 205 [words.v, owner.v], .own 3 words, .own 3 owner] := h15.nrm ⟨rfl, rfl, rfl, rfl, rfl, rfl, rfl, rfl, rfl, rfl, rfl, rfl, rfl, rfl, trivial⟩ [0, 1, 2, 3, 4, 5] (by decide) ⟨rfl, rfl, rfl, rfl, rfl, rfl, trivial⟩
 clear h15
 refine x_any ((fun Φ Ψ S a w => (S 12 = false ∧ S 16 = false ∧ S 18 = false ∧ FrI 55 S Φ Ψ a ∧ Sh K W w [.blk b14 267 [.bool ((nth ((nth M t).l) k).lock), .int .i64 ((nth ((nth M t).l) k).wh), .int .i64 ((nth ((nth M t).l) k).what)], .blk g1 214 [.pointer (some ⟨g0, 0, none⟩), v9], .big (matX (.own 267) 268 v9 M), .blk g0 205 [words.v, owner.v], .own 3 words, .own 3 owner]) ∨ (S 12 = true ∧ S 16 = false ∧ S 18 = false ∧ ∃ (s7012 : Ls Wt), FrI 55 S Φ (Ψ ++ [(12, 29, s7012.v)]) a ∧ Sh K W w [.own 267 (⟨s7012.v, (nth M t).l⟩ : Ls Wt), .blk b14 267 [.bool ((nth ((nth M t).l) k).lock), .int .i64 ((nth ((nth M t).l) k).wh), .int .i64 ((nth ((nth M t).l) k).what)], .blk g1 214 [.pointer (some ⟨g0, 0, none⟩), v9], .big (matX (.own 267) 268 v9 M), .blk g0 205 [words.v, owner.v], .own 3 words, .own 3 owner]) ∨ (S 12 = true ∧ S 16 = true ∧ S 18 = false ∧ ∃ (s7012 : Ls Wt) (u7016 : Ls Wt), FrI 55 S Φ (Ψ ++ [(12, 29, s7012.v), (16, 33, u7016.v), (17, 34, .pointer (some (padr v9 1 t 0)))]) a ∧ Sh K W w [.own 267 (⟨u7016.v, ((nth M t).l).take k ++ ((nth M t).l).drop (k + 1)⟩ : Ls Wt), .blk b14 267 [.bool ((nth ((nth M t).l) k).lock), .int .i64 ((nth ((nth M t).l) k).wh), .int .i64 ((nth ((nth M t).l) k).what)], .blk g1 214 [.pointer (some ⟨g0, 0, none⟩), v9], .big (matX (.own 267) 268 v9 M), .blk g0 205 [words.v, owner.v], .own 3 words, .own 3 owner]) ∨ (S 12 = true ∧ S 16 = true ∧ S 18 = true ∧ ∃ (s7012 : Ls Wt) (u7016 : Ls Wt), FrI 55 S Φ (Ψ ++ [(12, 29, s7012.v), (16, 33, u7016.v), (17, 34, .pointer (some (padr v9 1 t 0)))]) a ∧ Sh K W w [.big (matX (.own 267) 268 v9 (M.set t (⟨u7016.v, ((nth M t).l).take k ++ ((nth M t).l).drop (k + 1)⟩ : Ls Wt))), .blk b14 267 [.bool ((nth ((nth M t).l) k).lock), .int .i64 ((nth ((nth M t).l) k).wh), .int .i64 ((nth ((nth M t).l) k).what)], .blk g1 214 [.pointer (some ⟨g0, 0, none⟩), v9], .blk g0 205 [words.v, owner.v], .own 3 words, .own 3 owner])) [(0, .pointer (some ⟨g1, 0, none⟩)), (1, .int .i64 ((t : Nat) : Int)), (2, .int .i64 ((k : Nat) : Int)), (6, .pointer (some ⟨b14, 0, none⟩)), (7, .pointer (some ⟨g1, 0, none⟩)), (8, .pointer (some ⟨g1, 0, none⟩)), (9, .pointer (some ⟨g1, 1, none⟩)), (10, v9), (11, .int .i64 ((t : Nat) : Int)), (12, .pointer (some (padr v9 1 t 0))), (13, (nth M t).v), (14, .int .i64 ((k : Nat) : Int)), (15, .pointer (some (padr ((nth M t).v) 3 k 0))), (16, .agg #[.bool ((nth ((nth M t).l) k).lock), .int .i64 ((nth ((nth M t).l) k).wh), .int .i64 ((nth ((nth M t).l) k).what)])] [(0, 17, .pointer (some ⟨g1, 0, none⟩)), (1, 18, .pointer (some ⟨g1, 0, none⟩)), (2, 19, .pointer (some ⟨g1, 1, none⟩)), (3, 20, v9), (4, 21, .int .i64 ((t : Nat) : Int)), (5, 22, .pointer (some ⟨g1, 0, none⟩)), (6, 23, .pointer (some ⟨g1, 0, none⟩)), (7, 24, .pointer (some ⟨g1, 1, none⟩)), (8, 25, v9), (9, 26, .int .i64 ((t : Nat) : Int)), (10, 27, .pointer (some (padr v9 1 t 0))), (11, 28, (nth M t).v), (13, 30, .int .i64 ((k : Nat) : Int)), (14, 31, .int .i64 ((k : Nat) : Int)), (15, 32, .int .i64 ((k + 1 : Nat) : Int))]) (by kernel_rfl) (by kernel_rfl) (Or.inl (⟨rfl, rfl, rfl, FrI.start h17.fr, h17.sh.drew⟩)) ?_ ?_
 ·intro S i o ho hSi hcl hdep a w hI
  clear h17
  rcases i with _ | _ | _ | _ | _ | _ | _ | _ | _ | _ | _ | _ | _ | _ | _ | _ | _ | _ | _ | i
  ·obtain rfl : _ = o := Option.some.inj ho
   rcases hI with ⟨ν12, ν16, ν18, φ, ς⟩ | ⟨ν12, ν16, ν18, s7012, φ, ς⟩ | ⟨ν12, ν16, ν18, s7012, u7016, φ, ς⟩ | ⟨_, _, ν18, _⟩
   ·exact sq φ φ.fr0 ς (r_move rfl rfl) 0 rfl rfl rfl rfl rfl rfl fun a hg => Or.inl (⟨un rfl ν12, un rfl ν16, un rfl ν18, hg, ς⟩)
   ·exact sq φ φ.fr0 ς (r_move rfl rfl) 0 rfl rfl rfl rfl rfl rfl fun a hg => Or.inr (Or.inl (⟨un rfl ν12, un rfl ν16, un rfl ν18, s7012, hg, ς⟩))
   ·exact sq φ φ.fr0 ς (r_move rfl rfl) 0 rfl rfl rfl rfl rfl rfl fun a hg => Or.inr (Or.inr (Or.inl (⟨un rfl ν12, un rfl ν16, un rfl ν18, s7012, u7016, hg, ς⟩)))
   ·exact no_way (cA hcl 18 0 rfl ν18) hSi
  ·obtain rfl : _ = o := Option.some.inj ho
   have hd0 : S 0 = true := depAt hdep 0 rfl rfl
   rcases hI with ⟨ν12, ν16, ν18, φ, ς⟩ | ⟨ν12, ν16, ν18, s7012, φ, ς⟩ | ⟨ν12, ν16, ν18, s7012, u7016, φ, ς⟩ | ⟨_, _, ν18, _⟩
   ·exact sq φ (Fr.cons φ.fr0 (φ.at_ 0 0 17 _ rfl hd0)) ς (r_nil rfl rfl) 1 rfl rfl rfl rfl rfl rfl fun a hg => Or.inl (⟨un rfl ν12, un rfl ν16, un rfl ν18, hg, ς⟩)
   ·exact sq φ (Fr.cons φ.fr0 (φ.at_ 0 0 17 _ rfl hd0)) ς (r_nil rfl rfl) 1 rfl rfl rfl rfl rfl rfl fun a hg => Or.inr (Or.inl (⟨un rfl ν12, un rfl ν16, un rfl ν18, s7012, hg, ς⟩))
   ·exact sq φ (Fr.cons φ.fr0 (φ.at_ 0 0 17 _ rfl hd0)) ς (r_nil rfl rfl) 1 rfl rfl rfl rfl rfl rfl fun a hg => Or.inr (Or.inr (Or.inl (⟨un rfl ν12, un rfl ν16, un rfl ν18, s7012, u7016, hg, ς⟩)))
   ·exact no_way (cA hcl 18 1 rfl ν18) hSi
  ·obtain rfl : _ = o := Option.some.inj ho
   have hd1 : S 1 = true := depAt hdep 0 rfl rfl
   rcases hI with ⟨ν12, ν16, ν18, φ, ς⟩ | ⟨ν12, ν16, ν18, s7012, φ, ς⟩ | ⟨ν12, ν16, ν18, s7012, u7016, φ, ς⟩ | ⟨_, _, ν18, _⟩
   ·exact sq φ (Fr.cons φ.fr0 (φ.at_ 1 1 18 _ rfl hd1)) ς (r_fieldB (r := 1) fl_214_1 rfl rfl rfl) 2 rfl rfl rfl rfl rfl rfl fun a hg => Or.inl (⟨un rfl ν12, un rfl ν16, un rfl ν18, hg, ς⟩)
   ·exact sq φ (Fr.cons φ.fr0 (φ.at_ 1 1 18 _ rfl hd1)) ς (r_fieldB (r := 1) fl_214_1 rfl rfl rfl) 2 rfl rfl rfl rfl rfl rfl fun a hg => Or.inr (Or.inl (⟨un rfl ν12, un rfl ν16, un rfl ν18, s7012, hg, ς⟩))
   ·exact sq φ (Fr.cons φ.fr0 (φ.at_ 1 1 18 _ rfl hd1)) ς (r_fieldB (r := 1) fl_214_1 rfl rfl rfl) 2 rfl rfl rfl rfl rfl rfl fun a hg => Or.inr (Or.inr (Or.inl (⟨un rfl ν12, un rfl ν16, un rfl ν18, s7012, u7016, hg, ς⟩)))
   ·exact no_way (cA hcl 18 2 rfl ν18) hSi
  ·obtain rfl : _ = o := Option.some.inj ho
   have hd2 : S 2 = true := depAt hdep 0 rfl rfl
   rcases hI with ⟨ν12, ν16, ν18, φ, ς⟩ | ⟨ν12, ν16, ν18, s7012, φ, ς⟩ | ⟨ν12, ν16, ν18, s7012, u7016, φ, ς⟩ | ⟨_, _, ν18, _⟩
   ·exact sq φ (Fr.cons φ.fr0 (φ.at_ 2 2 19 _ rfl hd2)) ς (r_ldb (i := 1) ti_212 rfl rfl rfl rfl) 3 rfl rfl rfl rfl rfl rfl fun a hg => Or.inl (⟨un rfl ν12, un rfl ν16, un rfl ν18, hg, ς⟩)
   ·exact sq φ (Fr.cons φ.fr0 (φ.at_ 2 2 19 _ rfl hd2)) ς (r_ldb (i := 2) ti_212 rfl rfl rfl rfl) 3 rfl rfl rfl rfl rfl rfl fun a hg => Or.inr (Or.inl (⟨un rfl ν12, un rfl ν16, un rfl ν18, s7012, hg, ς⟩))
   ·exact sq φ (Fr.cons φ.fr0 (φ.at_ 2 2 19 _ rfl hd2)) ς (r_ldb (i := 2) ti_212 rfl rfl rfl rfl) 3 rfl rfl rfl rfl rfl rfl fun a hg => Or.inr (Or.inr (Or.inl (⟨un rfl ν12, un rfl ν16, un rfl ν18, s7012, u7016, hg, ς⟩)))
   ·exact no_way (cA hcl 18 3 rfl ν18) hSi
  ·obtain rfl : _ = o := Option.some.inj ho
   rcases hI with ⟨ν12, ν16, ν18, φ, ς⟩ | ⟨ν12, ν16, ν18, s7012, φ, ς⟩ | ⟨ν12, ν16, ν18, s7012, u7016, φ, ς⟩ | ⟨_, _, ν18, _⟩
   ·exact sq φ φ.fr0 ς (r_move rfl rfl) 4 rfl rfl rfl rfl rfl rfl fun a hg => Or.inl (⟨un rfl ν12, un rfl ν16, un rfl ν18, hg, ς⟩)
   ·exact sq φ φ.fr0 ς (r_move rfl rfl) 4 rfl rfl rfl rfl rfl rfl fun a hg => Or.inr (Or.inl (⟨un rfl ν12, un rfl ν16, un rfl ν18, s7012, hg, ς⟩))
   ·exact sq φ φ.fr0 ς (r_move rfl rfl) 4 rfl rfl rfl rfl rfl rfl fun a hg => Or.inr (Or.inr (Or.inl (⟨un rfl ν12, un rfl ν16, un rfl ν18, s7012, u7016, hg, ς⟩)))
   ·exact no_way (cA hcl 18 4 rfl ν18) hSi
  ·obtain rfl : _ = o := Option.some.inj ho
   rcases hI with ⟨ν12, ν16, ν18, φ, ς⟩ | ⟨ν12, _⟩ | ⟨ν12, _⟩ | ⟨ν12, _⟩
   ·exact sq φ φ.fr0 ς (r_move rfl rfl) 5 rfl rfl rfl rfl rfl rfl fun a hg => Or.inl (⟨un rfl ν12, un rfl ν16, un rfl ν18, hg, ς⟩)
   ·exact no_way (cA hcl 12 5 rfl ν12) hSi
   ·exact no_way (cA hcl 12 5 rfl ν12) hSi
   ·exact no_way (cA hcl 12 5 rfl ν12) hSi
  ·obtain rfl : _ = o := Option.some.inj ho
   have hd5 : S 5 = true := depAt hdep 0 rfl rfl
   rcases hI with ⟨ν12, ν16, ν18, φ, ς⟩ | ⟨ν12, _⟩ | ⟨ν12, _⟩ | ⟨ν12, _⟩
   ·exact sq φ (Fr.cons φ.fr0 (φ.at_ 5 5 22 _ rfl hd5)) ς (r_nil rfl rfl) 6 rfl rfl rfl rfl rfl rfl fun a hg => Or.inl (⟨un rfl ν12, un rfl ν16, un rfl ν18, hg, ς⟩)
   ·exact no_way (cA hcl 12 6 rfl ν12) hSi
   ·exact no_way (cA hcl 12 6 rfl ν12) hSi
   ·exact no_way (cA hcl 12 6 rfl ν12) hSi
  ·obtain rfl : _ = o := Option.some.inj ho
   have hd6 : S 6 = true := depAt hdep 0 rfl rfl
   rcases hI with ⟨ν12, ν16, ν18, φ, ς⟩ | ⟨ν12, _⟩ | ⟨ν12, _⟩ | ⟨ν12, _⟩
   ·exact sq φ (Fr.cons φ.fr0 (φ.at_ 6 6 23 _ rfl hd6)) ς (r_fieldB (r := 1) fl_214_1 rfl rfl rfl) 7 rfl rfl rfl rfl rfl rfl fun a hg => Or.inl (⟨un rfl ν12, un rfl ν16, un rfl ν18, hg, ς⟩)
   ·exact no_way (cA hcl 12 7 rfl ν12) hSi
   ·exact no_way (cA hcl 12 7 rfl ν12) hSi
   ·exact no_way (cA hcl 12 7 rfl ν12) hSi
  ·obtain rfl : _ = o := Option.some.inj ho
   have hd7 : S 7 = true := depAt hdep 0 rfl rfl
   rcases hI with ⟨ν12, ν16, ν18, φ, ς⟩ | ⟨ν12, _⟩ | ⟨ν12, _⟩ | ⟨ν12, _⟩
   ·exact sq φ (Fr.cons φ.fr0 (φ.at_ 7 7 24 _ rfl hd7)) ς (r_ldb (i := 1) ti_212 rfl rfl rfl rfl) 8 rfl rfl rfl rfl rfl rfl fun a hg => Or.inl (⟨un rfl ν12, un rfl ν16, un rfl ν18, hg, ς⟩)
   ·exact no_way (cA hcl 12 8 rfl ν12) hSi
   ·exact no_way (cA hcl 12 8 rfl ν12) hSi
   ·exact no_way (cA hcl 12 8 rfl ν12) hSi
  ·obtain rfl : _ = o := Option.some.inj ho
   rcases hI with ⟨ν12, ν16, ν18, φ, ς⟩ | ⟨ν12, _⟩ | ⟨ν12, _⟩ | ⟨ν12, _⟩
   ·exact sq φ φ.fr0 ς (r_move rfl rfl) 9 rfl rfl rfl rfl rfl rfl fun a hg => Or.inl (⟨un rfl ν12, un rfl ν16, un rfl ν18, hg, ς⟩)
   ·exact no_way (cA hcl 12 9 rfl ν12) hSi
   ·exact no_way (cA hcl 12 9 rfl ν12) hSi
   ·exact no_way (cA hcl 12 9 rfl ν12) hSi
  ·obtain rfl : _ = o := Option.some.inj ho
   have hd8 : S 8 = true := depAt hdep 0 rfl rfl
   have hd9 : S 9 = true := depAt hdep 1 rfl rfl
   rcases hI with ⟨ν12, ν16, ν18, φ, ς⟩ | ⟨ν12, _⟩ | ⟨ν12, _⟩ | ⟨ν12, _⟩
   ·exact sq φ (Fr.cons (Fr.cons φ.fr0 (φ.at_ 8 8 25 _ rfl hd8)) (φ.at_ 9 9 26 _ rfl hd9)) ς (r_ixN (s := (⟨v9, rvs M⟩ : Ls RV)) (q := t) sl_212 ti_268 rfl rfl rfl (fun w h => (h.matAt 2 rfl)) (by rw [rvs_len]; exact (show t < M.length from (by omega)))) 10 rfl rfl rfl rfl rfl rfl fun a hg => Or.inl (⟨un rfl ν12, un rfl ν16, un rfl ν18, hg, ς⟩)
   ·exact no_way (cA hcl 12 10 rfl ν12) hSi
   ·exact no_way (cA hcl 12 10 rfl ν12) hSi
   ·exact no_way (cA hcl 12 10 rfl ν12) hSi
  ·obtain rfl : _ = o := Option.some.inj ho
   have hd10 : S 10 = true := depAt hdep 0 rfl rfl
   rcases hI with ⟨ν12, ν16, ν18, φ, ς⟩ | ⟨ν12, _⟩ | ⟨ν12, _⟩ | ⟨ν12, _⟩
   ·exact sq φ (Fr.cons φ.fr0 (φ.at_ 10 10 27 _ rfl hd10)) ς (Rn.same (r_lde (s := (⟨v9, rvs M⟩ : Ls RV)) (i := t) (v := (nth (rvs M) t).v) ti_268 rfl rfl rfl (fun w h => h.matAt 2 rfl) (by rw [rvs_len]; exact (show t < M.length from (by omega))) (Nat.le_of_ble_eq_true rfl) rfl) (nth_rvs M t)) 11 rfl rfl rfl rfl rfl rfl fun a hg => Or.inl (⟨un rfl ν12, un rfl ν16, un rfl ν18, hg, ς⟩)
   ·exact no_way (cA hcl 12 11 rfl ν12) hSi
   ·exact no_way (cA hcl 12 11 rfl ν12) hSi
   ·exact no_way (cA hcl 12 11 rfl ν12) hSi
  ·obtain rfl : _ = o := Option.some.inj ho
   have hd11 : S 11 = true := depAt hdep 0 rfl rfl
   rcases hI with ⟨ν12, ν16, ν18, φ, ς⟩ | ⟨ν12, _⟩ | ⟨ν12, _⟩ | ⟨ν12, _⟩
   ·have hs := St.mk (Fr.cons φ.fr0 (φ.at_ 11 11 28 _ rfl hd11)) ς
    refine step_ex (x_call hs bd_196 rfl rfl rfl rfl rfl (cloneW_c (nth M t) _ (hs.sh.matRow 2 rfl t (show t < M.length from (by omega))) (by first | omega | (simp only [lens9]; omega)))) (wanted_none rfl _) ?_
    rintro a45 w45 ⟨_, ⟨s45, rfl, hs45⟩, hf45⟩ ⟨v0, ht45⟩
    have h45 := (⟨hf45, hs.sh.call hs45 (by intro A hA b hb; first | (simp at hA; done) | (simp at hA; subst hA; first | exact Flat.noRd hb | exact (hb : False).elim) | (simp at hA; rcases hA with rfl | rfl <;> first | exact Flat.noRd hb | exact (hb : False).elim))⟩ : St 55 K W a45 w45 _ _)
    clear hf45 hs45
    exact Or.inr (Or.inl (⟨upd_self _ _, un rfl ν16, un rfl ν18, s45, φ.stepW hcl hSi [0, 1, 2, 3, 4, 5, 6, 7, 8, 9, 10, 11, 12, 13, 14] (by kernel_rfl) (by kernel_rfl) ht45 h45.fr.defers (h45.fr.at_ 29 _ rfl) 15 rfl rfl rfl rfl, (h45.sh.sel (L' := [.own 267 (⟨s45.v, (nth M t).l⟩ : Ls Wt), .blk b14 267 [.bool ((nth ((nth M t).l) k).lock), .int .i64 ((nth ((nth M t).l) k).wh), .int .i64 ((nth ((nth M t).l) k).what)], .blk g1 214 [.pointer (some ⟨g0, 0, none⟩), v9], .big (matX (.own 267) 268 v9 M), .blk g0 205 [words.v, owner.v], .own 3 words, .own 3 owner]) [0, 1, 2, 3, 4, 5, 6] (by decide) ⟨rfl, rfl, rfl, rfl, rfl, rfl, rfl, trivial⟩)⟩))
   ·exact no_way ν12 hSi
   ·exact no_way ν12 hSi
   ·exact no_way ν12 hSi
  ·obtain rfl : _ = o := Option.some.inj ho
   rcases hI with ⟨ν12, ν16, ν18, φ, ς⟩ | ⟨ν12, ν16, ν18, s7012, φ, ς⟩ | ⟨_, ν16, _⟩ | ⟨_, ν16, _⟩
   ·exact sq φ φ.fr0 ς (r_move rfl rfl) 12 rfl rfl rfl rfl rfl rfl fun a hg => Or.inl (⟨un rfl ν12, un rfl ν16, un rfl ν18, hg, ς⟩)
   ·exact sq φ φ.fr0 ς (r_move rfl rfl) 12 rfl rfl rfl rfl rfl rfl fun a hg => Or.inr (Or.inl (⟨un rfl ν12, un rfl ν16, un rfl ν18, s7012, hg, ς⟩))
   ·exact no_way (cA hcl 16 13 rfl ν16) hSi
   ·exact no_way (cA hcl 16 13 rfl ν16) hSi
  ·obtain rfl : _ = o := Option.some.inj ho
   rcases hI with ⟨ν12, ν16, ν18, φ, ς⟩ | ⟨ν12, ν16, ν18, s7012, φ, ς⟩ | ⟨_, ν16, _⟩ | ⟨_, ν16, _⟩
   ·exact sq φ φ.fr0 ς (r_move rfl rfl) 13 rfl rfl rfl rfl rfl rfl fun a hg => Or.inl (⟨un rfl ν12, un rfl ν16, un rfl ν18, hg, ς⟩)
   ·exact sq φ φ.fr0 ς (r_move rfl rfl) 13 rfl rfl rfl rfl rfl rfl fun a hg => Or.inr (Or.inl (⟨un rfl ν12, un rfl ν16, un rfl ν18, s7012, hg, ς⟩))
   ·exact no_way (cA hcl 16 14 rfl ν16) hSi
   ·exact no_way (cA hcl 16 14 rfl ν16) hSi
  ·obtain rfl : _ = o := Option.some.inj ho
   have hd14 : S 14 = true := depAt hdep 0 rfl rfl
   rcases hI with ⟨ν12, ν16, ν18, φ, ς⟩ | ⟨ν12, ν16, ν18, s7012, φ, ς⟩ | ⟨_, ν16, _⟩ | ⟨_, ν16, _⟩
   ·exact sq φ (Fr.cons φ.fr0 (φ.at_ 13 14 31 _ rfl hd14)) ς (r_addN (p := k) (q := 1) rfl rfl rfl (show k + 1 < 9223372036854775808 from (by omega))) 14 rfl rfl rfl rfl rfl rfl fun a hg => Or.inl (⟨un rfl ν12, un rfl ν16, un rfl ν18, hg, ς⟩)
   ·exact sq φ (Fr.cons φ.fr0 (φ.at_ 13 14 31 _ rfl hd14)) ς (r_addN (p := k) (q := 1) rfl rfl rfl (show k + 1 < 9223372036854775808 from (by omega))) 14 rfl rfl rfl rfl rfl rfl fun a hg => Or.inr (Or.inl (⟨un rfl ν12, un rfl ν16, un rfl ν18, s7012, hg, ς⟩))
   ·exact no_way (cA hcl 16 15 rfl ν16) hSi
   ·exact no_way (cA hcl 16 15 rfl ν16) hSi
  ·obtain rfl : _ = o := Option.some.inj ho
   have hd12 : S 12 = true := depAt hdep 0 rfl rfl
   have hd13 : S 13 = true := depAt hdep 1 rfl rfl
   have hd15 : S 15 = true := depAt hdep 2 rfl rfl
   rcases hI with ⟨ν12, _⟩ | ⟨ν12, ν16, ν18, s7012, φ, ς⟩ | ⟨_, ν16, _⟩ | ⟨_, ν16, _⟩
   ·exact no_way hd12 ν12
   ·have hs := St.mk (Fr.cons (Fr.cons (Fr.cons φ.fr0 (φ.at_ 15 12 29 _ rfl hd12)) (φ.at_ 12 13 30 _ rfl hd13)) (φ.at_ 14 15 32 _ rfl hd15)) ς
    have hp52 := hs.sh.passL (Lp := [.own 267 (⟨s7012.v, (nth M t).l⟩ : Ls Wt)])
    refine step_ex (x_call hs bd_195 rfl rfl rfl rfl rfl (deleteW_c _ (⟨s7012.v, (nth M t).l⟩ : Ls Wt) k (k + 1) _ hp52 (by first | omega | (simp only [lens9]; omega)))) (wanted_none rfl _) ?_
    rintro a53 w53 ⟨_, ⟨u53, rfl, hs53⟩, hf53⟩ ⟨v0, ht53⟩
    have h53 : St 55 K W a53 w53 _ [.own 267 (⟨u53.v, ((nth M t).l).take k ++ ((nth M t).l).drop (k + 1)⟩ : Ls Wt), .blk b14 267 [.bool ((nth ((nth M t).l) k).lock), .int .i64 ((nth ((nth M t).l) k).wh), .int .i64 ((nth ((nth M t).l) k).what)], .blk g1 214 [.pointer (some ⟨g0, 0, none⟩), v9], .big (matX (.own 267) 268 v9 M), .blk g0 205 [words.v, owner.v], .own 3 words, .own 3 owner] := ⟨hf53, hs.sh.backL (Lp := [.own 267 (⟨s7012.v, (nth M t).l⟩ : Ls Wt)]) hs53 (by intro A hA b hb; simp only [List.mem_cons, List.not_mem_nil, or_false] at hA; rcases hA with rfl <;> first | exact (hb : False).elim | exact Flat.noRd hb | exact .inl ⟨_, List.mem_cons_self .., .inr hb⟩ | exact .inl ⟨_, by simp, .inr hb⟩)⟩
    clear hf53 hs53
    exact Or.inr (Or.inr (Or.inl (⟨un rfl ν12, upd_self _ _, un rfl ν18, s7012, u53, φ.stepW hcl hSi [0, 1, 2, 3, 4, 5, 6, 7, 8, 9, 10, 11, 12, 13, 14, 15] (by kernel_rfl) (by kernel_rfl) ht53 h53.fr.defers (h53.fr.at_ 33 _ rfl) 16 rfl rfl rfl rfl, (h53.sh.sel (L' := [.own 267 (⟨u53.v, ((nth M t).l).take k ++ ((nth M t).l).drop (k + 1)⟩ : Ls Wt), .blk b14 267 [.bool ((nth ((nth M t).l) k).lock), .int .i64 ((nth ((nth M t).l) k).wh), .int .i64 ((nth ((nth M t).l) k).what)], .blk g1 214 [.pointer (some ⟨g0, 0, none⟩), v9], .big (matX (.own 267) 268 v9 M), .blk g0 205 [words.v, owner.v], .own 3 words, .own 3 owner]) [0, 1, 2, 3, 4, 5, 6] (by decide) ⟨rfl, rfl, rfl, rfl, rfl, rfl, rfl, trivial⟩)⟩)))
   ·exact no_way ν16 hSi
   ·exact no_way ν16 hSi
  ·obtain rfl : _ = o := Option.some.inj ho
   have hd3 : S 3 = true := depAt hdep 0 rfl rfl
   have hd4 : S 4 = true := depAt hdep 1 rfl rfl
   have hd12 : S 12 = true := depAt hdep 14 rfl rfl
   have hd16 : S 16 = true := depAt hdep 18 rfl rfl
   rcases hI with ⟨ν12, _⟩ | ⟨_, ν16, _⟩ | ⟨ν12, ν16, ν18, s7012, u7016, φ, ς⟩ | ⟨_, _, ν18, _⟩
   ·exact no_way hd12 ν12
   ·exact no_way hd16 ν16
   ·exact sq φ (Fr.cons (Fr.cons φ.fr0 (φ.at_ 3 3 20 _ rfl hd3)) (φ.at_ 4 4 21 _ rfl hd4)) ς (r_ixN (s := (⟨v9, rvs M⟩ : Ls RV)) (q := t) sl_212 ti_268 rfl rfl rfl (fun w h => (h.matAt 3 rfl)) (by rw [rvs_len]; exact (show t < M.length from (by omega)))) 17 rfl rfl rfl rfl rfl rfl fun a hg => Or.inr (Or.inr (Or.inl (⟨un rfl ν12, un rfl ν16, un rfl ν18, s7012, u7016, hg, ς⟩)))
   ·exact no_way (cA hcl 18 17 rfl ν18) hSi
  ·obtain rfl : _ = o := Option.some.inj ho
   have hd17 : S 17 = true := depAt hdep 0 rfl rfl
   have hd16 : S 16 = true := depAt hdep 1 rfl rfl
   have hd12 : S 12 = true := depAt hdep 15 rfl rfl
   rcases hI with ⟨ν12, _⟩ | ⟨_, ν16, _⟩ | ⟨ν12, ν16, ν18, s7012, u7016, φ, ς⟩ | ⟨_, _, ν18, _⟩
   ·exact no_way hd12 ν12
   ·exact no_way hd16 ν16
   ·have hs := St.mk (Fr.cons (Fr.cons φ.fr0 (φ.at_ 16 16 33 _ rfl hd16)) (φ.at_ 17 17 34 _ rfl hd17)) ς
    have ha55 := (hs.sh.own 0 rfl)
    have h56 := hs.sel (L' := [.big (matX (.own 267) 268 v9 M), .own 267 (⟨u7016.v, ((nth M t).l).take k ++ ((nth M t).l).drop (k + 1)⟩ : Ls Wt), .blk b14 267 [.bool ((nth ((nth M t).l) k).lock), .int .i64 ((nth ((nth M t).l) k).wh), .int .i64 ((nth ((nth M t).l) k).what)], .blk g1 214 [.pointer (some ⟨g0, 0, none⟩), v9], .blk g0 205 [words.v, owner.v], .own 3 words, .own 3 owner]) [3, 0, 1, 2, 4, 5, 6] (by decide) ⟨rfl, rfl, rfl, rfl, rfl, rfl, rfl, trivial⟩
    refine step_ex (x_stMat (i := t) (s := (⟨u7016.v, ((nth M t).l).take k ++ ((nth M t).l).drop (k + 1)⟩ : Ls Wt)) h56 ti_268 rfl rfl rfl rfl (show t < M.length from (by omega)) ha55) (wanted_none rfl _) ?_
    rintro a57 w57 h57 ⟨v0, ht57⟩
    exact Or.inr (Or.inr (Or.inr (⟨un rfl ν12, un rfl ν16, upd_self _ _, s7012, u7016, φ.noneW hcl hSi [0, 1, 2, 3, 4, 5, 6, 7, 8, 9, 10, 11, 12, 13, 14, 15, 16, 17] (by kernel_rfl) (by kernel_rfl) ht57 h57.fr.defers rfl, (h57.sh.sel (L' := [.big (matX (.own 267) 268 v9 (M.set t (⟨u7016.v, ((nth M t).l).take k ++ ((nth M t).l).drop (k + 1)⟩ : Ls Wt))), .blk b14 267 [.bool ((nth ((nth M t).l) k).lock), .int .i64 ((nth ((nth M t).l) k).wh), .int .i64 ((nth ((nth M t).l) k).what)], .blk g1 214 [.pointer (some ⟨g0, 0, none⟩), v9], .blk g0 205 [words.v, owner.v], .own 3 words, .own 3 owner]) [0, 1, 2, 3, 4, 5] (by decide) ⟨rfl, rfl, rfl, rfl, rfl, rfl, trivial⟩)⟩)))
   ·exact no_way ν18 hSi
  · simp at ho
 intro S hall a w hI
 clear h17
 rcases hI with ⟨ν12, ν16, ν18, φ, ς⟩ | ⟨ν12, ν16, ν18, s7012, φ, ς⟩ | ⟨ν12, ν16, ν18, s7012, u7016, φ, ς⟩ | ⟨ν12, ν16, ν18, s7012, u7016, φ, ς⟩
 · exact no_way (hall 12 (by decide)) ν12
 · exact no_way (hall 16 (by decide)) ν16
 · exact no_way (hall 18 (by decide)) ν18
 have h58 : St 55 K W a w _ [.big (matX (.own 267) 268 v9 (M.set t (⟨u7016.v, ((nth M t).l).take k ++ ((nth M t).l).drop (k + 1)⟩ : Ls Wt))), .blk b14 267 [.bool ((nth ((nth M t).l) k).lock), .int .i64 ((nth ((nth M t).l) k).wh), .int .i64 ((nth ((nth M t).l) k).what)], .blk g1 214 [.pointer (some ⟨g0, 0, none⟩), v9], .blk g0 205 [words.v, owner.v], .own 3 words, .own 3 owner] := ⟨φ.fr0, ς⟩
 clear hall φ ς ν12 ν16 ν18
 refine hK16 _ _ <| wp_seq_k fun K59 hK59 => wp_region_lit <| wv h58 (r_fieldB (r := 0) fl_267_0 rfl rfl rfl) rfl rfl fun a60 h60 => wv h60 (r_ldb (i := 1) ti_4 rfl rfl rfl rfl) rfl rfl fun a61 h61 => wpList_nil <| hK59 _ _ <| x_cond h61 rfl (fun hb62 => ?_) (fun hb62 => ?_); clear h58 h60
 ·skip
  unfold WtOk at hx
  rw [if_pos (by assumption)] at hx
  refine x_tail 7 [] (by kernel_rfl) (by kernel_rfl) h61 fun Z63 hZ63 => ?_
  have hq63 := h61.fr
  refine wq_val hq63 (r_move rfl rfl) (wanted_none rfl _) rfl rfl fun a64 hq64 => wq_val hq64 (r_nil rfl rfl) (wanted_none rfl _) rfl rfl fun a65 hq65 => wq_val hq65 (r_fieldB (r := 0) fl_214_0 rfl rfl rfl) (wanted_none rfl _) rfl rfl fun a66 hq66 => wq_val hq66 (r_ldb (i := 2) ti_116 rfl rfl rfl rfl) (wanted_none rfl _) rfl rfl fun a67 hq67 => wq_val hq67 (r_move rfl rfl) (wanted_none rfl _) rfl rfl fun a68 hq68 => wq_val hq68 (r_fieldB (r := 1) fl_267_1 rfl rfl rfl) (wanted_none rfl _) rfl rfl fun a69 hq69 => wq_val hq69 (r_ldb (i := 1) ti_3 rfl rfl rfl rfl) (wanted_none rfl _) rfl rfl fun a70 hq70 => wpQuiet_nil (hZ63 _ fun w71 hw71 => ?_); clear hq63 hq64 hq65 hq66 hq67 hq68 hq69
  have h71 : St 55 K W a70 w71 _ _ := ⟨hq70, hw71⟩
  clear hq70 hw71 h61
  have h72 := h71.sel (L' := [.blk g0 205 [words.v, owner.v], .own 3 words, .own 3 owner, .big (matX (.own 267) 268 v9 (M.set t (⟨u7016.v, ((nth M t).l).take k ++ ((nth M t).l).drop (k + 1)⟩ : Ls Wt))), .blk b14 267 [.bool ((nth ((nth M t).l) k).lock), .int .i64 ((nth ((nth M t).l) k).wh), .int .i64 ((nth ((nth M t).l) k).what)], .blk g1 214 [.pointer (some ⟨g0, 0, none⟩), v9]]) [3, 4, 5, 0, 1, 2] (by decide) ⟨rfl, rfl, rfl, rfl, rfl, rfl, trivial⟩
  have hp73 := h72.sh.passL (Lp := [.blk g0 205 [words.v, owner.v], .own 3 words, .own 3 owner])
  refine wl_ex (x_call h72 bd_181 rfl rfl rfl rfl rfl (plFree_c _ g0 words owner ((t : Nat) : Int) ((nth ((nth M t).l) k).wh) 0 _ hp73 hx)) (wanted_none rfl _) ?_
  rintro a74 w74 ⟨_, ⟨rfl, hs74⟩, hf74⟩
  have h74 : St 55 K W a74 w74 _ [.blk g0 205 [words.v, owner.v], .own 3 (⟨words.v, words.l⟩ : Ls Int), .own 3 (⟨owner.v, owner.l.set ((nth ((nth M t).l) k).wh).toNat (-1)⟩ : Ls Int), .big (matX (.own 267) 268 v9 (M.set t (⟨u7016.v, ((nth M t).l).take k ++ ((nth M t).l).drop (k + 1)⟩ : Ls Wt))), .blk b14 267 [.bool ((nth ((nth M t).l) k).lock), .int .i64 ((nth ((nth M t).l) k).wh), .int .i64 ((nth ((nth M t).l) k).what)], .blk g1 214 [.pointer (some ⟨g0, 0, none⟩), v9]] := ⟨hf74, h72.sh.backL (Lp := [.blk g0 205 [words.v, owner.v], .own 3 words, .own 3 owner]) hs74 (by intro A hA b hb; simp only [List.mem_cons, List.not_mem_nil, or_false] at hA; rcases hA with rfl | rfl | rfl <;> first | exact (hb : False).elim | exact Flat.noRd hb | exact .inl ⟨_, List.mem_cons_self .., .inr hb⟩ | exact .inl ⟨_, by simp, .inr hb⟩)⟩
  clear hf74 hs74
  clear h72
  refine wpList_nil ?_
  try simp only [Exit.then, Exit.inBlock, if_true]
  refine x_end0 (fn := Try.f188) rfl h74 ?_
  first | rw [if_pos (by assumption), if_pos (by assumption)] | rw [if_neg (by rw [show (nth (nth M t).l k).lock = false by assumption]; decide), if_neg (by rw [show (nth (nth M t).l k).lock = false by assumption]; decide)]
  exact ⟨rfl, (⟨u7016.v, ((nth M t).l).take k ++ ((nth M t).l).drop (k + 1)⟩ : Ls Wt), (eraseIdx_td _ _).symm, (h74.sh.sel (L' := [.blk g1 214 [.pointer (some ⟨g0, 0, none⟩), v9], .big (matX (.own 267) 268 v9 (M.set t (⟨u7016.v, ((nth M t).l).take k ++ ((nth M t).l).drop (k + 1)⟩ : Ls Wt))), .blk g0 205 [words.v, owner.v], .own 3 (⟨words.v, words.l⟩ : Ls Int), .own 3 (⟨owner.v, owner.l.set ((nth ((nth M t).l) k).wh).toNat (-1)⟩ : Ls Int)]) [5, 3, 0, 1, 2] (by decide) ⟨rfl, rfl, rfl, rfl, rfl, trivial⟩)⟩
 unfold WtOk at hx
 rw [if_neg (by rw [show (nth (nth M t).l k).lock = false by assumption]; decide)] at hx
 refine x_tail 9 [] (by kernel_rfl) (by kernel_rfl) h61 fun Z75 hZ75 => ?_
 have hq75 := h61.fr
 refine wq_val hq75 (r_move rfl rfl) (wanted_none rfl _) rfl rfl fun a76 hq76 => wq_val hq76 (r_nil rfl rfl) (wanted_none rfl _) rfl rfl fun a77 hq77 => wq_val hq77 (r_fieldB (r := 0) fl_214_0 rfl rfl rfl) (wanted_none rfl _) rfl rfl fun a78 hq78 => wq_val hq78 (r_ldb (i := 2) ti_116 rfl rfl rfl rfl) (wanted_none rfl _) rfl rfl fun a79 hq79 => wq_val hq79 (r_move rfl rfl) (wanted_none rfl _) rfl rfl fun a80 hq80 => wq_val hq80 (r_fieldB (r := 1) fl_267_1 rfl rfl rfl) (wanted_none rfl _) rfl rfl fun a81 hq81 => wq_val hq81 (r_ldb (i := 1) ti_3 rfl rfl rfl rfl) (wanted_none rfl _) rfl rfl fun a82 hq82 => wq_val hq82 (r_fieldB (r := 2) fl_267_2 rfl rfl rfl) (wanted_none rfl _) rfl rfl fun a83 hq83 => wq_val hq83 (r_ldb (i := 1) ti_3 rfl rfl rfl rfl) (wanted_none rfl _) rfl rfl fun a84 hq84 => wpQuiet_nil (hZ75 _ fun w85 hw85 => ?_); clear hq75 hq76 hq77 hq78 hq79 hq80 hq81 hq82 hq83
 have h85 : St 55 K W a84 w85 _ _ := ⟨hq84, hw85⟩
 clear hq84 hw85 h61
 have h86 := h85.sel (L' := [.blk g0 205 [words.v, owner.v], .own 3 words, .own 3 owner, .big (matX (.own 267) 268 v9 (M.set t (⟨u7016.v, ((nth M t).l).take k ++ ((nth M t).l).drop (k + 1)⟩ : Ls Wt))), .blk b14 267 [.bool ((nth ((nth M t).l) k).lock), .int .i64 ((nth ((nth M t).l) k).wh), .int .i64 ((nth ((nth M t).l) k).what)], .blk g1 214 [.pointer (some ⟨g0, 0, none⟩), v9]]) [3, 4, 5, 0, 1, 2] (by decide) ⟨rfl, rfl, rfl, rfl, rfl, rfl, trivial⟩
 have hp87 := h86.sh.passL (Lp := [.blk g0 205 [words.v, owner.v], .own 3 words, .own 3 owner])
 refine wl_ex (x_call h86 bd_185 rfl rfl rfl rfl rfl (plStore_c _ g0 words owner ((t : Nat) : Int) ((nth ((nth M t).l) k).wh) ((nth ((nth M t).l) k).what) _ hp87 hx)) (wanted_none rfl _) ?_
 rintro a88 w88 ⟨_, ⟨rfl, hs88⟩, hf88⟩
 have h88 : St 55 K W a88 w88 _ [.blk g0 205 [words.v, owner.v], .own 3 (⟨words.v, words.l.set ((nth ((nth M t).l) k).wh).toNat ((nth ((nth M t).l) k).what)⟩ : Ls Int), .own 3 (⟨owner.v, owner.l⟩ : Ls Int), .big (matX (.own 267) 268 v9 (M.set t (⟨u7016.v, ((nth M t).l).take k ++ ((nth M t).l).drop (k + 1)⟩ : Ls Wt))), .blk b14 267 [.bool ((nth ((nth M t).l) k).lock), .int .i64 ((nth ((nth M t).l) k).wh), .int .i64 ((nth ((nth M t).l) k).what)], .blk g1 214 [.pointer (some ⟨g0, 0, none⟩), v9]] := ⟨hf88, h86.sh.backL (Lp := [.blk g0 205 [words.v, owner.v], .own 3 words, .own 3 owner]) hs88 (by intro A hA b hb; simp only [List.mem_cons, List.not_mem_nil, or_false] at hA; rcases hA with rfl | rfl | rfl <;> first | exact (hb : False).elim | exact Flat.noRd hb | exact .inl ⟨_, List.mem_cons_self .., .inr hb⟩ | exact .inl ⟨_, by simp, .inr hb⟩)⟩
 clear hf88 hs88
 clear h86
 refine wpList_nil ?_
 try simp only [Exit.then, Exit.inBlock, if_true]
 refine x_end0 (fn := Try.f188) rfl h88 ?_
 first | rw [if_pos (by assumption), if_pos (by assumption)] | rw [if_neg (by rw [show (nth (nth M t).l k).lock = false by assumption]; decide), if_neg (by rw [show (nth (nth M t).l k).lock = false by assumption]; decide)]
 exact ⟨rfl, (⟨u7016.v, ((nth M t).l).take k ++ ((nth M t).l).drop (k + 1)⟩ : Ls Wt), (eraseIdx_td _ _).symm, (h88.sh.sel (L' := [.blk g1 214 [.pointer (some ⟨g0, 0, none⟩), v9], .big (matX (.own 267) 268 v9 (M.set t (⟨u7016.v, ((nth M t).l).take k ++ ((nth M t).l).drop (k + 1)⟩ : Ls Wt))), .blk g0 205 [words.v, owner.v], .own 3 (⟨words.v, words.l.set ((nth ((nth M t).l) k).wh).toNat ((nth ((nth M t).l) k).what)⟩ : Ls Int), .own 3 (⟨owner.v, owner.l⟩ : Ls Int)]) [5, 3, 0, 1, 2] (by decide) ⟨rfl, rfl, rfl, rfl, rfl, trivial⟩)⟩

end Go.Proofs.Ytfpaahkleienoaa
