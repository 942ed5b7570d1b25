/-
  Contracts of functions of this program and of the references, each walked once.
-/
import Derived.Test.YtanhbpofhebbaaaX41
namespace Go.Proofs.Ytanhbpofhebbaaa
open Go.RowKit
set_option linter.unusedSimpArgs false
set_option linter.unusedVariables false


theorem Sh.holeAt {K : Nat → Prop} {W w : World} {L : List Asn} {α : Type} {R : Ls α → Asn} {E : TypeId} {v : Value} {M : List (Ls α)} {q : Nat} (h : Sh K W w L) (i : Nat) (hi : L[i]? = some (.big (holeX R E v M q))) : (⟨v, rvs M⟩ : Ls RV).At w :=
  own_at (E := E) ((h.ok _ (List.mem_of_getElem? hi)).1 _ (List.mem_cons_self ..))
/-- May an event be? -/
def EvOk (n : Nat) (e : Ins) : Prop := 0 ≤ e.op ∧ e.op < 4 ∧ 0 ≤ e.a ∧ e.a < n ∧ (e.b = 1 ∨ e.b = 2)
structure OkH (ws : List Int) (es : List Ins) : Prop where
  words : ws.length ≤ 64
  evs : es.length ≤ 12
  ok : ∀ i, i < es.length → EvOk ws.length (nth es i)
def rowE (es : List Ins) (t : Nat) : List Ins := es.filter fun e => decide (e.op = (t : Int))
def thrE (es : List Ins) : List (List Ins) := (List.range 4).map (rowE es)
def mayB (ws : List Int) (es : List Ins) : Bool := can (thrE es) [0, 0, 0, 0] ws
theorem take_stepE {es : List Ins} {i : Nat} (h : i < es.length) : es.take (i + 1) = es.take i ++ [nth es i] := by
  rw [List.take_add_one, List.getElem?_eq_getElem h, nth_lt _ _ h]; rfl
theorem rowE_step {es : List Ins} {i t : Nat} (h : i < es.length) : rowE (es.take (i + 1)) t = rowE (es.take i) t ++ if (nth es i).op = (t : Int) then [nth es i] else [] := by
  unfold rowE
  rw [take_stepE h, List.filter_append]
  congr 1
  by_cases e : (nth es i).op = (t : Int)
  · simp [e]
  · simp [e]
theorem rows_next {es : List Ins} {i : Nat} {M : List (Ls Ins)} {u : Value} (hM : M.length = 4) (hi : i < es.length) (h0 : 0 ≤ (nth es i).op ∧ (nth es i).op < 4) (h : ∀ t, t < 4 → (nth M t).l = rowE (es.take i) t) :
    ∀ t, t < 4 → (nth (M.set (nth es i).op.toNat ⟨u, (nth M (nth es i).op.toNat).l ++ [nth es i]⟩) t).l = rowE (es.take (i + 1)) t := by
  intro t ht
  rw [rowE_step hi, nth_set]
  split
  · rename_i e; obtain ⟨rfl, _⟩ := e
    rw [if_pos (by omega)]
    show (nth M _).l ++ _ = _
    rw [h _ ht]
  · rename_i e
    rw [if_neg (fun e2 => e ⟨by omega, by omega⟩), List.append_nil]
    exact h t ht
theorem lens_next {i : Nat} {M : List (Ls Ins)} {u : Value} {e : Ins} (h0 : 0 ≤ e.op ∧ e.op < 4) (h : ∀ t, t < 4 → (nth M t).l.length ≤ i) : ∀ t, t < 4 → (nth (M.set e.op.toNat ⟨u, (nth M e.op.toNat).l ++ [e]⟩) t).l.length ≤ i + 1 := by
  intro t ht
  rw [nth_set]
  split
  · have := h e.op.toNat (by omega)
    simp only [List.length_append, List.length_singleton]
    omega
  · have := h t ht
    omega
theorem rowE_mem {es : List Ins} {t : Nat} {e : Ins} (h : e ∈ rowE es t) : e ∈ es := (List.mem_filter.1 h).1
theorem rowE_sum : ∀ es : List Ins, (rowE es 0).length + (rowE es 1).length + (rowE es 2).length + (rowE es 3).length ≤ es.length
  | [] => by simp [rowE]
  | e :: es => by
    have ih := rowE_sum es
    have key : ∀ t : Nat, (rowE (e :: es) t).length = (rowE es t).length + if e.op = (t : Int) then 1 else 0 := fun t => by
      unfold rowE
      rw [List.filter_cons]
      by_cases h : e.op = (t : Int)
      · rw [if_pos h, decide_eq_true h, if_pos rfl, List.length_cons]
      · rw [if_neg h, decide_eq_false h, if_neg (by decide)]; rfl
    rw [key, key, key, key, List.length_cons]
    have : (if e.op = ((0 : Nat) : Int) then 1 else 0) + (if e.op = ((1 : Nat) : Int) then 1 else 0) + (if e.op = ((2 : Nat) : Int) then 1 else 0) + (if e.op = ((3 : Nat) : Int) then 1 else 0) ≤ 1 := by
      repeat' split
      all_goals omega
    omega
theorem bnd_mono : ∀ {a b : Nat}, a ≤ b → bnd a ≤ bnd b
  | 0, 0, _ => Nat.le_refl _
  | 0, b + 1, _ => by rw [bnd, bnd]; omega
  | a + 1, 0, h => by omega
  | a + 1, b + 1, h => by have := bnd_mono (a := a) (b := b) (by omega); rw [bnd, bnd]; omega
section
variable {es : List Ins} {ws : List Int} {M : List (Ls Ins)} {v : Value}
theorem hok_of (h : OkH ws es) (hM : M.length = 4) (hr : ∀ t, t < 4 → (nth M t).l = rowE es t) : HOk ⟨v, M⟩ ws.length := by
  have hs := rowE_sum es
  have he := h.evs
  refine ⟨hM, fun t ht i hi => ?_, fun t ht => ?_, by have := h.words; omega⟩
  · show (0 ≤ (nth (nth M t).l i).a ∧ _) ∧ _
    have hi : i < (nth M t).l.length := hi
    have hm := nth_mem _ _ hi
    rw [hr t ht] at hm ⊢
    obtain ⟨j, hj, e⟩ := List.mem_iff_getElem.1 (rowE_mem hm)
    have := h.ok j hj
    rw [nth_lt _ _ hj, e] at this
    obtain ⟨_, _, h1, h2, h3⟩ := this
    exact ⟨⟨h1, h2⟩, h3⟩
  · show (nth M t).l.length ≤ 100
    rw [hr t ht]
    rcases (by omega : t = 0 ∨ t = 1 ∨ t = 2 ∨ t = 3) with rfl | rfl | rfl | rfl <;> omega
theorem pok_zero (hM : M.length = 4) : POk ⟨v, M⟩ [0, 0, 0, 0] := ⟨rfl, fun t ht => by rcases (by omega : t = 0 ∨ t = 1 ∨ t = 2 ∨ t = 3) with rfl | rfl | rfl | rfl <;> exact Nat.zero_le _⟩
theorem thr_of (hM : M.length = 4) (hr : ∀ t, t < 4 → (nth M t).l = rowE es t) : thr ⟨v, M⟩ = thrE es := by
  unfold thr thrE
  apply List.ext_getElem (by simp [hM])
  intro i h1 h2
  have h4 : i < 4 := by simpa using h2
  have := hr i h4
  rw [nth_lt _ _ (by omega)] at this
  simpa using this
theorem rest_few (h : OkH ws es) : restN (thrE es) [0, 0, 0, 0] ≤ 12 := by
  have hs := rowE_sum es
  have he := h.evs
  have : restN (thrE es) [0, 0, 0, 0] = (rowE es 0).length + (rowE es 1).length + (rowE es 2).length + (rowE es 3).length := by
    simp [restN, thrE, sumTo, nth, List.range_succ]
  omega
theorem room_zero (h : OkH ws es) (hM : M.length = 4) (hr : ∀ t, t < 4 → (nth M t).l = rowE es t) : cntM [] + bnd (restN (thr ⟨v, M⟩) [0, 0, 0, 0]) ≤ 1099511627776 := by
  rw [thr_of hM hr]
  have := bnd_mono (rest_few h)
  have e : bnd 12 = 22369621 := by decide +kernel
  have e2 : cntM [] = 0 := rfl
  omega
end
theorem seen_zero (T : List (List Ins)) (d : Nat) : SeenOK T [] d := fun k l ⟨x, hx, _⟩ => by cases hx
theorem keys_zero : KeysOK [] := fun x hx => by cases hx

set_option maxRecDepth 100000 in
set_option maxHeartbeats 8000000 in
theorem may_k (ws : Ls Int) (es : Ls Ins) (W : World) (hw : ws.At W) (he : es.At W) (hok : OkH ws.l es.l) :
    Rets Try.prog 21 [ws.v, es.v] W (fun v w' => v = .tuple #[.bool (mayB ws.l es.l), .agg #[.int .i64 0, .int .i64 0, .int .i64 0]] ∧ Sh0 W w' []) := by
 have hk1 := hok.words
 have hk2 := hok.evs
 refine x_enter (N := 86) Try.func21 rfl Try.ntmps21 (Nat.le_of_ble_eq_true rfl) fun a1 hf1 => ?_
 have h1 : St 86 (fun _ => False) W a1 W [(0, ws.v), (1, es.v)] [.at_ ws, .at_ es] := ⟨hf1.sub ⟨rfl, rfl, trivial⟩, Sh0.ext2 hw he⟩
 clear hf1
 refine wp_seq_k fun K2 hK2 => wp_region_lit ?_
 refine wms 1 h1 rfl fun a3 h3 => ?_; clear h1
 refine wl_ex (x_alloc h3 ti_31 rfl rfl rfl) (wanted_none rfl _) ?_
 rintro a4 w4 ⟨b4, h4⟩; clear h3
 refine wpList_nil (hK2 _ _ ?_)
 refine wp_seq_k fun K5 hK5 => ?_
 refine wp_seq_k fun K6 hK6 => wp_region_lit ?_
 refine wms 1 h4 rfl fun a7 h7 => ?_; clear h4
 have hl8 : ws.l.length ≤ 140737488355328 := (h7.sh.at 1 rfl).len
 refine wv h7 (r_len (s := ws) (n := ws.l.length) sl_24 rfl rfl (fun w h => (h.at 1 rfl)) rfl) rfl rfl fun a9 h9 => ?_; clear h7
 refine wv h9 (r_gtrN (p := ws.l.length) (q := 64) rfl rfl rfl) rfl rfl fun a10 h10 => ?_; clear h9
 refine wms 1 h10 rfl fun a11 h11 => ?_; clear h10
 refine wl_val h11 (r_move rfl rfl) (wanted_yes h11.fr rfl rfl rfl rfl (decide_eq_false (by omega))) rfl rfl fun a12 h12 => ?_; clear h11
 have hl13 : es.l.length ≤ 140737488355328 := (h12.sh.at 2 rfl).len
 refine wl_val h12 (r_len (s := es) (n := es.l.length) sl_37 rfl rfl (fun w h => (h.at 2 rfl)) rfl) (wanted_yes h12.fr rfl rfl rfl rfl (decide_eq_false (by omega))) rfl rfl fun a14 h14 => ?_; clear h12
 refine wl_val h14 (r_gtrN (p := es.l.length) (q := 12) rfl rfl rfl) (wanted_yes h14.fr rfl rfl rfl rfl (decide_eq_false (by omega))) rfl rfl fun a15 h15 => ?_; clear h14
 refine wv h15 (r_pickF rfl rfl (decide_eq_false (by omega)) rfl) rfl rfl fun a16 h16 => ?_; clear h15
 refine wpList_nil (hK6 _ _ ?_)
 refine x_condF h16 rfl (decide_eq_false (by omega)) ?_
 refine wp_skip ?_
 refine hK5 _ _ ?_
 refine wp_seq_k fun K17 hK17 => wp_region_lit ?_
 refine wl_ex (x_makeMat (n := 4) h16 sl_87 ti_37 rfl rfl rfl (show 24 * 4 ≤ 140737488355328 ∧ 4 ≤ 140737488355328 from (by omega)) rfl rfl 36 Ins) (wanted_none rfl _) ?_
 rintro a18 w18 ⟨v18, h18⟩; clear h16
 refine wl_ex (x_makeMapB h18 mp_88.map rfl rfl rfl 24 (Ls Int)) (wanted_none rfl _) ?_
 rintro a19 w19 ⟨g19, h19⟩; clear h18
 refine wv h19 (r_build (cs := [v18, .map (some g19)]) rfl rfl (by obtain ⟨A20, n20, c20, (e20 : v18 = _)⟩ := ((h19.sh.matAt 1 rfl)).form; rw [e20]; kernel_rfl)) rfl rfl fun a21 h21 => ?_; clear h19
 refine wl_ex (x_box (cs := [v18, .map (some g19)]) h21 rfl rfl rfl rfl rfl) (wanted_none rfl _) ?_
 rintro a22 w22 ⟨b22, h22⟩; clear h21
 refine wms 1 h22 rfl fun a23 h23 => ?_; clear h22
 refine wpList_nil (hK17 _ _ ?_)
 refine wp_seq_k fun K24 hK24 => ?_
 refine wp_seq_k fun K25 hK25 => wp_region_lit ?_
 refine wms 1 h23 rfl fun a26 h26 => ?_; clear h23
 refine wv h26 (r_len (s := es) (n := es.l.length) sl_37 rfl rfl (fun w h => (h.at 5 rfl)) rfl) rfl rfl fun a27 h27 => ?_; clear h26
 refine wms 1 h27 rfl fun a28 h28 => ?_; clear h27
 refine wpList_nil (hK25 _ _ ?_)
 refine wp_block ?_
 refine x_loop (fun m a w => ∃ (i : Nat) (M : List (Ls Ins)), (i ≤ es.l.length) ∧ (M.length = 4) ∧ (∀ t, t < 4 → (nth M t).l = rowE (es.l.take i) t) ∧ (∀ t, t < 4 → (nth M t).l.length ≤ i) ∧ St 86 (fun _ => False) W a w [(0, ws.v), (5, .pointer (some ⟨b4, 0, none⟩)), (6, .pointer (some ⟨b22, 0, none⟩)), (22, es.v), (23, .int .i64 ((es.l.length : Nat) : Int)), (24, .int .i64 ((i : Nat) : Int))] [.blk b22 90 [v18, .map (some g19)], .big (seenX 24 g19 ([] : List (List Nat × Ls (Ls Int)))), .big (matX (.own 36) 37 v18 M), .blk b4 31 [.int .i64 0, .int .i64 0, .int .i64 0], .at_ ws, .at_ es] ∧ m = es.l.length - i) ⟨_, 0, List.replicate 4 ⟨.slice none 0 0, []⟩, (by omega), (rfl), (fun t ht => by rcases (by omega : t = 0 ∨ t = 1 ∨ t = 2 ∨ t = 3) with rfl | rfl | rfl | rfl <;> rfl), (fun t ht => by rcases (by omega : t = 0 ∨ t = 1 ∨ t = 2 ∨ t = 3) with rfl | rfl | rfl | rfl <;> exact Nat.le_refl _), h28.nrm ⟨rfl, rfl, rfl, rfl, rfl, rfl, trivial⟩ [0, 1, 2, 3, 4, 5] (by decide) ⟨rfl, rfl, rfl, rfl, rfl, rfl, trivial⟩, rfl⟩ ?_
 clear h28
 rintro m29 a29 w29 ⟨i, M, hi, hM, hrows0, hlen0, h29, hm29⟩
 refine wp_seq_k fun K30 hK30 => wp_region_lit ?_
 refine wv h29 (r_lssN (p := i) (q := es.l.length) rfl rfl rfl) rfl rfl fun a31 h31 => ?_; clear h29
 refine wpList_nil (hK30 _ _ ?_)
 refine wp_seq_k fun K32 hK32 => ?_
 refine x_cond h31 rfl (fun hb33 => ?_) (fun hb33 => ?_)
 ·
  have hp33 : i < es.l.length := of_decide_eq_true hb33
  refine wp_skip ?_
  refine hK32 _ _ ?_
  refine wp_seq_k fun K34 hK34 => ?_
  refine wp_block ?_
  refine wp_seq_k fun K35 hK35 => wp_region_lit ?_
  refine wms 1 h31 rfl fun a36 h36 => ?_; clear h31
  refine wv h36 (r_ixN (s := es) (q := i) sl_37 ti_36 rfl rfl rfl (fun w h => (h.at 5 rfl)) (show i < es.l.length from (by omega))) rfl rfl fun a37 h37 => ?_; clear h36
  refine wv h37 (r_ldew (s := es) (i := i) (vs := [.int .i64 ((nth es.l i).op), .int .i64 ((nth es.l i).a), .int .i64 ((nth es.l i).b), .int .i64 ((nth es.l i).c)]) ti_36 rfl rfl rfl (fun w h => (h.at 5 rfl)) (show i < es.l.length from (by omega)) (Nat.le_of_ble_eq_true rfl) rfl) rfl rfl fun a38 h38 => ?_; clear h37
  refine wl_ex (x_alloc h38 ti_36 rfl rfl rfl) (wanted_none rfl _) ?_
  rintro a39 w39 ⟨b39, h39⟩; clear h38
  refine wms 1 h39 rfl fun a40 h40 => ?_; clear h39
  refine wl_ex (x_stb (i := 0) (vs := [.int .i64 ((nth es.l i).op), .int .i64 ((nth es.l i).a), .int .i64 ((nth es.l i).b), .int .i64 ((nth es.l i).c)]) (cs' := [.int .i64 ((nth es.l i).op), .int .i64 ((nth es.l i).a), .int .i64 ((nth es.l i).b), .int .i64 ((nth es.l i).c)]) h40 ti_36 rfl rfl rfl rfl rfl rfl rfl (allOne_cons rfl (allOne_cons rfl (allOne_cons rfl (allOne_cons rfl allOne_nil)))) (Nat.le_of_ble_eq_true rfl) rfl) (wanted_none rfl _) ?_
  rintro a41 w41 h41
  clear h40
  refine wpList_nil (hK35 _ _ ?_)
  obtain ⟨he1, he2, he3, he4, he5⟩ := hok.ok i (by omega)
  refine wp_seq_k fun K42 hK42 => ?_
  refine wp_seq_k fun K43 hK43 => wp_region_lit ?_
  refine wv h41 (r_fieldB (r := 0) fl_36_0 rfl rfl rfl) rfl rfl fun a44 h44 => ?_; clear h41
  refine wv h44 (r_ldb (i := 0) ti_3 rfl rfl rfl rfl) rfl rfl fun a45 h45 => ?_; clear h44
  refine wv h45 (r_lssI (p := (nth es.l i).op) (q := 0) rfl rfl rfl) rfl rfl fun a46 h46 => ?_; clear h45
  refine wms 1 h46 rfl fun a47 h47 => ?_; clear h46
  refine wl_val h47 (r_fieldB (r := 0) fl_36_0 rfl rfl rfl) (wanted_yes h47.fr rfl rfl rfl rfl (decide_eq_false (by omega))) rfl rfl fun a48 h48 => ?_; clear h47
  refine wl_val h48 (r_ldb (i := 0) ti_3 rfl rfl rfl rfl) (wanted_yes h48.fr rfl rfl rfl rfl (decide_eq_false (by omega))) rfl rfl fun a49 h49 => ?_; clear h48
  refine wl_val h49 (r_geqI (p := (nth es.l i).op) (q := 4) rfl rfl rfl) (wanted_yes h49.fr rfl rfl rfl rfl (decide_eq_false (by omega))) rfl rfl fun a50 h50 => ?_; clear h49
  refine wv h50 (r_pickF rfl rfl (decide_eq_false (by omega)) rfl) rfl rfl fun a51 h51 => ?_; clear h50
  refine wms 1 h51 rfl fun a52 h52 => ?_; clear h51
  refine wl_val h52 (r_fieldB (r := 1) fl_36_1 rfl rfl rfl) (wanted_yes h52.fr rfl rfl rfl rfl (decide_eq_false (by omega))) rfl rfl fun a53 h53 => ?_; clear h52
  refine wl_val h53 (r_ldb (i := 0) ti_3 rfl rfl rfl rfl) (wanted_yes h53.fr rfl rfl rfl rfl (decide_eq_false (by omega))) rfl rfl fun a54 h54 => ?_; clear h53
  refine wl_val h54 (r_lssI (p := (nth es.l i).a) (q := 0) rfl rfl rfl) (wanted_yes h54.fr rfl rfl rfl rfl (decide_eq_false (by omega))) rfl rfl fun a55 h55 => ?_; clear h54
  refine wv h55 (r_pickF rfl rfl (decide_eq_false (by omega)) rfl) rfl rfl fun a56 h56 => ?_; clear h55
  refine wms 1 h56 rfl fun a57 h57 => ?_; clear h56
  refine wl_val h57 (r_fieldB (r := 1) fl_36_1 rfl rfl rfl) (wanted_yes h57.fr rfl rfl rfl rfl (decide_eq_false (by omega))) rfl rfl fun a58 h58 => ?_; clear h57
  refine wl_val h58 (r_ldb (i := 0) ti_3 rfl rfl rfl rfl) (wanted_yes h58.fr rfl rfl rfl rfl (decide_eq_false (by omega))) rfl rfl fun a59 h59 => ?_; clear h58
  refine wl_val h59 (r_move rfl rfl) (wanted_yes h59.fr rfl rfl rfl rfl (decide_eq_false (by omega))) rfl rfl fun a60 h60 => ?_; clear h59
  refine wl_val h60 (r_len (s := ws) (n := ws.l.length) sl_24 rfl rfl (fun w h => (h.at 5 rfl)) rfl) (wanted_yes h60.fr rfl rfl rfl rfl (decide_eq_false (by omega))) rfl rfl fun a61 h61 => ?_; clear h60
  refine wl_val h61 (r_geqI (p := (nth es.l i).a) (q := ((ws.l.length : Nat) : Int)) rfl rfl rfl) (wanted_yes h61.fr rfl rfl rfl rfl (decide_eq_false (by omega))) rfl rfl fun a62 h62 => ?_; clear h61
  refine wv h62 (r_pickF rfl rfl (decide_eq_false (by omega)) rfl) rfl rfl fun a63 h63 => ?_; clear h62
  refine wms 1 h63 rfl fun a64 h64 => ?_; clear h63
  refine wl_val h64 (r_fieldB (r := 2) fl_36_2 rfl rfl rfl) (wanted_yes h64.fr rfl rfl rfl rfl (decide_eq_false (by omega))) rfl rfl fun a65 h65 => ?_; clear h64
  refine wl_val h65 (r_ldb (i := 0) ti_3 rfl rfl rfl rfl) (wanted_yes h65.fr rfl rfl rfl rfl (decide_eq_false (by omega))) rfl rfl fun a66 h66 => ?_; clear h65
  refine wl_val h66 (r_neqI (p := (nth es.l i).b) (q := 1) rfl rfl rfl) (wanted_yes h66.fr rfl rfl rfl rfl (decide_eq_false (by omega))) rfl rfl fun a67 h67 => ?_; clear h66
  refine wl_val h67 (r_move rfl rfl) (wanted_yes h67.fr rfl rfl rfl rfl (decide_eq_false (by omega))) rfl rfl fun a68 h68 => ?_; clear h67
  rcases Bool.eq_false_or_eq_true (decide ((nth es.l i).b ≠ 1)) with hb69 | hb69
  ·
   have hp69 : (nth es.l i).b ≠ 1 := of_decide_eq_true hb69
   refine wl_val h68 (r_fieldB (r := 2) fl_36_2 rfl rfl rfl) (wanted_yes h68.fr rfl rfl rfl rfl hb69) rfl rfl fun a70 h70 => ?_; clear h68
   refine wl_val h70 (r_ldb (i := 0) ti_3 rfl rfl rfl rfl) (wanted_yes h70.fr rfl rfl rfl rfl hb69) rfl rfl fun a71 h71 => ?_; clear h70
   refine wl_val h71 (r_neqI (p := (nth es.l i).b) (q := 2) rfl rfl rfl) (wanted_yes h71.fr rfl rfl rfl rfl hb69) rfl rfl fun a72 h72 => ?_; clear h71
   refine wl_val h72 (r_pickT rfl rfl hb69 rfl) (wanted_yes h72.fr rfl rfl rfl rfl (decide_eq_false (by omega))) rfl rfl fun a73 h73 => ?_; clear h72
   refine wv h73 (r_pickF rfl rfl (decide_eq_false (by omega)) rfl) rfl rfl fun a74 h74 => ?_; clear h73
   refine wpList_nil (hK43 _ _ ?_)
   have h75 : St 86 (fun _ => False) W a74 w41 [(0, ws.v), (5, .pointer (some ⟨b4, 0, none⟩)), (6, .pointer (some ⟨b22, 0, none⟩)), (7, .int .i64 ((i : Nat) : Int)), (8, .pointer (some ⟨b39, 0, none⟩)), (22, es.v), (23, .int .i64 ((es.l.length : Nat) : Int)), (24, .int .i64 ((i : Nat) : Int)), (58, .bool (decide ((nth es.l i).b ≠ 2)))] [.blk b39 36 [.int .i64 ((nth es.l i).op), .int .i64 ((nth es.l i).a), .int .i64 ((nth es.l i).b), .int .i64 ((nth es.l i).c)], .blk b22 90 [v18, .map (some g19)], .big (seenX 24 g19 ([] : List (List Nat × Ls (Ls Int)))), .big (matX (.own 36) 37 v18 M), .blk b4 31 [.int .i64 0, .int .i64 0, .int .i64 0], .at_ ws, .at_ es] := h74.nrm ⟨rfl, rfl, rfl, rfl, rfl, rfl, rfl, rfl, rfl, trivial⟩ [0, 1, 2, 3, 4, 5, 6] (by decide) ⟨rfl, rfl, rfl, rfl, rfl, rfl, rfl, trivial⟩
   clear h74
   refine x_condF h75 rfl (decide_eq_false (by omega)) ?_
   refine wp_skip ?_
   refine hK42 _ _ ?_
   have hlq := hlen0 (nth es.l i).op.toNat (by omega)
   have h76 : St 86 (fun _ => False) W a74 w41 [(0, ws.v), (5, .pointer (some ⟨b4, 0, none⟩)), (6, .pointer (some ⟨b22, 0, none⟩)), (7, .int .i64 ((i : Nat) : Int)), (8, .pointer (some ⟨b39, 0, none⟩)), (22, es.v), (23, .int .i64 ((es.l.length : Nat) : Int)), (24, .int .i64 ((i : Nat) : Int)), (58, .bool (decide ((nth es.l i).b ≠ 2)))] [.blk b39 36 [.int .i64 ((nth es.l i).op), .int .i64 ((nth es.l i).a), .int .i64 ((nth es.l i).b), .int .i64 ((nth es.l i).c)], .blk b22 90 [v18, .map (some g19)], .big (seenX 24 g19 ([] : List (List Nat × Ls (Ls Int)))), .big (matX (.own 36) 37 v18 M), .blk b4 31 [.int .i64 0, .int .i64 0, .int .i64 0], .at_ ws, .at_ es] := h75.nrm ⟨rfl, rfl, rfl, rfl, rfl, rfl, rfl, rfl, rfl, trivial⟩ [0, 1, 2, 3, 4, 5, 6] (by decide) ⟨rfl, rfl, rfl, rfl, rfl, rfl, rfl, trivial⟩
   clear h75
   refine x_any (fun S a w => (S 15 = false ∧ S 16 = false ∧ S 18 = false ∧ FrI 86 S [(0, ws.v), (5, .pointer (some ⟨b4, 0, none⟩)), (6, .pointer (some ⟨b22, 0, none⟩)), (7, .int .i64 ((i : Nat) : Int)), (8, .pointer (some ⟨b39, 0, none⟩)), (22, es.v), (23, .int .i64 ((es.l.length : Nat) : Int)), (24, .int .i64 ((i : Nat) : Int)), (58, .bool (decide ((nth es.l i).b ≠ 2)))] [(0, 61, .pointer (some ⟨b22, 0, none⟩)), (1, 62, .pointer (some ⟨b22, 0, none⟩)), (2, 63, .pointer (some ⟨b22, 0, none⟩)), (3, 64, v18), (4, 65, .pointer (some ⟨b39, 0, none⟩)), (5, 66, .int .i64 ((nth es.l i).op)), (6, 67, .pointer (some ⟨b22, 0, none⟩)), (7, 68, .pointer (some ⟨b22, 0, none⟩)), (8, 69, .pointer (some ⟨b22, 0, none⟩)), (9, 70, v18), (10, 71, .pointer (some ⟨b39, 0, none⟩)), (11, 72, .int .i64 ((nth es.l i).op)), (12, 73, .pointer (some (padr v18 1 (((nth es.l i).op).toNat) 0))), (13, 74, (nth M (((nth es.l i).op).toNat)).v), (14, 75, .agg #[.int .i64 ((nth es.l i).op), .int .i64 ((nth es.l i).a), .int .i64 ((nth es.l i).b), .int .i64 ((nth es.l i).c)])] a ∧ Sh (fun _ => False) W w [.blk b39 36 [.int .i64 ((nth es.l i).op), .int .i64 ((nth es.l i).a), .int .i64 ((nth es.l i).b), .int .i64 ((nth es.l i).c)], .blk b22 90 [v18, .map (some g19)], .big (seenX 24 g19 ([] : List (List Nat × Ls (Ls Int)))), .big (matX (.own 36) 37 v18 M), .blk b4 31 [.int .i64 0, .int .i64 0, .int .i64 0], .at_ ws, .at_ es]) ∨ (S 15 = true ∧ S 16 = false ∧ S 18 = false ∧ ∃ (v7015 : Value), FrI 86 S [(0, ws.v), (5, .pointer (some ⟨b4, 0, none⟩)), (6, .pointer (some ⟨b22, 0, none⟩)), (7, .int .i64 ((i : Nat) : Int)), (8, .pointer (some ⟨b39, 0, none⟩)), (22, es.v), (23, .int .i64 ((es.l.length : Nat) : Int)), (24, .int .i64 ((i : Nat) : Int)), (58, .bool (decide ((nth es.l i).b ≠ 2)))] [(0, 61, .pointer (some ⟨b22, 0, none⟩)), (1, 62, .pointer (some ⟨b22, 0, none⟩)), (2, 63, .pointer (some ⟨b22, 0, none⟩)), (3, 64, v18), (4, 65, .pointer (some ⟨b39, 0, none⟩)), (5, 66, .int .i64 ((nth es.l i).op)), (6, 67, .pointer (some ⟨b22, 0, none⟩)), (7, 68, .pointer (some ⟨b22, 0, none⟩)), (8, 69, .pointer (some ⟨b22, 0, none⟩)), (9, 70, v18), (10, 71, .pointer (some ⟨b39, 0, none⟩)), (11, 72, .int .i64 ((nth es.l i).op)), (12, 73, .pointer (some (padr v18 1 (((nth es.l i).op).toNat) 0))), (13, 74, (nth M (((nth es.l i).op).toNat)).v), (14, 75, .agg #[.int .i64 ((nth es.l i).op), .int .i64 ((nth es.l i).a), .int .i64 ((nth es.l i).b), .int .i64 ((nth es.l i).c)]), (15, 76, v7015)] a ∧ Sh (fun _ => False) W w [.own 36 (⟨v7015, [(nth es.l i)]⟩ : Ls Ins), .blk b39 36 [.int .i64 ((nth es.l i).op), .int .i64 ((nth es.l i).a), .int .i64 ((nth es.l i).b), .int .i64 ((nth es.l i).c)], .blk b22 90 [v18, .map (some g19)], .big (seenX 24 g19 ([] : List (List Nat × Ls (Ls Int)))), .big (matX (.own 36) 37 v18 M), .blk b4 31 [.int .i64 0, .int .i64 0, .int .i64 0], .at_ ws, .at_ es]) ∨ (S 15 = true ∧ S 16 = true ∧ S 18 = false ∧ ∃ (v7015 : Value) (v7016 : Value), FrI 86 S [(0, ws.v), (5, .pointer (some ⟨b4, 0, none⟩)), (6, .pointer (some ⟨b22, 0, none⟩)), (7, .int .i64 ((i : Nat) : Int)), (8, .pointer (some ⟨b39, 0, none⟩)), (22, es.v), (23, .int .i64 ((es.l.length : Nat) : Int)), (24, .int .i64 ((i : Nat) : Int)), (58, .bool (decide ((nth es.l i).b ≠ 2)))] [(0, 61, .pointer (some ⟨b22, 0, none⟩)), (1, 62, .pointer (some ⟨b22, 0, none⟩)), (2, 63, .pointer (some ⟨b22, 0, none⟩)), (3, 64, v18), (4, 65, .pointer (some ⟨b39, 0, none⟩)), (5, 66, .int .i64 ((nth es.l i).op)), (6, 67, .pointer (some ⟨b22, 0, none⟩)), (7, 68, .pointer (some ⟨b22, 0, none⟩)), (8, 69, .pointer (some ⟨b22, 0, none⟩)), (9, 70, v18), (10, 71, .pointer (some ⟨b39, 0, none⟩)), (11, 72, .int .i64 ((nth es.l i).op)), (12, 73, .pointer (some (padr v18 1 (((nth es.l i).op).toNat) 0))), (13, 74, (nth M (((nth es.l i).op).toNat)).v), (14, 75, .agg #[.int .i64 ((nth es.l i).op), .int .i64 ((nth es.l i).a), .int .i64 ((nth es.l i).b), .int .i64 ((nth es.l i).c)]), (15, 76, v7015), (16, 77, v7016), (17, 78, .pointer (some (padr v18 1 (((nth es.l i).op).toNat) 0)))] a ∧ Sh (fun _ => False) W w [.own 36 (⟨v7016, (nth M (((nth es.l i).op).toNat)).l ++ ([(nth es.l i)])⟩ : Ls Ins), .own 36 (⟨v7015, [(nth es.l i)]⟩ : Ls Ins), .blk b39 36 [.int .i64 ((nth es.l i).op), .int .i64 ((nth es.l i).a), .int .i64 ((nth es.l i).b), .int .i64 ((nth es.l i).c)], .blk b22 90 [v18, .map (some g19)], .big (seenX 24 g19 ([] : List (List Nat × Ls (Ls Int)))), .big (holeX (.own 36) 37 v18 M (((nth es.l i).op).toNat)), .blk b4 31 [.int .i64 0, .int .i64 0, .int .i64 0], .at_ ws, .at_ es]) ∨ (S 15 = true ∧ S 16 = true ∧ S 18 = true ∧ ∃ (v7015 : Value) (v7016 : Value), FrI 86 S [(0, ws.v), (5, .pointer (some ⟨b4, 0, none⟩)), (6, .pointer (some ⟨b22, 0, none⟩)), (7, .int .i64 ((i : Nat) : Int)), (8, .pointer (some ⟨b39, 0, none⟩)), (22, es.v), (23, .int .i64 ((es.l.length : Nat) : Int)), (24, .int .i64 ((i : Nat) : Int)), (58, .bool (decide ((nth es.l i).b ≠ 2)))] [(0, 61, .pointer (some ⟨b22, 0, none⟩)), (1, 62, .pointer (some ⟨b22, 0, none⟩)), (2, 63, .pointer (some ⟨b22, 0, none⟩)), (3, 64, v18), (4, 65, .pointer (some ⟨b39, 0, none⟩)), (5, 66, .int .i64 ((nth es.l i).op)), (6, 67, .pointer (some ⟨b22, 0, none⟩)), (7, 68, .pointer (some ⟨b22, 0, none⟩)), (8, 69, .pointer (some ⟨b22, 0, none⟩)), (9, 70, v18), (10, 71, .pointer (some ⟨b39, 0, none⟩)), (11, 72, .int .i64 ((nth es.l i).op)), (12, 73, .pointer (some (padr v18 1 (((nth es.l i).op).toNat) 0))), (13, 74, (nth M (((nth es.l i).op).toNat)).v), (14, 75, .agg #[.int .i64 ((nth es.l i).op), .int .i64 ((nth es.l i).a), .int .i64 ((nth es.l i).b), .int .i64 ((nth es.l i).c)]), (15, 76, v7015), (16, 77, v7016), (17, 78, .pointer (some (padr v18 1 (((nth es.l i).op).toNat) 0)))] a ∧ Sh (fun _ => False) W w [.own 36 (⟨v7015, [(nth es.l i)]⟩ : Ls Ins), .blk b39 36 [.int .i64 ((nth es.l i).op), .int .i64 ((nth es.l i).a), .int .i64 ((nth es.l i).b), .int .i64 ((nth es.l i).c)], .blk b22 90 [v18, .map (some g19)], .big (seenX 24 g19 ([] : List (List Nat × Ls (Ls Int)))), .big (matX (.own 36) 37 v18 (M.set (((nth es.l i).op).toNat) (⟨v7016, (nth M (((nth es.l i).op).toNat)).l ++ ([(nth es.l i)])⟩ : Ls Ins))), .blk b4 31 [.int .i64 0, .int .i64 0, .int .i64 0], .at_ ws, .at_ es])) (by kernel_rfl) (by kernel_rfl) (Or.inl (⟨rfl, rfl, rfl, FrI.start h76.fr, h76.sh.drew⟩)) ?_ ?_
   ·intro S i o ho hSi hcl hdep a w hI
    clear h76
    rcases i with _ | _ | _ | _ | _ | _ | _ | _ | _ | _ | _ | _ | _ | _ | _ | _ | _ | _ | _ | i
    ·
     obtain rfl : _ = o := Option.some.inj ho
     rcases hI with ⟨hw15, hw16, hw18, hfr, hsh⟩ | ⟨hw15, hw16, hw18, v7015, hfr, hsh⟩ | ⟨hw15, hw16, hw18, v7015, v7016, hfr, hsh⟩ | ⟨hw15, hw16, hw18, v7015, v7016, hfr, hsh⟩
     ·
      exact sq hfr hfr.fr0 hsh (r_move rfl rfl) 0 rfl rfl rfl rfl rfl rfl fun a hg => Or.inl (⟨un rfl hw15, un rfl hw16, un rfl hw18, hg, hsh⟩)
     ·
      exact sq hfr hfr.fr0 hsh (r_move rfl rfl) 0 rfl rfl rfl rfl rfl rfl fun a hg => Or.inr (Or.inl (⟨un rfl hw15, un rfl hw16, un rfl hw18, v7015, hg, hsh⟩))
     ·
      exact sq hfr hfr.fr0 hsh (r_move rfl rfl) 0 rfl rfl rfl rfl rfl rfl fun a hg => Or.inr (Or.inr (Or.inl (⟨un rfl hw15, un rfl hw16, un rfl hw18, v7015, v7016, hg, hsh⟩)))
     ·
      exact no_way (cA hcl 18 0 rfl hw18) hSi
    ·
     obtain rfl : _ = o := Option.some.inj ho
     have hd0 : S 0 = true := depAt hdep 0 rfl rfl
     rcases hI with ⟨hw15, hw16, hw18, hfr, hsh⟩ | ⟨hw15, hw16, hw18, v7015, hfr, hsh⟩ | ⟨hw15, hw16, hw18, v7015, v7016, hfr, hsh⟩ | ⟨hw15, hw16, hw18, v7015, v7016, hfr, hsh⟩
     ·
      exact sq hfr (Fr.cons hfr.fr0 (hfr.at_ 0 0 61 _ rfl hd0)) hsh (r_nil rfl rfl) 1 rfl rfl rfl rfl rfl rfl fun a hg => Or.inl (⟨un rfl hw15, un rfl hw16, un rfl hw18, hg, hsh⟩)
     ·
      exact sq hfr (Fr.cons hfr.fr0 (hfr.at_ 0 0 61 _ rfl hd0)) hsh (r_nil rfl rfl) 1 rfl rfl rfl rfl rfl rfl fun a hg => Or.inr (Or.inl (⟨un rfl hw15, un rfl hw16, un rfl hw18, v7015, hg, hsh⟩))
     ·
      exact sq hfr (Fr.cons hfr.fr0 (hfr.at_ 0 0 61 _ rfl hd0)) hsh (r_nil rfl rfl) 1 rfl rfl rfl rfl rfl rfl fun a hg => Or.inr (Or.inr (Or.inl (⟨un rfl hw15, un rfl hw16, un rfl hw18, v7015, v7016, hg, hsh⟩)))
     ·
      exact no_way (cA hcl 18 1 rfl hw18) hSi
    ·
     obtain rfl : _ = o := Option.some.inj ho
     have hd1 : S 1 = true := depAt hdep 0 rfl rfl
     rcases hI with ⟨hw15, hw16, hw18, hfr, hsh⟩ | ⟨hw15, hw16, hw18, v7015, hfr, hsh⟩ | ⟨hw15, hw16, hw18, v7015, v7016, hfr, hsh⟩ | ⟨hw15, hw16, hw18, v7015, v7016, hfr, hsh⟩
     ·
      exact sq hfr (Fr.cons hfr.fr0 (hfr.at_ 1 1 62 _ rfl hd1)) hsh (r_fieldB (r := 0) fl_90_0 rfl rfl rfl) 2 rfl rfl rfl rfl rfl rfl fun a hg => Or.inl (⟨un rfl hw15, un rfl hw16, un rfl hw18, hg, hsh⟩)
     ·
      exact sq hfr (Fr.cons hfr.fr0 (hfr.at_ 1 1 62 _ rfl hd1)) hsh (r_fieldB (r := 0) fl_90_0 rfl rfl rfl) 2 rfl rfl rfl rfl rfl rfl fun a hg => Or.inr (Or.inl (⟨un rfl hw15, un rfl hw16, un rfl hw18, v7015, hg, hsh⟩))
     ·
      exact sq hfr (Fr.cons hfr.fr0 (hfr.at_ 1 1 62 _ rfl hd1)) hsh (r_fieldB (r := 0) fl_90_0 rfl rfl rfl) 2 rfl rfl rfl rfl rfl rfl fun a hg => Or.inr (Or.inr (Or.inl (⟨un rfl hw15, un rfl hw16, un rfl hw18, v7015, v7016, hg, hsh⟩)))
     ·
      exact no_way (cA hcl 18 2 rfl hw18) hSi
    ·
     obtain rfl : _ = o := Option.some.inj ho
     have hd2 : S 2 = true := depAt hdep 0 rfl rfl
     rcases hI with ⟨hw15, hw16, hw18, hfr, hsh⟩ | ⟨hw15, hw16, hw18, v7015, hfr, hsh⟩ | ⟨hw15, hw16, hw18, v7015, v7016, hfr, hsh⟩ | ⟨hw15, hw16, hw18, v7015, v7016, hfr, hsh⟩
     ·
      exact sq hfr (Fr.cons hfr.fr0 (hfr.at_ 2 2 63 _ rfl hd2)) hsh (r_ldb (i := 1) ti_87 rfl rfl rfl rfl) 3 rfl rfl rfl rfl rfl rfl fun a hg => Or.inl (⟨un rfl hw15, un rfl hw16, un rfl hw18, hg, hsh⟩)
     ·
      exact sq hfr (Fr.cons hfr.fr0 (hfr.at_ 2 2 63 _ rfl hd2)) hsh (r_ldb (i := 2) ti_87 rfl rfl rfl rfl) 3 rfl rfl rfl rfl rfl rfl fun a hg => Or.inr (Or.inl (⟨un rfl hw15, un rfl hw16, un rfl hw18, v7015, hg, hsh⟩))
     ·
      exact sq hfr (Fr.cons hfr.fr0 (hfr.at_ 2 2 63 _ rfl hd2)) hsh (r_ldb (i := 3) ti_87 rfl rfl rfl rfl) 3 rfl rfl rfl rfl rfl rfl fun a hg => Or.inr (Or.inr (Or.inl (⟨un rfl hw15, un rfl hw16, un rfl hw18, v7015, v7016, hg, hsh⟩)))
     ·
      exact no_way (cA hcl 18 3 rfl hw18) hSi
    ·
     obtain rfl : _ = o := Option.some.inj ho
     rcases hI with ⟨hw15, hw16, hw18, hfr, hsh⟩ | ⟨hw15, hw16, hw18, v7015, hfr, hsh⟩ | ⟨hw15, hw16, hw18, v7015, v7016, hfr, hsh⟩ | ⟨hw15, hw16, hw18, v7015, v7016, hfr, hsh⟩
     ·
      exact sq hfr hfr.fr0 hsh (r_fieldB (r := 0) fl_36_0 rfl rfl rfl) 4 rfl rfl rfl rfl rfl rfl fun a hg => Or.inl (⟨un rfl hw15, un rfl hw16, un rfl hw18, hg, hsh⟩)
     ·
      exact sq hfr hfr.fr0 hsh (r_fieldB (r := 0) fl_36_0 rfl rfl rfl) 4 rfl rfl rfl rfl rfl rfl fun a hg => Or.inr (Or.inl (⟨un rfl hw15, un rfl hw16, un rfl hw18, v7015, hg, hsh⟩))
     ·
      exact sq hfr hfr.fr0 hsh (r_fieldB (r := 0) fl_36_0 rfl rfl rfl) 4 rfl rfl rfl rfl rfl rfl fun a hg => Or.inr (Or.inr (Or.inl (⟨un rfl hw15, un rfl hw16, un rfl hw18, v7015, v7016, hg, hsh⟩)))
     ·
      exact no_way (cA hcl 18 4 rfl hw18) hSi
    ·
     obtain rfl : _ = o := Option.some.inj ho
     have hd4 : S 4 = true := depAt hdep 0 rfl rfl
     rcases hI with ⟨hw15, hw16, hw18, hfr, hsh⟩ | ⟨hw15, hw16, hw18, v7015, hfr, hsh⟩ | ⟨hw15, hw16, hw18, v7015, v7016, hfr, hsh⟩ | ⟨hw15, hw16, hw18, v7015, v7016, hfr, hsh⟩
     ·
      exact sq hfr (Fr.cons hfr.fr0 (hfr.at_ 4 4 65 _ rfl hd4)) hsh (r_ldb (i := 0) ti_3 rfl rfl rfl rfl) 5 rfl rfl rfl rfl rfl rfl fun a hg => Or.inl (⟨un rfl hw15, un rfl hw16, un rfl hw18, hg, hsh⟩)
     ·
      exact sq hfr (Fr.cons hfr.fr0 (hfr.at_ 4 4 65 _ rfl hd4)) hsh (r_ldb (i := 1) ti_3 rfl rfl rfl rfl) 5 rfl rfl rfl rfl rfl rfl fun a hg => Or.inr (Or.inl (⟨un rfl hw15, un rfl hw16, un rfl hw18, v7015, hg, hsh⟩))
     ·
      exact sq hfr (Fr.cons hfr.fr0 (hfr.at_ 4 4 65 _ rfl hd4)) hsh (r_ldb (i := 2) ti_3 rfl rfl rfl rfl) 5 rfl rfl rfl rfl rfl rfl fun a hg => Or.inr (Or.inr (Or.inl (⟨un rfl hw15, un rfl hw16, un rfl hw18, v7015, v7016, hg, hsh⟩)))
     ·
      exact no_way (cA hcl 18 5 rfl hw18) hSi
    ·
     obtain rfl : _ = o := Option.some.inj ho
     rcases hI with ⟨hw15, hw16, hw18, hfr, hsh⟩ | ⟨hw15, hw16, hw18, v7015, hfr, hsh⟩ | ⟨hw15, hw16, hw18, v7015, v7016, hfr, hsh⟩ | ⟨hw15, hw16, hw18, v7015, v7016, hfr, hsh⟩
     ·
      exact sq hfr hfr.fr0 hsh (r_move rfl rfl) 6 rfl rfl rfl rfl rfl rfl fun a hg => Or.inl (⟨un rfl hw15, un rfl hw16, un rfl hw18, hg, hsh⟩)
     ·
      exact sq hfr hfr.fr0 hsh (r_move rfl rfl) 6 rfl rfl rfl rfl rfl rfl fun a hg => Or.inr (Or.inl (⟨un rfl hw15, un rfl hw16, un rfl hw18, v7015, hg, hsh⟩))
     ·
      exact no_way (cA hcl 16 6 rfl hw16) hSi
     ·
      exact no_way (cA hcl 16 6 rfl hw16) hSi
    ·
     obtain rfl : _ = o := Option.some.inj ho
     have hd6 : S 6 = true := depAt hdep 0 rfl rfl
     rcases hI with ⟨hw15, hw16, hw18, hfr, hsh⟩ | ⟨hw15, hw16, hw18, v7015, hfr, hsh⟩ | ⟨hw15, hw16, hw18, v7015, v7016, hfr, hsh⟩ | ⟨hw15, hw16, hw18, v7015, v7016, hfr, hsh⟩
     ·
      exact sq hfr (Fr.cons hfr.fr0 (hfr.at_ 6 6 67 _ rfl hd6)) hsh (r_nil rfl rfl) 7 rfl rfl rfl rfl rfl rfl fun a hg => Or.inl (⟨un rfl hw15, un rfl hw16, un rfl hw18, hg, hsh⟩)
     ·
      exact sq hfr (Fr.cons hfr.fr0 (hfr.at_ 6 6 67 _ rfl hd6)) hsh (r_nil rfl rfl) 7 rfl rfl rfl rfl rfl rfl fun a hg => Or.inr (Or.inl (⟨un rfl hw15, un rfl hw16, un rfl hw18, v7015, hg, hsh⟩))
     ·
      exact no_way (cA hcl 16 7 rfl hw16) hSi
     ·
      exact no_way (cA hcl 16 7 rfl hw16) hSi
    ·
     obtain rfl : _ = o := Option.some.inj ho
     have hd7 : S 7 = true := depAt hdep 0 rfl rfl
     rcases hI with ⟨hw15, hw16, hw18, hfr, hsh⟩ | ⟨hw15, hw16, hw18, v7015, hfr, hsh⟩ | ⟨hw15, hw16, hw18, v7015, v7016, hfr, hsh⟩ | ⟨hw15, hw16, hw18, v7015, v7016, hfr, hsh⟩
     ·
      exact sq hfr (Fr.cons hfr.fr0 (hfr.at_ 7 7 68 _ rfl hd7)) hsh (r_fieldB (r := 0) fl_90_0 rfl rfl rfl) 8 rfl rfl rfl rfl rfl rfl fun a hg => Or.inl (⟨un rfl hw15, un rfl hw16, un rfl hw18, hg, hsh⟩)
     ·
      exact sq hfr (Fr.cons hfr.fr0 (hfr.at_ 7 7 68 _ rfl hd7)) hsh (r_fieldB (r := 0) fl_90_0 rfl rfl rfl) 8 rfl rfl rfl rfl rfl rfl fun a hg => Or.inr (Or.inl (⟨un rfl hw15, un rfl hw16, un rfl hw18, v7015, hg, hsh⟩))
     ·
      exact no_way (cA hcl 16 8 rfl hw16) hSi
     ·
      exact no_way (cA hcl 16 8 rfl hw16) hSi
    ·
     obtain rfl : _ = o := Option.some.inj ho
     have hd8 : S 8 = true := depAt hdep 0 rfl rfl
     rcases hI with ⟨hw15, hw16, hw18, hfr, hsh⟩ | ⟨hw15, hw16, hw18, v7015, hfr, hsh⟩ | ⟨hw15, hw16, hw18, v7015, v7016, hfr, hsh⟩ | ⟨hw15, hw16, hw18, v7015, v7016, hfr, hsh⟩
     ·
      exact sq hfr (Fr.cons hfr.fr0 (hfr.at_ 8 8 69 _ rfl hd8)) hsh (r_ldb (i := 1) ti_87 rfl rfl rfl rfl) 9 rfl rfl rfl rfl rfl rfl fun a hg => Or.inl (⟨un rfl hw15, un rfl hw16, un rfl hw18, hg, hsh⟩)
     ·
      exact sq hfr (Fr.cons hfr.fr0 (hfr.at_ 8 8 69 _ rfl hd8)) hsh (r_ldb (i := 2) ti_87 rfl rfl rfl rfl) 9 rfl rfl rfl rfl rfl rfl fun a hg => Or.inr (Or.inl (⟨un rfl hw15, un rfl hw16, un rfl hw18, v7015, hg, hsh⟩))
     ·
      exact no_way (cA hcl 16 9 rfl hw16) hSi
     ·
      exact no_way (cA hcl 16 9 rfl hw16) hSi
    ·
     obtain rfl : _ = o := Option.some.inj ho
     rcases hI with ⟨hw15, hw16, hw18, hfr, hsh⟩ | ⟨hw15, hw16, hw18, v7015, hfr, hsh⟩ | ⟨hw15, hw16, hw18, v7015, v7016, hfr, hsh⟩ | ⟨hw15, hw16, hw18, v7015, v7016, hfr, hsh⟩
     ·
      exact sq hfr hfr.fr0 hsh (r_fieldB (r := 0) fl_36_0 rfl rfl rfl) 10 rfl rfl rfl rfl rfl rfl fun a hg => Or.inl (⟨un rfl hw15, un rfl hw16, un rfl hw18, hg, hsh⟩)
     ·
      exact sq hfr hfr.fr0 hsh (r_fieldB (r := 0) fl_36_0 rfl rfl rfl) 10 rfl rfl rfl rfl rfl rfl fun a hg => Or.inr (Or.inl (⟨un rfl hw15, un rfl hw16, un rfl hw18, v7015, hg, hsh⟩))
     ·
      exact no_way (cA hcl 16 10 rfl hw16) hSi
     ·
      exact no_way (cA hcl 16 10 rfl hw16) hSi
    ·
     obtain rfl : _ = o := Option.some.inj ho
     have hd10 : S 10 = true := depAt hdep 0 rfl rfl
     rcases hI with ⟨hw15, hw16, hw18, hfr, hsh⟩ | ⟨hw15, hw16, hw18, v7015, hfr, hsh⟩ | ⟨hw15, hw16, hw18, v7015, v7016, hfr, hsh⟩ | ⟨hw15, hw16, hw18, v7015, v7016, hfr, hsh⟩
     ·
      exact sq hfr (Fr.cons hfr.fr0 (hfr.at_ 10 10 71 _ rfl hd10)) hsh (r_ldb (i := 0) ti_3 rfl rfl rfl rfl) 11 rfl rfl rfl rfl rfl rfl fun a hg => Or.inl (⟨un rfl hw15, un rfl hw16, un rfl hw18, hg, hsh⟩)
     ·
      exact sq hfr (Fr.cons hfr.fr0 (hfr.at_ 10 10 71 _ rfl hd10)) hsh (r_ldb (i := 1) ti_3 rfl rfl rfl rfl) 11 rfl rfl rfl rfl rfl rfl fun a hg => Or.inr (Or.inl (⟨un rfl hw15, un rfl hw16, un rfl hw18, v7015, hg, hsh⟩))
     ·
      exact no_way (cA hcl 16 11 rfl hw16) hSi
     ·
      exact no_way (cA hcl 16 11 rfl hw16) hSi
    ·
     obtain rfl : _ = o := Option.some.inj ho
     have hd9 : S 9 = true := depAt hdep 0 rfl rfl
     have hd11 : S 11 = true := depAt hdep 1 rfl rfl
     rcases hI with ⟨hw15, hw16, hw18, hfr, hsh⟩ | ⟨hw15, hw16, hw18, v7015, hfr, hsh⟩ | ⟨hw15, hw16, hw18, v7015, v7016, hfr, hsh⟩ | ⟨hw15, hw16, hw18, v7015, v7016, hfr, hsh⟩
     ·
      exact sq hfr (Fr.cons (Fr.cons hfr.fr0 (hfr.at_ 9 9 70 _ rfl hd9)) (hfr.at_ 11 11 72 _ rfl hd11)) hsh (r_ixI (s := (⟨v18, rvs M⟩ : Ls RV)) (q := (nth es.l i).op) sl_87 ti_37 rfl rfl rfl (fun w h => (h.matAt 3 rfl)) (by rw [rvs_len]; exact (show 0 ≤ (nth es.l i).op ∧ (nth es.l i).op < M.length from (by omega)))) 12 rfl rfl rfl rfl rfl rfl fun a hg => Or.inl (⟨un rfl hw15, un rfl hw16, un rfl hw18, hg, hsh⟩)
     ·
      exact sq hfr (Fr.cons (Fr.cons hfr.fr0 (hfr.at_ 9 9 70 _ rfl hd9)) (hfr.at_ 11 11 72 _ rfl hd11)) hsh (r_ixI (s := (⟨v18, rvs M⟩ : Ls RV)) (q := (nth es.l i).op) sl_87 ti_37 rfl rfl rfl (fun w h => (h.matAt 4 rfl)) (by rw [rvs_len]; exact (show 0 ≤ (nth es.l i).op ∧ (nth es.l i).op < M.length from (by omega)))) 12 rfl rfl rfl rfl rfl rfl fun a hg => Or.inr (Or.inl (⟨un rfl hw15, un rfl hw16, un rfl hw18, v7015, hg, hsh⟩))
     ·
      exact no_way (cA hcl 16 12 rfl hw16) hSi
     ·
      exact no_way (cA hcl 16 12 rfl hw16) hSi
    ·
     obtain rfl : _ = o := Option.some.inj ho
     have hd12 : S 12 = true := depAt hdep 0 rfl rfl
     rcases hI with ⟨hw15, hw16, hw18, hfr, hsh⟩ | ⟨hw15, hw16, hw18, v7015, hfr, hsh⟩ | ⟨hw15, hw16, hw18, v7015, v7016, hfr, hsh⟩ | ⟨hw15, hw16, hw18, v7015, v7016, hfr, hsh⟩
     ·
      exact sq hfr (Fr.cons hfr.fr0 (hfr.at_ 12 12 73 _ rfl hd12)) hsh (Rn.same (r_lde (s := (⟨v18, rvs M⟩ : Ls RV)) (i := ((nth es.l i).op).toNat) (v := (nth (rvs M) (((nth es.l i).op).toNat)).v) ti_37 rfl rfl rfl (fun w h => h.matAt 3 rfl) (by rw [rvs_len]; exact (show ((nth es.l i).op).toNat < M.length from (by omega))) (Nat.le_of_ble_eq_true rfl) rfl) (nth_rvs M (((nth es.l i).op).toNat))) 13 rfl rfl rfl rfl rfl rfl fun a hg => Or.inl (⟨un rfl hw15, un rfl hw16, un rfl hw18, hg, hsh⟩)
     ·
      exact sq hfr (Fr.cons hfr.fr0 (hfr.at_ 12 12 73 _ rfl hd12)) hsh (Rn.same (r_lde (s := (⟨v18, rvs M⟩ : Ls RV)) (i := ((nth es.l i).op).toNat) (v := (nth (rvs M) (((nth es.l i).op).toNat)).v) ti_37 rfl rfl rfl (fun w h => h.matAt 4 rfl) (by rw [rvs_len]; exact (show ((nth es.l i).op).toNat < M.length from (by omega))) (Nat.le_of_ble_eq_true rfl) rfl) (nth_rvs M (((nth es.l i).op).toNat))) 13 rfl rfl rfl rfl rfl rfl fun a hg => Or.inr (Or.inl (⟨un rfl hw15, un rfl hw16, un rfl hw18, v7015, hg, hsh⟩))
     ·
      exact no_way (cA hcl 16 13 rfl hw16) hSi
     ·
      exact no_way (cA hcl 16 13 rfl hw16) hSi
    ·
     obtain rfl : _ = o := Option.some.inj ho
     rcases hI with ⟨hw15, hw16, hw18, hfr, hsh⟩ | ⟨hw15, hw16, hw18, v7015, hfr, hsh⟩ | ⟨hw15, hw16, hw18, v7015, v7016, hfr, hsh⟩ | ⟨hw15, hw16, hw18, v7015, v7016, hfr, hsh⟩
     ·
      exact sq hfr hfr.fr0 hsh (r_ldbw (i := 0) (vs := [.int .i64 ((nth es.l i).op), .int .i64 ((nth es.l i).a), .int .i64 ((nth es.l i).b), .int .i64 ((nth es.l i).c)]) ti_36 rfl rfl rfl rfl rfl) 14 rfl rfl rfl rfl rfl rfl fun a hg => Or.inl (⟨un rfl hw15, un rfl hw16, un rfl hw18, hg, hsh⟩)
     ·
      exact no_way (cA hcl 15 14 rfl hw15) hSi
     ·
      exact no_way (cA hcl 15 14 rfl hw15) hSi
     ·
      exact no_way (cA hcl 15 14 rfl hw15) hSi
    ·
     obtain rfl : _ = o := Option.some.inj ho
     have hd14 : S 14 = true := depAt hdep 0 rfl rfl
     rcases hI with ⟨hw15, hw16, hw18, hfr, hsh⟩ | ⟨hw15, hw16, hw18, v7015, hfr, hsh⟩ | ⟨hw15, hw16, hw18, v7015, v7016, hfr, hsh⟩ | ⟨hw15, hw16, hw18, v7015, v7016, hfr, hsh⟩
     ·
      have hs := St.mk (Fr.cons hfr.fr0 (hfr.at_ 14 14 75 _ rfl hd14)) hsh
      refine step_ex (x_lit (n := 1) (cs := [.int .i64 ((nth es.l i).op), .int .i64 ((nth es.l i).a), .int .i64 ((nth es.l i).b), .int .i64 ((nth es.l i).c)]) ([(nth es.l i)] : List Ins) hs sl_37 ti_36 rfl rfl rfl (by decide) rfl (by kernel_rfl) rfl (fun q hq w h => Flat.inner _ _) (fun q hq b hb => (Flat.on _ _ hb).elim) rfl rfl) (wanted_none rfl _) ?_
      rintro a113 w113 ⟨v113, h113⟩ ⟨v0, ht113⟩
      have hm113 : FrI 86 S [(0, ws.v), (5, .pointer (some ⟨b4, 0, none⟩)), (6, .pointer (some ⟨b22, 0, none⟩)), (7, .int .i64 ((i : Nat) : Int)), (8, .pointer (some ⟨b39, 0, none⟩)), (22, es.v), (23, .int .i64 ((es.l.length : Nat) : Int)), (24, .int .i64 ((i : Nat) : Int)), (58, .bool (decide ((nth es.l i).b ≠ 2)))] [(0, 61, .pointer (some ⟨b22, 0, none⟩)), (1, 62, .pointer (some ⟨b22, 0, none⟩)), (2, 63, .pointer (some ⟨b22, 0, none⟩)), (3, 64, v18), (4, 65, .pointer (some ⟨b39, 0, none⟩)), (5, 66, .int .i64 ((nth es.l i).op)), (6, 67, .pointer (some ⟨b22, 0, none⟩)), (7, 68, .pointer (some ⟨b22, 0, none⟩)), (8, 69, .pointer (some ⟨b22, 0, none⟩)), (9, 70, v18), (10, 71, .pointer (some ⟨b39, 0, none⟩)), (11, 72, .int .i64 ((nth es.l i).op)), (12, 73, .pointer (some (padr v18 1 (((nth es.l i).op).toNat) 0))), (13, 74, (nth M (((nth es.l i).op).toNat)).v), (14, 75, .agg #[.int .i64 ((nth es.l i).op), .int .i64 ((nth es.l i).a), .int .i64 ((nth es.l i).b), .int .i64 ((nth es.l i).c)]), (15, 76, v113)] a := hfr.more (by
       intro k j d v hk hS
       rcases k with _ | _ | _ | _ | _ | _ | _ | _ | _ | _ | _ | _ | _ | _ | _ | _ | k
       ·obtain ⟨rfl, rfl, rfl⟩ : _ = j ∧ _ = d ∧ _ = v := by simpa using hk
        exact hfr.at_ 0 _ _ _ rfl hS
       ·obtain ⟨rfl, rfl, rfl⟩ : _ = j ∧ _ = d ∧ _ = v := by simpa using hk
        exact hfr.at_ 1 _ _ _ rfl hS
       ·obtain ⟨rfl, rfl, rfl⟩ : _ = j ∧ _ = d ∧ _ = v := by simpa using hk
        exact hfr.at_ 2 _ _ _ rfl hS
       ·obtain ⟨rfl, rfl, rfl⟩ : _ = j ∧ _ = d ∧ _ = v := by simpa using hk
        exact hfr.at_ 3 _ _ _ rfl hS
       ·obtain ⟨rfl, rfl, rfl⟩ : _ = j ∧ _ = d ∧ _ = v := by simpa using hk
        exact hfr.at_ 4 _ _ _ rfl hS
       ·obtain ⟨rfl, rfl, rfl⟩ : _ = j ∧ _ = d ∧ _ = v := by simpa using hk
        exact hfr.at_ 5 _ _ _ rfl hS
       ·obtain ⟨rfl, rfl, rfl⟩ : _ = j ∧ _ = d ∧ _ = v := by simpa using hk
        exact hfr.at_ 6 _ _ _ rfl hS
       ·obtain ⟨rfl, rfl, rfl⟩ : _ = j ∧ _ = d ∧ _ = v := by simpa using hk
        exact hfr.at_ 7 _ _ _ rfl hS
       ·obtain ⟨rfl, rfl, rfl⟩ : _ = j ∧ _ = d ∧ _ = v := by simpa using hk
        exact hfr.at_ 8 _ _ _ rfl hS
       ·obtain ⟨rfl, rfl, rfl⟩ : _ = j ∧ _ = d ∧ _ = v := by simpa using hk
        exact hfr.at_ 9 _ _ _ rfl hS
       ·obtain ⟨rfl, rfl, rfl⟩ : _ = j ∧ _ = d ∧ _ = v := by simpa using hk
        exact hfr.at_ 10 _ _ _ rfl hS
       ·obtain ⟨rfl, rfl, rfl⟩ : _ = j ∧ _ = d ∧ _ = v := by simpa using hk
        exact hfr.at_ 11 _ _ _ rfl hS
       ·obtain ⟨rfl, rfl, rfl⟩ : _ = j ∧ _ = d ∧ _ = v := by simpa using hk
        exact hfr.at_ 12 _ _ _ rfl hS
       ·obtain ⟨rfl, rfl, rfl⟩ : _ = j ∧ _ = d ∧ _ = v := by simpa using hk
        exact hfr.at_ 13 _ _ _ rfl hS
       ·obtain ⟨rfl, rfl, rfl⟩ : _ = j ∧ _ = d ∧ _ = v := by simpa using hk
        exact hfr.at_ 14 _ _ _ rfl hS
       ·obtain ⟨rfl, rfl, rfl⟩ : _ = j ∧ _ = d ∧ _ = v := by simpa using hk
        exact no_way hS hSi
       · simp at hk)
      exact Or.inr (Or.inl (⟨upd_self _ _, un rfl hw16, un rfl hw18, v113, hm113.step ht113 h113.fr.defers (h113.fr.at_ 76 _ rfl) 15 rfl rfl rfl rfl, (h113.sh.sel (L' := [.own 36 (⟨v113, [(nth es.l i)]⟩ : Ls Ins), .blk b39 36 [.int .i64 ((nth es.l i).op), .int .i64 ((nth es.l i).a), .int .i64 ((nth es.l i).b), .int .i64 ((nth es.l i).c)], .blk b22 90 [v18, .map (some g19)], .big (seenX 24 g19 ([] : List (List Nat × Ls (Ls Int)))), .big (matX (.own 36) 37 v18 M), .blk b4 31 [.int .i64 0, .int .i64 0, .int .i64 0], .at_ ws, .at_ es]) [0, 1, 2, 3, 4, 5, 6, 7] (by decide) ⟨rfl, rfl, rfl, rfl, rfl, rfl, rfl, rfl, trivial⟩)⟩))
     ·
      exact no_way hw15 hSi
     ·
      exact no_way hw15 hSi
     ·
      exact no_way hw15 hSi
    ·
     obtain rfl : _ = o := Option.some.inj ho
     have hd13 : S 13 = true := depAt hdep 0 rfl rfl
     have hd15 : S 15 = true := depAt hdep 1 rfl rfl
     rcases hI with ⟨hw15, hw16, hw18, hfr, hsh⟩ | ⟨hw15, hw16, hw18, v7015, hfr, hsh⟩ | ⟨hw15, hw16, hw18, v7015, v7016, hfr, hsh⟩ | ⟨hw15, hw16, hw18, v7015, v7016, hfr, hsh⟩
     ·
      exact no_way hd15 hw15
     ·
      have hs := St.mk (Fr.cons (Fr.cons hfr.fr0 (hfr.at_ 13 13 74 _ rfl hd13)) (hfr.at_ 15 15 76 _ rfl hd15)) hsh
      refine step_ex (x_appMat (i := (((nth es.l i).op).toNat)) (r := 4) (rm := 0) (m := (⟨v7015, [(nth es.l i)]⟩ : Ls Ins)) hs sl_37 ti_36 rfl rfl rfl rfl (show ((nth es.l i).op).toNat < M.length from (by omega)) rfl rfl rfl (fun w h => (h.own 0 rfl)) (fun b hb => own_on (hs.sh.ok _ (List.mem_of_getElem? (i := 0) rfl)) hb) rfl rfl rfl inferInstance (show (((nth M (((nth es.l i).op).toNat)).l).length + ([(nth es.l i)]).length) * 32 ≤ 140737488355328 ∧ ((nth M (((nth es.l i).op).toNat)).l).length + ([(nth es.l i)]).length ≤ 140737488355328 from (by first | omega | (simp only [lens9]; omega))) rfl rfl) (wanted_none rfl _) ?_
      rintro a114 w114 ⟨v114, h114⟩ ⟨v0, ht114⟩
      have hm114 : FrI 86 S [(0, ws.v), (5, .pointer (some ⟨b4, 0, none⟩)), (6, .pointer (some ⟨b22, 0, none⟩)), (7, .int .i64 ((i : Nat) : Int)), (8, .pointer (some ⟨b39, 0, none⟩)), (22, es.v), (23, .int .i64 ((es.l.length : Nat) : Int)), (24, .int .i64 ((i : Nat) : Int)), (58, .bool (decide ((nth es.l i).b ≠ 2)))] [(0, 61, .pointer (some ⟨b22, 0, none⟩)), (1, 62, .pointer (some ⟨b22, 0, none⟩)), (2, 63, .pointer (some ⟨b22, 0, none⟩)), (3, 64, v18), (4, 65, .pointer (some ⟨b39, 0, none⟩)), (5, 66, .int .i64 ((nth es.l i).op)), (6, 67, .pointer (some ⟨b22, 0, none⟩)), (7, 68, .pointer (some ⟨b22, 0, none⟩)), (8, 69, .pointer (some ⟨b22, 0, none⟩)), (9, 70, v18), (10, 71, .pointer (some ⟨b39, 0, none⟩)), (11, 72, .int .i64 ((nth es.l i).op)), (12, 73, .pointer (some (padr v18 1 (((nth es.l i).op).toNat) 0))), (13, 74, (nth M (((nth es.l i).op).toNat)).v), (14, 75, .agg #[.int .i64 ((nth es.l i).op), .int .i64 ((nth es.l i).a), .int .i64 ((nth es.l i).b), .int .i64 ((nth es.l i).c)]), (15, 76, v7015), (16, 77, v114), (17, 78, .pointer (some (padr v18 1 (((nth es.l i).op).toNat) 0)))] a := hfr.more (by
       intro k j d v hk hS
       rcases k with _ | _ | _ | _ | _ | _ | _ | _ | _ | _ | _ | _ | _ | _ | _ | _ | _ | _ | k
       ·obtain ⟨rfl, rfl, rfl⟩ : _ = j ∧ _ = d ∧ _ = v := by simpa using hk
        exact hfr.at_ 0 _ _ _ rfl hS
       ·obtain ⟨rfl, rfl, rfl⟩ : _ = j ∧ _ = d ∧ _ = v := by simpa using hk
        exact hfr.at_ 1 _ _ _ rfl hS
       ·obtain ⟨rfl, rfl, rfl⟩ : _ = j ∧ _ = d ∧ _ = v := by simpa using hk
        exact hfr.at_ 2 _ _ _ rfl hS
       ·obtain ⟨rfl, rfl, rfl⟩ : _ = j ∧ _ = d ∧ _ = v := by simpa using hk
        exact hfr.at_ 3 _ _ _ rfl hS
       ·obtain ⟨rfl, rfl, rfl⟩ : _ = j ∧ _ = d ∧ _ = v := by simpa using hk
        exact hfr.at_ 4 _ _ _ rfl hS
       ·obtain ⟨rfl, rfl, rfl⟩ : _ = j ∧ _ = d ∧ _ = v := by simpa using hk
        exact hfr.at_ 5 _ _ _ rfl hS
       ·obtain ⟨rfl, rfl, rfl⟩ : _ = j ∧ _ = d ∧ _ = v := by simpa using hk
        exact hfr.at_ 6 _ _ _ rfl hS
       ·obtain ⟨rfl, rfl, rfl⟩ : _ = j ∧ _ = d ∧ _ = v := by simpa using hk
        exact hfr.at_ 7 _ _ _ rfl hS
       ·obtain ⟨rfl, rfl, rfl⟩ : _ = j ∧ _ = d ∧ _ = v := by simpa using hk
        exact hfr.at_ 8 _ _ _ rfl hS
       ·obtain ⟨rfl, rfl, rfl⟩ : _ = j ∧ _ = d ∧ _ = v := by simpa using hk
        exact hfr.at_ 9 _ _ _ rfl hS
       ·obtain ⟨rfl, rfl, rfl⟩ : _ = j ∧ _ = d ∧ _ = v := by simpa using hk
        exact hfr.at_ 10 _ _ _ rfl hS
       ·obtain ⟨rfl, rfl, rfl⟩ : _ = j ∧ _ = d ∧ _ = v := by simpa using hk
        exact hfr.at_ 11 _ _ _ rfl hS
       ·obtain ⟨rfl, rfl, rfl⟩ : _ = j ∧ _ = d ∧ _ = v := by simpa using hk
        exact hfr.at_ 12 _ _ _ rfl hS
       ·obtain ⟨rfl, rfl, rfl⟩ : _ = j ∧ _ = d ∧ _ = v := by simpa using hk
        exact hfr.at_ 13 _ _ _ rfl hS
       ·obtain ⟨rfl, rfl, rfl⟩ : _ = j ∧ _ = d ∧ _ = v := by simpa using hk
        exact hfr.at_ 14 _ _ _ rfl hS
       ·obtain ⟨rfl, rfl, rfl⟩ : _ = j ∧ _ = d ∧ _ = v := by simpa using hk
        exact hfr.at_ 15 _ _ _ rfl hS
       ·obtain ⟨rfl, rfl, rfl⟩ : _ = j ∧ _ = d ∧ _ = v := by simpa using hk
        exact no_way hS hSi
       ·obtain ⟨rfl, rfl, rfl⟩ : _ = j ∧ _ = d ∧ _ = v := by simpa using hk
        exact no_way (cA hcl 17 16 rfl hS) hSi
       · simp at hk)
      exact Or.inr (Or.inr (Or.inl (⟨un rfl hw15, upd_self _ _, un rfl hw18, v7015, v114, hm114.step ht114 h114.fr.defers (h114.fr.at_ 77 _ rfl) 16 rfl rfl rfl rfl, (h114.sh.sel (L' := [.own 36 (⟨v114, (nth M (((nth es.l i).op).toNat)).l ++ ([(nth es.l i)])⟩ : Ls Ins), .own 36 (⟨v7015, [(nth es.l i)]⟩ : Ls Ins), .blk b39 36 [.int .i64 ((nth es.l i).op), .int .i64 ((nth es.l i).a), .int .i64 ((nth es.l i).b), .int .i64 ((nth es.l i).c)], .blk b22 90 [v18, .map (some g19)], .big (seenX 24 g19 ([] : List (List Nat × Ls (Ls Int)))), .big (holeX (.own 36) 37 v18 M (((nth es.l i).op).toNat)), .blk b4 31 [.int .i64 0, .int .i64 0, .int .i64 0], .at_ ws, .at_ es]) [0, 1, 2, 3, 4, 5, 6, 7, 8] (by decide) ⟨rfl, rfl, rfl, rfl, rfl, rfl, rfl, rfl, rfl, trivial⟩)⟩)))
     ·
      exact no_way hw16 hSi
     ·
      exact no_way hw16 hSi
    ·
     obtain rfl : _ = o := Option.some.inj ho
     have hd3 : S 3 = true := depAt hdep 0 rfl rfl
     have hd5 : S 5 = true := depAt hdep 1 rfl rfl
     have hd15 : S 15 = true := depAt hdep 17 rfl rfl
     have hd16 : S 16 = true := depAt hdep 18 rfl rfl
     rcases hI with ⟨hw15, hw16, hw18, hfr, hsh⟩ | ⟨hw15, hw16, hw18, v7015, hfr, hsh⟩ | ⟨hw15, hw16, hw18, v7015, v7016, hfr, hsh⟩ | ⟨hw15, hw16, hw18, v7015, v7016, hfr, hsh⟩
     ·
      exact no_way hd15 hw15
     ·
      exact no_way hd16 hw16
     ·
      exact sq hfr (Fr.cons (Fr.cons hfr.fr0 (hfr.at_ 3 3 64 _ rfl hd3)) (hfr.at_ 5 5 66 _ rfl hd5)) hsh (r_ixI (s := (⟨v18, rvs M⟩ : Ls RV)) (q := (nth es.l i).op) sl_87 ti_37 rfl rfl rfl (fun w h => (h.holeAt 5 rfl)) (by rw [rvs_len]; exact (show 0 ≤ (nth es.l i).op ∧ (nth es.l i).op < M.length from (by omega)))) 17 rfl rfl rfl rfl rfl rfl fun a hg => Or.inr (Or.inr (Or.inl (⟨un rfl hw15, un rfl hw16, un rfl hw18, v7015, v7016, hg, hsh⟩)))
     ·
      exact no_way (cA hcl 18 17 rfl hw18) hSi
    ·
     obtain rfl : _ = o := Option.some.inj ho
     have hd17 : S 17 = true := depAt hdep 0 rfl rfl
     have hd16 : S 16 = true := depAt hdep 1 rfl rfl
     have hd15 : S 15 = true := depAt hdep 18 rfl rfl
     rcases hI with ⟨hw15, hw16, hw18, hfr, hsh⟩ | ⟨hw15, hw16, hw18, v7015, hfr, hsh⟩ | ⟨hw15, hw16, hw18, v7015, v7016, hfr, hsh⟩ | ⟨hw15, hw16, hw18, v7015, v7016, hfr, hsh⟩
     ·
      exact no_way hd15 hw15
     ·
      exact no_way hd16 hw16
     ·
      have hs := St.mk (Fr.cons (Fr.cons hfr.fr0 (hfr.at_ 16 16 77 _ rfl hd16)) (hfr.at_ 17 17 78 _ rfl hd17)) hsh
      refine step_ex (x_stHole (i := ((nth es.l i).op).toNat) (r := 4) (s := (⟨v7016, (nth M (((nth es.l i).op).toNat)).l ++ ([(nth es.l i)])⟩ : Ls Ins)) hs ti_37 rfl rfl rfl rfl rfl (show ((nth es.l i).op).toNat < M.length from (by omega)) (hs.sh.own 0 rfl)) (wanted_none rfl _) ?_
      rintro a116 w116 h116 ⟨v0, ht116⟩
      have hm116 : FrI 86 S [(0, ws.v), (5, .pointer (some ⟨b4, 0, none⟩)), (6, .pointer (some ⟨b22, 0, none⟩)), (7, .int .i64 ((i : Nat) : Int)), (8, .pointer (some ⟨b39, 0, none⟩)), (22, es.v), (23, .int .i64 ((es.l.length : Nat) : Int)), (24, .int .i64 ((i : Nat) : Int)), (58, .bool (decide ((nth es.l i).b ≠ 2)))] [(0, 61, .pointer (some ⟨b22, 0, none⟩)), (1, 62, .pointer (some ⟨b22, 0, none⟩)), (2, 63, .pointer (some ⟨b22, 0, none⟩)), (3, 64, v18), (4, 65, .pointer (some ⟨b39, 0, none⟩)), (5, 66, .int .i64 ((nth es.l i).op)), (6, 67, .pointer (some ⟨b22, 0, none⟩)), (7, 68, .pointer (some ⟨b22, 0, none⟩)), (8, 69, .pointer (some ⟨b22, 0, none⟩)), (9, 70, v18), (10, 71, .pointer (some ⟨b39, 0, none⟩)), (11, 72, .int .i64 ((nth es.l i).op)), (12, 73, .pointer (some (padr v18 1 (((nth es.l i).op).toNat) 0))), (13, 74, (nth M (((nth es.l i).op).toNat)).v), (14, 75, .agg #[.int .i64 ((nth es.l i).op), .int .i64 ((nth es.l i).a), .int .i64 ((nth es.l i).b), .int .i64 ((nth es.l i).c)]), (15, 76, v7015), (16, 77, v7016), (17, 78, .pointer (some (padr v18 1 (((nth es.l i).op).toNat) 0)))] a := hfr.more (by
       intro k j d v hk hS
       rcases k with _ | _ | _ | _ | _ | _ | _ | _ | _ | _ | _ | _ | _ | _ | _ | _ | _ | _ | k
       ·obtain ⟨rfl, rfl, rfl⟩ : _ = j ∧ _ = d ∧ _ = v := by simpa using hk
        exact hfr.at_ 0 _ _ _ rfl hS
       ·obtain ⟨rfl, rfl, rfl⟩ : _ = j ∧ _ = d ∧ _ = v := by simpa using hk
        exact hfr.at_ 1 _ _ _ rfl hS
       ·obtain ⟨rfl, rfl, rfl⟩ : _ = j ∧ _ = d ∧ _ = v := by simpa using hk
        exact hfr.at_ 2 _ _ _ rfl hS
       ·obtain ⟨rfl, rfl, rfl⟩ : _ = j ∧ _ = d ∧ _ = v := by simpa using hk
        exact hfr.at_ 3 _ _ _ rfl hS
       ·obtain ⟨rfl, rfl, rfl⟩ : _ = j ∧ _ = d ∧ _ = v := by simpa using hk
        exact hfr.at_ 4 _ _ _ rfl hS
       ·obtain ⟨rfl, rfl, rfl⟩ : _ = j ∧ _ = d ∧ _ = v := by simpa using hk
        exact hfr.at_ 5 _ _ _ rfl hS
       ·obtain ⟨rfl, rfl, rfl⟩ : _ = j ∧ _ = d ∧ _ = v := by simpa using hk
        exact hfr.at_ 6 _ _ _ rfl hS
       ·obtain ⟨rfl, rfl, rfl⟩ : _ = j ∧ _ = d ∧ _ = v := by simpa using hk
        exact hfr.at_ 7 _ _ _ rfl hS
       ·obtain ⟨rfl, rfl, rfl⟩ : _ = j ∧ _ = d ∧ _ = v := by simpa using hk
        exact hfr.at_ 8 _ _ _ rfl hS
       ·obtain ⟨rfl, rfl, rfl⟩ : _ = j ∧ _ = d ∧ _ = v := by simpa using hk
        exact hfr.at_ 9 _ _ _ rfl hS
       ·obtain ⟨rfl, rfl, rfl⟩ : _ = j ∧ _ = d ∧ _ = v := by simpa using hk
        exact hfr.at_ 10 _ _ _ rfl hS
       ·obtain ⟨rfl, rfl, rfl⟩ : _ = j ∧ _ = d ∧ _ = v := by simpa using hk
        exact hfr.at_ 11 _ _ _ rfl hS
       ·obtain ⟨rfl, rfl, rfl⟩ : _ = j ∧ _ = d ∧ _ = v := by simpa using hk
        exact hfr.at_ 12 _ _ _ rfl hS
       ·obtain ⟨rfl, rfl, rfl⟩ : _ = j ∧ _ = d ∧ _ = v := by simpa using hk
        exact hfr.at_ 13 _ _ _ rfl hS
       ·obtain ⟨rfl, rfl, rfl⟩ : _ = j ∧ _ = d ∧ _ = v := by simpa using hk
        exact hfr.at_ 14 _ _ _ rfl hS
       ·obtain ⟨rfl, rfl, rfl⟩ : _ = j ∧ _ = d ∧ _ = v := by simpa using hk
        exact hfr.at_ 15 _ _ _ rfl hS
       ·obtain ⟨rfl, rfl, rfl⟩ : _ = j ∧ _ = d ∧ _ = v := by simpa using hk
        exact hfr.at_ 16 _ _ _ rfl hS
       ·obtain ⟨rfl, rfl, rfl⟩ : _ = j ∧ _ = d ∧ _ = v := by simpa using hk
        exact hfr.at_ 17 _ _ _ rfl hS
       · simp at hk)
      exact Or.inr (Or.inr (Or.inr (⟨un rfl hw15, un rfl hw16, upd_self _ _, v7015, v7016, hm116.none ht116 h116.fr.defers rfl, (h116.sh.sel (L' := [.own 36 (⟨v7015, [(nth es.l i)]⟩ : Ls Ins), .blk b39 36 [.int .i64 ((nth es.l i).op), .int .i64 ((nth es.l i).a), .int .i64 ((nth es.l i).b), .int .i64 ((nth es.l i).c)], .blk b22 90 [v18, .map (some g19)], .big (seenX 24 g19 ([] : List (List Nat × Ls (Ls Int)))), .big (matX (.own 36) 37 v18 (M.set (((nth es.l i).op).toNat) (⟨v7016, (nth M (((nth es.l i).op).toNat)).l ++ ([(nth es.l i)])⟩ : Ls Ins))), .blk b4 31 [.int .i64 0, .int .i64 0, .int .i64 0], .at_ ws, .at_ es]) [0, 1, 2, 3, 4, 5, 6, 7] (by decide) ⟨rfl, rfl, rfl, rfl, rfl, rfl, rfl, rfl, trivial⟩)⟩)))
     ·
      exact no_way hw18 hSi
    · simp at ho
   intro S hall a w hI
   clear h76
   rcases hI with ⟨hw15, hw16, hw18, hfr, hsh⟩ | ⟨hw15, hw16, hw18, v7015, hfr, hsh⟩ | ⟨hw15, hw16, hw18, v7015, v7016, hfr, hsh⟩ | ⟨hw15, hw16, hw18, v7015, v7016, hfr, hsh⟩
   · exact no_way (hall 15 (by decide)) hw15
   · exact no_way (hall 16 (by decide)) hw16
   · exact no_way (hall 18 (by decide)) hw18
   have h117 : St 86 (fun _ => False) W a w _ [.own 36 (⟨v7015, [(nth es.l i)]⟩ : Ls Ins), .blk b39 36 [.int .i64 ((nth es.l i).op), .int .i64 ((nth es.l i).a), .int .i64 ((nth es.l i).b), .int .i64 ((nth es.l i).c)], .blk b22 90 [v18, .map (some g19)], .big (seenX 24 g19 ([] : List (List Nat × Ls (Ls Int)))), .big (matX (.own 36) 37 v18 (M.set (((nth es.l i).op).toNat) (⟨v7016, (nth M (((nth es.l i).op).toNat)).l ++ ([(nth es.l i)])⟩ : Ls Ins))), .blk b4 31 [.int .i64 0, .int .i64 0, .int .i64 0], .at_ ws, .at_ es] := ⟨hfr.fr0, hsh⟩
   clear hall hfr hsh hw15 hw16 hw18
   refine hK34 _ _ ?_
   refine wp_region_lit ?_
   refine wv h117 (r_addN (p := i) (q := 1) rfl rfl rfl (show i + 1 < 9223372036854775808 from (by omega))) rfl rfl fun a118 h118 => ?_; clear h117
   refine wms 1 h118 rfl fun a119 h119 => ?_; clear h118
   refine wpList_nil ?_
   refine x_again ⟨_, ?_, i + 1, M.set (((nth es.l i).op).toNat) (⟨v7016, (nth M (((nth es.l i).op).toNat)).l ++ ([(nth es.l i)])⟩ : Ls Ins), ?_, ?_, ?_, ?_, h119.nrm ⟨rfl, rfl, rfl, rfl, rfl, rfl, trivial⟩ [2, 3, 4, 5, 6, 7] (by decide) ⟨rfl, rfl, rfl, rfl, rfl, rfl, trivial⟩, rfl⟩
   · rw [hm29]; first | omega | (simp only [lens9]; omega)
   · omega
   · rw [List.length_set]; exact hM
   · exact rows_next hM (by omega) (by omega) hrows0
   · exact lens_next (by omega) hlen0
  have hp69 : ¬ ((nth es.l i).b ≠ 1) := of_decide_eq_false hb69
  refine wl_skip h68 (wanted_no h68.fr rfl rfl rfl rfl hb69) rfl rfl fun a120 h120 => ?_; clear h68
  refine wl_skip h120 (wanted_no h120.fr rfl rfl rfl rfl hb69) rfl rfl fun a121 h121 => ?_; clear h120
  refine wl_skip h121 (wanted_no h121.fr rfl rfl rfl rfl hb69) rfl rfl fun a122 h122 => ?_; clear h121
  refine wl_val h122 (r_pickF rfl rfl hb69 rfl) (wanted_yes h122.fr rfl rfl rfl rfl (decide_eq_false (by omega))) rfl rfl fun a123 h123 => ?_; clear h122
  refine wv h123 (r_pickF rfl rfl (decide_eq_false (by omega)) rfl) rfl rfl fun a124 h124 => ?_; clear h123
  refine wpList_nil (hK43 _ _ ?_)
  have h125 : St 86 (fun _ => False) W a124 w41 [(0, ws.v), (5, .pointer (some ⟨b4, 0, none⟩)), (6, .pointer (some ⟨b22, 0, none⟩)), (7, .int .i64 ((i : Nat) : Int)), (8, .pointer (some ⟨b39, 0, none⟩)), (22, es.v), (23, .int .i64 ((es.l.length : Nat) : Int)), (24, .int .i64 ((i : Nat) : Int)), (58, .bool false)] [.blk b39 36 [.int .i64 ((nth es.l i).op), .int .i64 ((nth es.l i).a), .int .i64 ((nth es.l i).b), .int .i64 ((nth es.l i).c)], .blk b22 90 [v18, .map (some g19)], .big (seenX 24 g19 ([] : List (List Nat × Ls (Ls Int)))), .big (matX (.own 36) 37 v18 M), .blk b4 31 [.int .i64 0, .int .i64 0, .int .i64 0], .at_ ws, .at_ es] := h124.nrm ⟨rfl, rfl, rfl, rfl, rfl, rfl, rfl, rfl, rfl, trivial⟩ [0, 1, 2, 3, 4, 5, 6] (by decide) ⟨rfl, rfl, rfl, rfl, rfl, rfl, rfl, trivial⟩
  clear h124
  refine x_condF h125 rfl rfl ?_
  refine wp_skip ?_
  refine hK42 _ _ ?_
  have hlq := hlen0 (nth es.l i).op.toNat (by omega)
  have h126 : St 86 (fun _ => False) W a124 w41 [(0, ws.v), (5, .pointer (some ⟨b4, 0, none⟩)), (6, .pointer (some ⟨b22, 0, none⟩)), (7, .int .i64 ((i : Nat) : Int)), (8, .pointer (some ⟨b39, 0, none⟩)), (22, es.v), (23, .int .i64 ((es.l.length : Nat) : Int)), (24, .int .i64 ((i : Nat) : Int)), (58, .bool false)] [.blk b39 36 [.int .i64 ((nth es.l i).op), .int .i64 ((nth es.l i).a), .int .i64 ((nth es.l i).b), .int .i64 ((nth es.l i).c)], .blk b22 90 [v18, .map (some g19)], .big (seenX 24 g19 ([] : List (List Nat × Ls (Ls Int)))), .big (matX (.own 36) 37 v18 M), .blk b4 31 [.int .i64 0, .int .i64 0, .int .i64 0], .at_ ws, .at_ es] := h125.nrm ⟨rfl, rfl, rfl, rfl, rfl, rfl, rfl, rfl, rfl, trivial⟩ [0, 1, 2, 3, 4, 5, 6] (by decide) ⟨rfl, rfl, rfl, rfl, rfl, rfl, rfl, trivial⟩
  clear h125
  refine x_any (fun S a w => (S 15 = false ∧ S 16 = false ∧ S 18 = false ∧ FrI 86 S [(0, ws.v), (5, .pointer (some ⟨b4, 0, none⟩)), (6, .pointer (some ⟨b22, 0, none⟩)), (7, .int .i64 ((i : Nat) : Int)), (8, .pointer (some ⟨b39, 0, none⟩)), (22, es.v), (23, .int .i64 ((es.l.length : Nat) : Int)), (24, .int .i64 ((i : Nat) : Int)), (58, .bool false)] [(0, 61, .pointer (some ⟨b22, 0, none⟩)), (1, 62, .pointer (some ⟨b22, 0, none⟩)), (2, 63, .pointer (some ⟨b22, 0, none⟩)), (3, 64, v18), (4, 65, .pointer (some ⟨b39, 0, none⟩)), (5, 66, .int .i64 ((nth es.l i).op)), (6, 67, .pointer (some ⟨b22, 0, none⟩)), (7, 68, .pointer (some ⟨b22, 0, none⟩)), (8, 69, .pointer (some ⟨b22, 0, none⟩)), (9, 70, v18), (10, 71, .pointer (some ⟨b39, 0, none⟩)), (11, 72, .int .i64 ((nth es.l i).op)), (12, 73, .pointer (some (padr v18 1 (((nth es.l i).op).toNat) 0))), (13, 74, (nth M (((nth es.l i).op).toNat)).v), (14, 75, .agg #[.int .i64 ((nth es.l i).op), .int .i64 ((nth es.l i).a), .int .i64 ((nth es.l i).b), .int .i64 ((nth es.l i).c)])] a ∧ Sh (fun _ => False) W w [.blk b39 36 [.int .i64 ((nth es.l i).op), .int .i64 ((nth es.l i).a), .int .i64 ((nth es.l i).b), .int .i64 ((nth es.l i).c)], .blk b22 90 [v18, .map (some g19)], .big (seenX 24 g19 ([] : List (List Nat × Ls (Ls Int)))), .big (matX (.own 36) 37 v18 M), .blk b4 31 [.int .i64 0, .int .i64 0, .int .i64 0], .at_ ws, .at_ es]) ∨ (S 15 = true ∧ S 16 = false ∧ S 18 = false ∧ ∃ (v7015 : Value), FrI 86 S [(0, ws.v), (5, .pointer (some ⟨b4, 0, none⟩)), (6, .pointer (some ⟨b22, 0, none⟩)), (7, .int .i64 ((i : Nat) : Int)), (8, .pointer (some ⟨b39, 0, none⟩)), (22, es.v), (23, .int .i64 ((es.l.length : Nat) : Int)), (24, .int .i64 ((i : Nat) : Int)), (58, .bool false)] [(0, 61, .pointer (some ⟨b22, 0, none⟩)), (1, 62, .pointer (some ⟨b22, 0, none⟩)), (2, 63, .pointer (some ⟨b22, 0, none⟩)), (3, 64, v18), (4, 65, .pointer (some ⟨b39, 0, none⟩)), (5, 66, .int .i64 ((nth es.l i).op)), (6, 67, .pointer (some ⟨b22, 0, none⟩)), (7, 68, .pointer (some ⟨b22, 0, none⟩)), (8, 69, .pointer (some ⟨b22, 0, none⟩)), (9, 70, v18), (10, 71, .pointer (some ⟨b39, 0, none⟩)), (11, 72, .int .i64 ((nth es.l i).op)), (12, 73, .pointer (some (padr v18 1 (((nth es.l i).op).toNat) 0))), (13, 74, (nth M (((nth es.l i).op).toNat)).v), (14, 75, .agg #[.int .i64 ((nth es.l i).op), .int .i64 ((nth es.l i).a), .int .i64 ((nth es.l i).b), .int .i64 ((nth es.l i).c)]), (15, 76, v7015)] a ∧ Sh (fun _ => False) W w [.own 36 (⟨v7015, [(nth es.l i)]⟩ : Ls Ins), .blk b39 36 [.int .i64 ((nth es.l i).op), .int .i64 ((nth es.l i).a), .int .i64 ((nth es.l i).b), .int .i64 ((nth es.l i).c)], .blk b22 90 [v18, .map (some g19)], .big (seenX 24 g19 ([] : List (List Nat × Ls (Ls Int)))), .big (matX (.own 36) 37 v18 M), .blk b4 31 [.int .i64 0, .int .i64 0, .int .i64 0], .at_ ws, .at_ es]) ∨ (S 15 = true ∧ S 16 = true ∧ S 18 = false ∧ ∃ (v7015 : Value) (v7016 : Value), FrI 86 S [(0, ws.v), (5, .pointer (some ⟨b4, 0, none⟩)), (6, .pointer (some ⟨b22, 0, none⟩)), (7, .int .i64 ((i : Nat) : Int)), (8, .pointer (some ⟨b39, 0, none⟩)), (22, es.v), (23, .int .i64 ((es.l.length : Nat) : Int)), (24, .int .i64 ((i : Nat) : Int)), (58, .bool false)] [(0, 61, .pointer (some ⟨b22, 0, none⟩)), (1, 62, .pointer (some ⟨b22, 0, none⟩)), (2, 63, .pointer (some ⟨b22, 0, none⟩)), (3, 64, v18), (4, 65, .pointer (some ⟨b39, 0, none⟩)), (5, 66, .int .i64 ((nth es.l i).op)), (6, 67, .pointer (some ⟨b22, 0, none⟩)), (7, 68, .pointer (some ⟨b22, 0, none⟩)), (8, 69, .pointer (some ⟨b22, 0, none⟩)), (9, 70, v18), (10, 71, .pointer (some ⟨b39, 0, none⟩)), (11, 72, .int .i64 ((nth es.l i).op)), (12, 73, .pointer (some (padr v18 1 (((nth es.l i).op).toNat) 0))), (13, 74, (nth M (((nth es.l i).op).toNat)).v), (14, 75, .agg #[.int .i64 ((nth es.l i).op), .int .i64 ((nth es.l i).a), .int .i64 ((nth es.l i).b), .int .i64 ((nth es.l i).c)]), (15, 76, v7015), (16, 77, v7016), (17, 78, .pointer (some (padr v18 1 (((nth es.l i).op).toNat) 0)))] a ∧ Sh (fun _ => False) W w [.own 36 (⟨v7016, (nth M (((nth es.l i).op).toNat)).l ++ ([(nth es.l i)])⟩ : Ls Ins), .own 36 (⟨v7015, [(nth es.l i)]⟩ : Ls Ins), .blk b39 36 [.int .i64 ((nth es.l i).op), .int .i64 ((nth es.l i).a), .int .i64 ((nth es.l i).b), .int .i64 ((nth es.l i).c)], .blk b22 90 [v18, .map (some g19)], .big (seenX 24 g19 ([] : List (List Nat × Ls (Ls Int)))), .big (holeX (.own 36) 37 v18 M (((nth es.l i).op).toNat)), .blk b4 31 [.int .i64 0, .int .i64 0, .int .i64 0], .at_ ws, .at_ es]) ∨ (S 15 = true ∧ S 16 = true ∧ S 18 = true ∧ ∃ (v7015 : Value) (v7016 : Value), FrI 86 S [(0, ws.v), (5, .pointer (some ⟨b4, 0, none⟩)), (6, .pointer (some ⟨b22, 0, none⟩)), (7, .int .i64 ((i : Nat) : Int)), (8, .pointer (some ⟨b39, 0, none⟩)), (22, es.v), (23, .int .i64 ((es.l.length : Nat) : Int)), (24, .int .i64 ((i : Nat) : Int)), (58, .bool false)] [(0, 61, .pointer (some ⟨b22, 0, none⟩)), (1, 62, .pointer (some ⟨b22, 0, none⟩)), (2, 63, .pointer (some ⟨b22, 0, none⟩)), (3, 64, v18), (4, 65, .pointer (some ⟨b39, 0, none⟩)), (5, 66, .int .i64 ((nth es.l i).op)), (6, 67, .pointer (some ⟨b22, 0, none⟩)), (7, 68, .pointer (some ⟨b22, 0, none⟩)), (8, 69, .pointer (some ⟨b22, 0, none⟩)), (9, 70, v18), (10, 71, .pointer (some ⟨b39, 0, none⟩)), (11, 72, .int .i64 ((nth es.l i).op)), (12, 73, .pointer (some (padr v18 1 (((nth es.l i).op).toNat) 0))), (13, 74, (nth M (((nth es.l i).op).toNat)).v), (14, 75, .agg #[.int .i64 ((nth es.l i).op), .int .i64 ((nth es.l i).a), .int .i64 ((nth es.l i).b), .int .i64 ((nth es.l i).c)]), (15, 76, v7015), (16, 77, v7016), (17, 78, .pointer (some (padr v18 1 (((nth es.l i).op).toNat) 0)))] a ∧ Sh (fun _ => False) W w [.own 36 (⟨v7015, [(nth es.l i)]⟩ : Ls Ins), .blk b39 36 [.int .i64 ((nth es.l i).op), .int .i64 ((nth es.l i).a), .int .i64 ((nth es.l i).b), .int .i64 ((nth es.l i).c)], .blk b22 90 [v18, .map (some g19)], .big (seenX 24 g19 ([] : List (List Nat × Ls (Ls Int)))), .big (matX (.own 36) 37 v18 (M.set (((nth es.l i).op).toNat) (⟨v7016, (nth M (((nth es.l i).op).toNat)).l ++ ([(nth es.l i)])⟩ : Ls Ins))), .blk b4 31 [.int .i64 0, .int .i64 0, .int .i64 0], .at_ ws, .at_ es])) (by kernel_rfl) (by kernel_rfl) (Or.inl (⟨rfl, rfl, rfl, FrI.start h126.fr, h126.sh.drew⟩)) ?_ ?_
  ·intro S i o ho hSi hcl hdep a w hI
   clear h126
   rcases i with _ | _ | _ | _ | _ | _ | _ | _ | _ | _ | _ | _ | _ | _ | _ | _ | _ | _ | _ | i
   ·
    obtain rfl : _ = o := Option.some.inj ho
    rcases hI with ⟨hw15, hw16, hw18, hfr, hsh⟩ | ⟨hw15, hw16, hw18, v7015, hfr, hsh⟩ | ⟨hw15, hw16, hw18, v7015, v7016, hfr, hsh⟩ | ⟨hw15, hw16, hw18, v7015, v7016, hfr, hsh⟩
    ·
     exact sq hfr hfr.fr0 hsh (r_move rfl rfl) 0 rfl rfl rfl rfl rfl rfl fun a hg => Or.inl (⟨un rfl hw15, un rfl hw16, un rfl hw18, hg, hsh⟩)
    ·
     exact sq hfr hfr.fr0 hsh (r_move rfl rfl) 0 rfl rfl rfl rfl rfl rfl fun a hg => Or.inr (Or.inl (⟨un rfl hw15, un rfl hw16, un rfl hw18, v7015, hg, hsh⟩))
    ·
     exact sq hfr hfr.fr0 hsh (r_move rfl rfl) 0 rfl rfl rfl rfl rfl rfl fun a hg => Or.inr (Or.inr (Or.inl (⟨un rfl hw15, un rfl hw16, un rfl hw18, v7015, v7016, hg, hsh⟩)))
    ·
     exact no_way (cA hcl 18 0 rfl hw18) hSi
   ·
    obtain rfl : _ = o := Option.some.inj ho
    have hd0 : S 0 = true := depAt hdep 0 rfl rfl
    rcases hI with ⟨hw15, hw16, hw18, hfr, hsh⟩ | ⟨hw15, hw16, hw18, v7015, hfr, hsh⟩ | ⟨hw15, hw16, hw18, v7015, v7016, hfr, hsh⟩ | ⟨hw15, hw16, hw18, v7015, v7016, hfr, hsh⟩
    ·
     exact sq hfr (Fr.cons hfr.fr0 (hfr.at_ 0 0 61 _ rfl hd0)) hsh (r_nil rfl rfl) 1 rfl rfl rfl rfl rfl rfl fun a hg => Or.inl (⟨un rfl hw15, un rfl hw16, un rfl hw18, hg, hsh⟩)
    ·
     exact sq hfr (Fr.cons hfr.fr0 (hfr.at_ 0 0 61 _ rfl hd0)) hsh (r_nil rfl rfl) 1 rfl rfl rfl rfl rfl rfl fun a hg => Or.inr (Or.inl (⟨un rfl hw15, un rfl hw16, un rfl hw18, v7015, hg, hsh⟩))
    ·
     exact sq hfr (Fr.cons hfr.fr0 (hfr.at_ 0 0 61 _ rfl hd0)) hsh (r_nil rfl rfl) 1 rfl rfl rfl rfl rfl rfl fun a hg => Or.inr (Or.inr (Or.inl (⟨un rfl hw15, un rfl hw16, un rfl hw18, v7015, v7016, hg, hsh⟩)))
    ·
     exact no_way (cA hcl 18 1 rfl hw18) hSi
   ·
    obtain rfl : _ = o := Option.some.inj ho
    have hd1 : S 1 = true := depAt hdep 0 rfl rfl
    rcases hI with ⟨hw15, hw16, hw18, hfr, hsh⟩ | ⟨hw15, hw16, hw18, v7015, hfr, hsh⟩ | ⟨hw15, hw16, hw18, v7015, v7016, hfr, hsh⟩ | ⟨hw15, hw16, hw18, v7015, v7016, hfr, hsh⟩
    ·
     exact sq hfr (Fr.cons hfr.fr0 (hfr.at_ 1 1 62 _ rfl hd1)) hsh (r_fieldB (r := 0) fl_90_0 rfl rfl rfl) 2 rfl rfl rfl rfl rfl rfl fun a hg => Or.inl (⟨un rfl hw15, un rfl hw16, un rfl hw18, hg, hsh⟩)
    ·
     exact sq hfr (Fr.cons hfr.fr0 (hfr.at_ 1 1 62 _ rfl hd1)) hsh (r_fieldB (r := 0) fl_90_0 rfl rfl rfl) 2 rfl rfl rfl rfl rfl rfl fun a hg => Or.inr (Or.inl (⟨un rfl hw15, un rfl hw16, un rfl hw18, v7015, hg, hsh⟩))
    ·
     exact sq hfr (Fr.cons hfr.fr0 (hfr.at_ 1 1 62 _ rfl hd1)) hsh (r_fieldB (r := 0) fl_90_0 rfl rfl rfl) 2 rfl rfl rfl rfl rfl rfl fun a hg => Or.inr (Or.inr (Or.inl (⟨un rfl hw15, un rfl hw16, un rfl hw18, v7015, v7016, hg, hsh⟩)))
    ·
     exact no_way (cA hcl 18 2 rfl hw18) hSi
   ·
    obtain rfl : _ = o := Option.some.inj ho
    have hd2 : S 2 = true := depAt hdep 0 rfl rfl
    rcases hI with ⟨hw15, hw16, hw18, hfr, hsh⟩ | ⟨hw15, hw16, hw18, v7015, hfr, hsh⟩ | ⟨hw15, hw16, hw18, v7015, v7016, hfr, hsh⟩ | ⟨hw15, hw16, hw18, v7015, v7016, hfr, hsh⟩
    ·
     exact sq hfr (Fr.cons hfr.fr0 (hfr.at_ 2 2 63 _ rfl hd2)) hsh (r_ldb (i := 1) ti_87 rfl rfl rfl rfl) 3 rfl rfl rfl rfl rfl rfl fun a hg => Or.inl (⟨un rfl hw15, un rfl hw16, un rfl hw18, hg, hsh⟩)
    ·
     exact sq hfr (Fr.cons hfr.fr0 (hfr.at_ 2 2 63 _ rfl hd2)) hsh (r_ldb (i := 2) ti_87 rfl rfl rfl rfl) 3 rfl rfl rfl rfl rfl rfl fun a hg => Or.inr (Or.inl (⟨un rfl hw15, un rfl hw16, un rfl hw18, v7015, hg, hsh⟩))
    ·
     exact sq hfr (Fr.cons hfr.fr0 (hfr.at_ 2 2 63 _ rfl hd2)) hsh (r_ldb (i := 3) ti_87 rfl rfl rfl rfl) 3 rfl rfl rfl rfl rfl rfl fun a hg => Or.inr (Or.inr (Or.inl (⟨un rfl hw15, un rfl hw16, un rfl hw18, v7015, v7016, hg, hsh⟩)))
    ·
     exact no_way (cA hcl 18 3 rfl hw18) hSi
   ·
    obtain rfl : _ = o := Option.some.inj ho
    rcases hI with ⟨hw15, hw16, hw18, hfr, hsh⟩ | ⟨hw15, hw16, hw18, v7015, hfr, hsh⟩ | ⟨hw15, hw16, hw18, v7015, v7016, hfr, hsh⟩ | ⟨hw15, hw16, hw18, v7015, v7016, hfr, hsh⟩
    ·
     exact sq hfr hfr.fr0 hsh (r_fieldB (r := 0) fl_36_0 rfl rfl rfl) 4 rfl rfl rfl rfl rfl rfl fun a hg => Or.inl (⟨un rfl hw15, un rfl hw16, un rfl hw18, hg, hsh⟩)
    ·
     exact sq hfr hfr.fr0 hsh (r_fieldB (r := 0) fl_36_0 rfl rfl rfl) 4 rfl rfl rfl rfl rfl rfl fun a hg => Or.inr (Or.inl (⟨un rfl hw15, un rfl hw16, un rfl hw18, v7015, hg, hsh⟩))
    ·
     exact sq hfr hfr.fr0 hsh (r_fieldB (r := 0) fl_36_0 rfl rfl rfl) 4 rfl rfl rfl rfl rfl rfl fun a hg => Or.inr (Or.inr (Or.inl (⟨un rfl hw15, un rfl hw16, un rfl hw18, v7015, v7016, hg, hsh⟩)))
    ·
     exact no_way (cA hcl 18 4 rfl hw18) hSi
   ·
    obtain rfl : _ = o := Option.some.inj ho
    have hd4 : S 4 = true := depAt hdep 0 rfl rfl
    rcases hI with ⟨hw15, hw16, hw18, hfr, hsh⟩ | ⟨hw15, hw16, hw18, v7015, hfr, hsh⟩ | ⟨hw15, hw16, hw18, v7015, v7016, hfr, hsh⟩ | ⟨hw15, hw16, hw18, v7015, v7016, hfr, hsh⟩
    ·
     exact sq hfr (Fr.cons hfr.fr0 (hfr.at_ 4 4 65 _ rfl hd4)) hsh (r_ldb (i := 0) ti_3 rfl rfl rfl rfl) 5 rfl rfl rfl rfl rfl rfl fun a hg => Or.inl (⟨un rfl hw15, un rfl hw16, un rfl hw18, hg, hsh⟩)
    ·
     exact sq hfr (Fr.cons hfr.fr0 (hfr.at_ 4 4 65 _ rfl hd4)) hsh (r_ldb (i := 1) ti_3 rfl rfl rfl rfl) 5 rfl rfl rfl rfl rfl rfl fun a hg => Or.inr (Or.inl (⟨un rfl hw15, un rfl hw16, un rfl hw18, v7015, hg, hsh⟩))
    ·
     exact sq hfr (Fr.cons hfr.fr0 (hfr.at_ 4 4 65 _ rfl hd4)) hsh (r_ldb (i := 2) ti_3 rfl rfl rfl rfl) 5 rfl rfl rfl rfl rfl rfl fun a hg => Or.inr (Or.inr (Or.inl (⟨un rfl hw15, un rfl hw16, un rfl hw18, v7015, v7016, hg, hsh⟩)))
    ·
     exact no_way (cA hcl 18 5 rfl hw18) hSi
   ·
    obtain rfl : _ = o := Option.some.inj ho
    rcases hI with ⟨hw15, hw16, hw18, hfr, hsh⟩ | ⟨hw15, hw16, hw18, v7015, hfr, hsh⟩ | ⟨hw15, hw16, hw18, v7015, v7016, hfr, hsh⟩ | ⟨hw15, hw16, hw18, v7015, v7016, hfr, hsh⟩
    ·
     exact sq hfr hfr.fr0 hsh (r_move rfl rfl) 6 rfl rfl rfl rfl rfl rfl fun a hg => Or.inl (⟨un rfl hw15, un rfl hw16, un rfl hw18, hg, hsh⟩)
    ·
     exact sq hfr hfr.fr0 hsh (r_move rfl rfl) 6 rfl rfl rfl rfl rfl rfl fun a hg => Or.inr (Or.inl (⟨un rfl hw15, un rfl hw16, un rfl hw18, v7015, hg, hsh⟩))
    ·
     exact no_way (cA hcl 16 6 rfl hw16) hSi
    ·
     exact no_way (cA hcl 16 6 rfl hw16) hSi
   ·
    obtain rfl : _ = o := Option.some.inj ho
    have hd6 : S 6 = true := depAt hdep 0 rfl rfl
    rcases hI with ⟨hw15, hw16, hw18, hfr, hsh⟩ | ⟨hw15, hw16, hw18, v7015, hfr, hsh⟩ | ⟨hw15, hw16, hw18, v7015, v7016, hfr, hsh⟩ | ⟨hw15, hw16, hw18, v7015, v7016, hfr, hsh⟩
    ·
     exact sq hfr (Fr.cons hfr.fr0 (hfr.at_ 6 6 67 _ rfl hd6)) hsh (r_nil rfl rfl) 7 rfl rfl rfl rfl rfl rfl fun a hg => Or.inl (⟨un rfl hw15, un rfl hw16, un rfl hw18, hg, hsh⟩)
    ·
     exact sq hfr (Fr.cons hfr.fr0 (hfr.at_ 6 6 67 _ rfl hd6)) hsh (r_nil rfl rfl) 7 rfl rfl rfl rfl rfl rfl fun a hg => Or.inr (Or.inl (⟨un rfl hw15, un rfl hw16, un rfl hw18, v7015, hg, hsh⟩))
    ·
     exact no_way (cA hcl 16 7 rfl hw16) hSi
    ·
     exact no_way (cA hcl 16 7 rfl hw16) hSi
   ·
    obtain rfl : _ = o := Option.some.inj ho
    have hd7 : S 7 = true := depAt hdep 0 rfl rfl
    rcases hI with ⟨hw15, hw16, hw18, hfr, hsh⟩ | ⟨hw15, hw16, hw18, v7015, hfr, hsh⟩ | ⟨hw15, hw16, hw18, v7015, v7016, hfr, hsh⟩ | ⟨hw15, hw16, hw18, v7015, v7016, hfr, hsh⟩
    ·
     exact sq hfr (Fr.cons hfr.fr0 (hfr.at_ 7 7 68 _ rfl hd7)) hsh (r_fieldB (r := 0) fl_90_0 rfl rfl rfl) 8 rfl rfl rfl rfl rfl rfl fun a hg => Or.inl (⟨un rfl hw15, un rfl hw16, un rfl hw18, hg, hsh⟩)
    ·
     exact sq hfr (Fr.cons hfr.fr0 (hfr.at_ 7 7 68 _ rfl hd7)) hsh (r_fieldB (r := 0) fl_90_0 rfl rfl rfl) 8 rfl rfl rfl rfl rfl rfl fun a hg => Or.inr (Or.inl (⟨un rfl hw15, un rfl hw16, un rfl hw18, v7015, hg, hsh⟩))
    ·
     exact no_way (cA hcl 16 8 rfl hw16) hSi
    ·
     exact no_way (cA hcl 16 8 rfl hw16) hSi
   ·
    obtain rfl : _ = o := Option.some.inj ho
    have hd8 : S 8 = true := depAt hdep 0 rfl rfl
    rcases hI with ⟨hw15, hw16, hw18, hfr, hsh⟩ | ⟨hw15, hw16, hw18, v7015, hfr, hsh⟩ | ⟨hw15, hw16, hw18, v7015, v7016, hfr, hsh⟩ | ⟨hw15, hw16, hw18, v7015, v7016, hfr, hsh⟩
    ·
     exact sq hfr (Fr.cons hfr.fr0 (hfr.at_ 8 8 69 _ rfl hd8)) hsh (r_ldb (i := 1) ti_87 rfl rfl rfl rfl) 9 rfl rfl rfl rfl rfl rfl fun a hg => Or.inl (⟨un rfl hw15, un rfl hw16, un rfl hw18, hg, hsh⟩)
    ·
     exact sq hfr (Fr.cons hfr.fr0 (hfr.at_ 8 8 69 _ rfl hd8)) hsh (r_ldb (i := 2) ti_87 rfl rfl rfl rfl) 9 rfl rfl rfl rfl rfl rfl fun a hg => Or.inr (Or.inl (⟨un rfl hw15, un rfl hw16, un rfl hw18, v7015, hg, hsh⟩))
    ·
     exact no_way (cA hcl 16 9 rfl hw16) hSi
    ·
     exact no_way (cA hcl 16 9 rfl hw16) hSi
   ·
    obtain rfl : _ = o := Option.some.inj ho
    rcases hI with ⟨hw15, hw16, hw18, hfr, hsh⟩ | ⟨hw15, hw16, hw18, v7015, hfr, hsh⟩ | ⟨hw15, hw16, hw18, v7015, v7016, hfr, hsh⟩ | ⟨hw15, hw16, hw18, v7015, v7016, hfr, hsh⟩
    ·
     exact sq hfr hfr.fr0 hsh (r_fieldB (r := 0) fl_36_0 rfl rfl rfl) 10 rfl rfl rfl rfl rfl rfl fun a hg => Or.inl (⟨un rfl hw15, un rfl hw16, un rfl hw18, hg, hsh⟩)
    ·
     exact sq hfr hfr.fr0 hsh (r_fieldB (r := 0) fl_36_0 rfl rfl rfl) 10 rfl rfl rfl rfl rfl rfl fun a hg => Or.inr (Or.inl (⟨un rfl hw15, un rfl hw16, un rfl hw18, v7015, hg, hsh⟩))
    ·
     exact no_way (cA hcl 16 10 rfl hw16) hSi
    ·
     exact no_way (cA hcl 16 10 rfl hw16) hSi
   ·
    obtain rfl : _ = o := Option.some.inj ho
    have hd10 : S 10 = true := depAt hdep 0 rfl rfl
    rcases hI with ⟨hw15, hw16, hw18, hfr, hsh⟩ | ⟨hw15, hw16, hw18, v7015, hfr, hsh⟩ | ⟨hw15, hw16, hw18, v7015, v7016, hfr, hsh⟩ | ⟨hw15, hw16, hw18, v7015, v7016, hfr, hsh⟩
    ·
     exact sq hfr (Fr.cons hfr.fr0 (hfr.at_ 10 10 71 _ rfl hd10)) hsh (r_ldb (i := 0) ti_3 rfl rfl rfl rfl) 11 rfl rfl rfl rfl rfl rfl fun a hg => Or.inl (⟨un rfl hw15, un rfl hw16, un rfl hw18, hg, hsh⟩)
    ·
     exact sq hfr (Fr.cons hfr.fr0 (hfr.at_ 10 10 71 _ rfl hd10)) hsh (r_ldb (i := 1) ti_3 rfl rfl rfl rfl) 11 rfl rfl rfl rfl rfl rfl fun a hg => Or.inr (Or.inl (⟨un rfl hw15, un rfl hw16, un rfl hw18, v7015, hg, hsh⟩))
    ·
     exact no_way (cA hcl 16 11 rfl hw16) hSi
    ·
     exact no_way (cA hcl 16 11 rfl hw16) hSi
   ·
    obtain rfl : _ = o := Option.some.inj ho
    have hd9 : S 9 = true := depAt hdep 0 rfl rfl
    have hd11 : S 11 = true := depAt hdep 1 rfl rfl
    rcases hI with ⟨hw15, hw16, hw18, hfr, hsh⟩ | ⟨hw15, hw16, hw18, v7015, hfr, hsh⟩ | ⟨hw15, hw16, hw18, v7015, v7016, hfr, hsh⟩ | ⟨hw15, hw16, hw18, v7015, v7016, hfr, hsh⟩
    ·
     exact sq hfr (Fr.cons (Fr.cons hfr.fr0 (hfr.at_ 9 9 70 _ rfl hd9)) (hfr.at_ 11 11 72 _ rfl hd11)) hsh (r_ixI (s := (⟨v18, rvs M⟩ : Ls RV)) (q := (nth es.l i).op) sl_87 ti_37 rfl rfl rfl (fun w h => (h.matAt 3 rfl)) (by rw [rvs_len]; exact (show 0 ≤ (nth es.l i).op ∧ (nth es.l i).op < M.length from (by omega)))) 12 rfl rfl rfl rfl rfl rfl fun a hg => Or.inl (⟨un rfl hw15, un rfl hw16, un rfl hw18, hg, hsh⟩)
    ·
     exact sq hfr (Fr.cons (Fr.cons hfr.fr0 (hfr.at_ 9 9 70 _ rfl hd9)) (hfr.at_ 11 11 72 _ rfl hd11)) hsh (r_ixI (s := (⟨v18, rvs M⟩ : Ls RV)) (q := (nth es.l i).op) sl_87 ti_37 rfl rfl rfl (fun w h => (h.matAt 4 rfl)) (by rw [rvs_len]; exact (show 0 ≤ (nth es.l i).op ∧ (nth es.l i).op < M.length from (by omega)))) 12 rfl rfl rfl rfl rfl rfl fun a hg => Or.inr (Or.inl (⟨un rfl hw15, un rfl hw16, un rfl hw18, v7015, hg, hsh⟩))
    ·
     exact no_way (cA hcl 16 12 rfl hw16) hSi
    ·
     exact no_way (cA hcl 16 12 rfl hw16) hSi
   ·
    obtain rfl : _ = o := Option.some.inj ho
    have hd12 : S 12 = true := depAt hdep 0 rfl rfl
    rcases hI with ⟨hw15, hw16, hw18, hfr, hsh⟩ | ⟨hw15, hw16, hw18, v7015, hfr, hsh⟩ | ⟨hw15, hw16, hw18, v7015, v7016, hfr, hsh⟩ | ⟨hw15, hw16, hw18, v7015, v7016, hfr, hsh⟩
    ·
     exact sq hfr (Fr.cons hfr.fr0 (hfr.at_ 12 12 73 _ rfl hd12)) hsh (Rn.same (r_lde (s := (⟨v18, rvs M⟩ : Ls RV)) (i := ((nth es.l i).op).toNat) (v := (nth (rvs M) (((nth es.l i).op).toNat)).v) ti_37 rfl rfl rfl (fun w h => h.matAt 3 rfl) (by rw [rvs_len]; exact (show ((nth es.l i).op).toNat < M.length from (by omega))) (Nat.le_of_ble_eq_true rfl) rfl) (nth_rvs M (((nth es.l i).op).toNat))) 13 rfl rfl rfl rfl rfl rfl fun a hg => Or.inl (⟨un rfl hw15, un rfl hw16, un rfl hw18, hg, hsh⟩)
    ·
     exact sq hfr (Fr.cons hfr.fr0 (hfr.at_ 12 12 73 _ rfl hd12)) hsh (Rn.same (r_lde (s := (⟨v18, rvs M⟩ : Ls RV)) (i := ((nth es.l i).op).toNat) (v := (nth (rvs M) (((nth es.l i).op).toNat)).v) ti_37 rfl rfl rfl (fun w h => h.matAt 4 rfl) (by rw [rvs_len]; exact (show ((nth es.l i).op).toNat < M.length from (by omega))) (Nat.le_of_ble_eq_true rfl) rfl) (nth_rvs M (((nth es.l i).op).toNat))) 13 rfl rfl rfl rfl rfl rfl fun a hg => Or.inr (Or.inl (⟨un rfl hw15, un rfl hw16, un rfl hw18, v7015, hg, hsh⟩))
    ·
     exact no_way (cA hcl 16 13 rfl hw16) hSi
    ·
     exact no_way (cA hcl 16 13 rfl hw16) hSi
   ·
    obtain rfl : _ = o := Option.some.inj ho
    rcases hI with ⟨hw15, hw16, hw18, hfr, hsh⟩ | ⟨hw15, hw16, hw18, v7015, hfr, hsh⟩ | ⟨hw15, hw16, hw18, v7015, v7016, hfr, hsh⟩ | ⟨hw15, hw16, hw18, v7015, v7016, hfr, hsh⟩
    ·
     exact sq hfr hfr.fr0 hsh (r_ldbw (i := 0) (vs := [.int .i64 ((nth es.l i).op), .int .i64 ((nth es.l i).a), .int .i64 ((nth es.l i).b), .int .i64 ((nth es.l i).c)]) ti_36 rfl rfl rfl rfl rfl) 14 rfl rfl rfl rfl rfl rfl fun a hg => Or.inl (⟨un rfl hw15, un rfl hw16, un rfl hw18, hg, hsh⟩)
    ·
     exact no_way (cA hcl 15 14 rfl hw15) hSi
    ·
     exact no_way (cA hcl 15 14 rfl hw15) hSi
    ·
     exact no_way (cA hcl 15 14 rfl hw15) hSi
   ·
    obtain rfl : _ = o := Option.some.inj ho
    have hd14 : S 14 = true := depAt hdep 0 rfl rfl
    rcases hI with ⟨hw15, hw16, hw18, hfr, hsh⟩ | ⟨hw15, hw16, hw18, v7015, hfr, hsh⟩ | ⟨hw15, hw16, hw18, v7015, v7016, hfr, hsh⟩ | ⟨hw15, hw16, hw18, v7015, v7016, hfr, hsh⟩
    ·
     have hs := St.mk (Fr.cons hfr.fr0 (hfr.at_ 14 14 75 _ rfl hd14)) hsh
     refine step_ex (x_lit (n := 1) (cs := [.int .i64 ((nth es.l i).op), .int .i64 ((nth es.l i).a), .int .i64 ((nth es.l i).b), .int .i64 ((nth es.l i).c)]) ([(nth es.l i)] : List Ins) hs sl_37 ti_36 rfl rfl rfl (by decide) rfl (by kernel_rfl) rfl (fun q hq w h => Flat.inner _ _) (fun q hq b hb => (Flat.on _ _ hb).elim) rfl rfl) (wanted_none rfl _) ?_
     rintro a163 w163 ⟨v163, h163⟩ ⟨v0, ht163⟩
     have hm163 : FrI 86 S [(0, ws.v), (5, .pointer (some ⟨b4, 0, none⟩)), (6, .pointer (some ⟨b22, 0, none⟩)), (7, .int .i64 ((i : Nat) : Int)), (8, .pointer (some ⟨b39, 0, none⟩)), (22, es.v), (23, .int .i64 ((es.l.length : Nat) : Int)), (24, .int .i64 ((i : Nat) : Int)), (58, .bool false)] [(0, 61, .pointer (some ⟨b22, 0, none⟩)), (1, 62, .pointer (some ⟨b22, 0, none⟩)), (2, 63, .pointer (some ⟨b22, 0, none⟩)), (3, 64, v18), (4, 65, .pointer (some ⟨b39, 0, none⟩)), (5, 66, .int .i64 ((nth es.l i).op)), (6, 67, .pointer (some ⟨b22, 0, none⟩)), (7, 68, .pointer (some ⟨b22, 0, none⟩)), (8, 69, .pointer (some ⟨b22, 0, none⟩)), (9, 70, v18), (10, 71, .pointer (some ⟨b39, 0, none⟩)), (11, 72, .int .i64 ((nth es.l i).op)), (12, 73, .pointer (some (padr v18 1 (((nth es.l i).op).toNat) 0))), (13, 74, (nth M (((nth es.l i).op).toNat)).v), (14, 75, .agg #[.int .i64 ((nth es.l i).op), .int .i64 ((nth es.l i).a), .int .i64 ((nth es.l i).b), .int .i64 ((nth es.l i).c)]), (15, 76, v163)] a := hfr.more (by
      intro k j d v hk hS
      rcases k with _ | _ | _ | _ | _ | _ | _ | _ | _ | _ | _ | _ | _ | _ | _ | _ | k
      ·obtain ⟨rfl, rfl, rfl⟩ : _ = j ∧ _ = d ∧ _ = v := by simpa using hk
       exact hfr.at_ 0 _ _ _ rfl hS
      ·obtain ⟨rfl, rfl, rfl⟩ : _ = j ∧ _ = d ∧ _ = v := by simpa using hk
       exact hfr.at_ 1 _ _ _ rfl hS
      ·obtain ⟨rfl, rfl, rfl⟩ : _ = j ∧ _ = d ∧ _ = v := by simpa using hk
       exact hfr.at_ 2 _ _ _ rfl hS
      ·obtain ⟨rfl, rfl, rfl⟩ : _ = j ∧ _ = d ∧ _ = v := by simpa using hk
       exact hfr.at_ 3 _ _ _ rfl hS
      ·obtain ⟨rfl, rfl, rfl⟩ : _ = j ∧ _ = d ∧ _ = v := by simpa using hk
       exact hfr.at_ 4 _ _ _ rfl hS
      ·obtain ⟨rfl, rfl, rfl⟩ : _ = j ∧ _ = d ∧ _ = v := by simpa using hk
       exact hfr.at_ 5 _ _ _ rfl hS
      ·obtain ⟨rfl, rfl, rfl⟩ : _ = j ∧ _ = d ∧ _ = v := by simpa using hk
       exact hfr.at_ 6 _ _ _ rfl hS
      ·obtain ⟨rfl, rfl, rfl⟩ : _ = j ∧ _ = d ∧ _ = v := by simpa using hk
       exact hfr.at_ 7 _ _ _ rfl hS
      ·obtain ⟨rfl, rfl, rfl⟩ : _ = j ∧ _ = d ∧ _ = v := by simpa using hk
       exact hfr.at_ 8 _ _ _ rfl hS
      ·obtain ⟨rfl, rfl, rfl⟩ : _ = j ∧ _ = d ∧ _ = v := by simpa using hk
       exact hfr.at_ 9 _ _ _ rfl hS
      ·obtain ⟨rfl, rfl, rfl⟩ : _ = j ∧ _ = d ∧ _ = v := by simpa using hk
       exact hfr.at_ 10 _ _ _ rfl hS
      ·obtain ⟨rfl, rfl, rfl⟩ : _ = j ∧ _ = d ∧ _ = v := by simpa using hk
       exact hfr.at_ 11 _ _ _ rfl hS
      ·obtain ⟨rfl, rfl, rfl⟩ : _ = j ∧ _ = d ∧ _ = v := by simpa using hk
       exact hfr.at_ 12 _ _ _ rfl hS
      ·obtain ⟨rfl, rfl, rfl⟩ : _ = j ∧ _ = d ∧ _ = v := by simpa using hk
       exact hfr.at_ 13 _ _ _ rfl hS
      ·obtain ⟨rfl, rfl, rfl⟩ : _ = j ∧ _ = d ∧ _ = v := by simpa using hk
       exact hfr.at_ 14 _ _ _ rfl hS
      ·obtain ⟨rfl, rfl, rfl⟩ : _ = j ∧ _ = d ∧ _ = v := by simpa using hk
       exact no_way hS hSi
      · simp at hk)
     exact Or.inr (Or.inl (⟨upd_self _ _, un rfl hw16, un rfl hw18, v163, hm163.step ht163 h163.fr.defers (h163.fr.at_ 76 _ rfl) 15 rfl rfl rfl rfl, (h163.sh.sel (L' := [.own 36 (⟨v163, [(nth es.l i)]⟩ : Ls Ins), .blk b39 36 [.int .i64 ((nth es.l i).op), .int .i64 ((nth es.l i).a), .int .i64 ((nth es.l i).b), .int .i64 ((nth es.l i).c)], .blk b22 90 [v18, .map (some g19)], .big (seenX 24 g19 ([] : List (List Nat × Ls (Ls Int)))), .big (matX (.own 36) 37 v18 M), .blk b4 31 [.int .i64 0, .int .i64 0, .int .i64 0], .at_ ws, .at_ es]) [0, 1, 2, 3, 4, 5, 6, 7] (by decide) ⟨rfl, rfl, rfl, rfl, rfl, rfl, rfl, rfl, trivial⟩)⟩))
    ·
     exact no_way hw15 hSi
    ·
     exact no_way hw15 hSi
    ·
     exact no_way hw15 hSi
   ·
    obtain rfl : _ = o := Option.some.inj ho
    have hd13 : S 13 = true := depAt hdep 0 rfl rfl
    have hd15 : S 15 = true := depAt hdep 1 rfl rfl
    rcases hI with ⟨hw15, hw16, hw18, hfr, hsh⟩ | ⟨hw15, hw16, hw18, v7015, hfr, hsh⟩ | ⟨hw15, hw16, hw18, v7015, v7016, hfr, hsh⟩ | ⟨hw15, hw16, hw18, v7015, v7016, hfr, hsh⟩
    ·
     exact no_way hd15 hw15
    ·
     have hs := St.mk (Fr.cons (Fr.cons hfr.fr0 (hfr.at_ 13 13 74 _ rfl hd13)) (hfr.at_ 15 15 76 _ rfl hd15)) hsh
     refine step_ex (x_appMat (i := (((nth es.l i).op).toNat)) (r := 4) (rm := 0) (m := (⟨v7015, [(nth es.l i)]⟩ : Ls Ins)) hs sl_37 ti_36 rfl rfl rfl rfl (show ((nth es.l i).op).toNat < M.length from (by omega)) rfl rfl rfl (fun w h => (h.own 0 rfl)) (fun b hb => own_on (hs.sh.ok _ (List.mem_of_getElem? (i := 0) rfl)) hb) rfl rfl rfl inferInstance (show (((nth M (((nth es.l i).op).toNat)).l).length + ([(nth es.l i)]).length) * 32 ≤ 140737488355328 ∧ ((nth M (((nth es.l i).op).toNat)).l).length + ([(nth es.l i)]).length ≤ 140737488355328 from (by first | omega | (simp only [lens9]; omega))) rfl rfl) (wanted_none rfl _) ?_
     rintro a164 w164 ⟨v164, h164⟩ ⟨v0, ht164⟩
     have hm164 : FrI 86 S [(0, ws.v), (5, .pointer (some ⟨b4, 0, none⟩)), (6, .pointer (some ⟨b22, 0, none⟩)), (7, .int .i64 ((i : Nat) : Int)), (8, .pointer (some ⟨b39, 0, none⟩)), (22, es.v), (23, .int .i64 ((es.l.length : Nat) : Int)), (24, .int .i64 ((i : Nat) : Int)), (58, .bool false)] [(0, 61, .pointer (some ⟨b22, 0, none⟩)), (1, 62, .pointer (some ⟨b22, 0, none⟩)), (2, 63, .pointer (some ⟨b22, 0, none⟩)), (3, 64, v18), (4, 65, .pointer (some ⟨b39, 0, none⟩)), (5, 66, .int .i64 ((nth es.l i).op)), (6, 67, .pointer (some ⟨b22, 0, none⟩)), (7, 68, .pointer (some ⟨b22, 0, none⟩)), (8, 69, .pointer (some ⟨b22, 0, none⟩)), (9, 70, v18), (10, 71, .pointer (some ⟨b39, 0, none⟩)), (11, 72, .int .i64 ((nth es.l i).op)), (12, 73, .pointer (some (padr v18 1 (((nth es.l i).op).toNat) 0))), (13, 74, (nth M (((nth es.l i).op).toNat)).v), (14, 75, .agg #[.int .i64 ((nth es.l i).op), .int .i64 ((nth es.l i).a), .int .i64 ((nth es.l i).b), .int .i64 ((nth es.l i).c)]), (15, 76, v7015), (16, 77, v164), (17, 78, .pointer (some (padr v18 1 (((nth es.l i).op).toNat) 0)))] a := hfr.more (by
      intro k j d v hk hS
      rcases k with _ | _ | _ | _ | _ | _ | _ | _ | _ | _ | _ | _ | _ | _ | _ | _ | _ | _ | k
      ·obtain ⟨rfl, rfl, rfl⟩ : _ = j ∧ _ = d ∧ _ = v := by simpa using hk
       exact hfr.at_ 0 _ _ _ rfl hS
      ·obtain ⟨rfl, rfl, rfl⟩ : _ = j ∧ _ = d ∧ _ = v := by simpa using hk
       exact hfr.at_ 1 _ _ _ rfl hS
      ·obtain ⟨rfl, rfl, rfl⟩ : _ = j ∧ _ = d ∧ _ = v := by simpa using hk
       exact hfr.at_ 2 _ _ _ rfl hS
      ·obtain ⟨rfl, rfl, rfl⟩ : _ = j ∧ _ = d ∧ _ = v := by simpa using hk
       exact hfr.at_ 3 _ _ _ rfl hS
      ·obtain ⟨rfl, rfl, rfl⟩ : _ = j ∧ _ = d ∧ _ = v := by simpa using hk
       exact hfr.at_ 4 _ _ _ rfl hS
      ·obtain ⟨rfl, rfl, rfl⟩ : _ = j ∧ _ = d ∧ _ = v := by simpa using hk
       exact hfr.at_ 5 _ _ _ rfl hS
      ·obtain ⟨rfl, rfl, rfl⟩ : _ = j ∧ _ = d ∧ _ = v := by simpa using hk
       exact hfr.at_ 6 _ _ _ rfl hS
      ·obtain ⟨rfl, rfl, rfl⟩ : _ = j ∧ _ = d ∧ _ = v := by simpa using hk
       exact hfr.at_ 7 _ _ _ rfl hS
      ·obtain ⟨rfl, rfl, rfl⟩ : _ = j ∧ _ = d ∧ _ = v := by simpa using hk
       exact hfr.at_ 8 _ _ _ rfl hS
      ·obtain ⟨rfl, rfl, rfl⟩ : _ = j ∧ _ = d ∧ _ = v := by simpa using hk
       exact hfr.at_ 9 _ _ _ rfl hS
      ·obtain ⟨rfl, rfl, rfl⟩ : _ = j ∧ _ = d ∧ _ = v := by simpa using hk
       exact hfr.at_ 10 _ _ _ rfl hS
      ·obtain ⟨rfl, rfl, rfl⟩ : _ = j ∧ _ = d ∧ _ = v := by simpa using hk
       exact hfr.at_ 11 _ _ _ rfl hS
      ·obtain ⟨rfl, rfl, rfl⟩ : _ = j ∧ _ = d ∧ _ = v := by simpa using hk
       exact hfr.at_ 12 _ _ _ rfl hS
      ·obtain ⟨rfl, rfl, rfl⟩ : _ = j ∧ _ = d ∧ _ = v := by simpa using hk
       exact hfr.at_ 13 _ _ _ rfl hS
      ·obtain ⟨rfl, rfl, rfl⟩ : _ = j ∧ _ = d ∧ _ = v := by simpa using hk
       exact hfr.at_ 14 _ _ _ rfl hS
      ·obtain ⟨rfl, rfl, rfl⟩ : _ = j ∧ _ = d ∧ _ = v := by simpa using hk
       exact hfr.at_ 15 _ _ _ rfl hS
      ·obtain ⟨rfl, rfl, rfl⟩ : _ = j ∧ _ = d ∧ _ = v := by simpa using hk
       exact no_way hS hSi
      ·obtain ⟨rfl, rfl, rfl⟩ : _ = j ∧ _ = d ∧ _ = v := by simpa using hk
       exact no_way (cA hcl 17 16 rfl hS) hSi
      · simp at hk)
     exact Or.inr (Or.inr (Or.inl (⟨un rfl hw15, upd_self _ _, un rfl hw18, v7015, v164, hm164.step ht164 h164.fr.defers (h164.fr.at_ 77 _ rfl) 16 rfl rfl rfl rfl, (h164.sh.sel (L' := [.own 36 (⟨v164, (nth M (((nth es.l i).op).toNat)).l ++ ([(nth es.l i)])⟩ : Ls Ins), .own 36 (⟨v7015, [(nth es.l i)]⟩ : Ls Ins), .blk b39 36 [.int .i64 ((nth es.l i).op), .int .i64 ((nth es.l i).a), .int .i64 ((nth es.l i).b), .int .i64 ((nth es.l i).c)], .blk b22 90 [v18, .map (some g19)], .big (seenX 24 g19 ([] : List (List Nat × Ls (Ls Int)))), .big (holeX (.own 36) 37 v18 M (((nth es.l i).op).toNat)), .blk b4 31 [.int .i64 0, .int .i64 0, .int .i64 0], .at_ ws, .at_ es]) [0, 1, 2, 3, 4, 5, 6, 7, 8] (by decide) ⟨rfl, rfl, rfl, rfl, rfl, rfl, rfl, rfl, rfl, trivial⟩)⟩)))
    ·
     exact no_way hw16 hSi
    ·
     exact no_way hw16 hSi
   ·
    obtain rfl : _ = o := Option.some.inj ho
    have hd3 : S 3 = true := depAt hdep 0 rfl rfl
    have hd5 : S 5 = true := depAt hdep 1 rfl rfl
    have hd15 : S 15 = true := depAt hdep 17 rfl rfl
    have hd16 : S 16 = true := depAt hdep 18 rfl rfl
    rcases hI with ⟨hw15, hw16, hw18, hfr, hsh⟩ | ⟨hw15, hw16, hw18, v7015, hfr, hsh⟩ | ⟨hw15, hw16, hw18, v7015, v7016, hfr, hsh⟩ | ⟨hw15, hw16, hw18, v7015, v7016, hfr, hsh⟩
    ·
     exact no_way hd15 hw15
    ·
     exact no_way hd16 hw16
    ·
     exact sq hfr (Fr.cons (Fr.cons hfr.fr0 (hfr.at_ 3 3 64 _ rfl hd3)) (hfr.at_ 5 5 66 _ rfl hd5)) hsh (r_ixI (s := (⟨v18, rvs M⟩ : Ls RV)) (q := (nth es.l i).op) sl_87 ti_37 rfl rfl rfl (fun w h => (h.holeAt 5 rfl)) (by rw [rvs_len]; exact (show 0 ≤ (nth es.l i).op ∧ (nth es.l i).op < M.length from (by omega)))) 17 rfl rfl rfl rfl rfl rfl fun a hg => Or.inr (Or.inr (Or.inl (⟨un rfl hw15, un rfl hw16, un rfl hw18, v7015, v7016, hg, hsh⟩)))
    ·
     exact no_way (cA hcl 18 17 rfl hw18) hSi
   ·
    obtain rfl : _ = o := Option.some.inj ho
    have hd17 : S 17 = true := depAt hdep 0 rfl rfl
    have hd16 : S 16 = true := depAt hdep 1 rfl rfl
    have hd15 : S 15 = true := depAt hdep 18 rfl rfl
    rcases hI with ⟨hw15, hw16, hw18, hfr, hsh⟩ | ⟨hw15, hw16, hw18, v7015, hfr, hsh⟩ | ⟨hw15, hw16, hw18, v7015, v7016, hfr, hsh⟩ | ⟨hw15, hw16, hw18, v7015, v7016, hfr, hsh⟩
    ·
     exact no_way hd15 hw15
    ·
     exact no_way hd16 hw16
    ·
     have hs := St.mk (Fr.cons (Fr.cons hfr.fr0 (hfr.at_ 16 16 77 _ rfl hd16)) (hfr.at_ 17 17 78 _ rfl hd17)) hsh
     refine step_ex (x_stHole (i := ((nth es.l i).op).toNat) (r := 4) (s := (⟨v7016, (nth M (((nth es.l i).op).toNat)).l ++ ([(nth es.l i)])⟩ : Ls Ins)) hs ti_37 rfl rfl rfl rfl rfl (show ((nth es.l i).op).toNat < M.length from (by omega)) (hs.sh.own 0 rfl)) (wanted_none rfl _) ?_
     rintro a166 w166 h166 ⟨v0, ht166⟩
     have hm166 : FrI 86 S [(0, ws.v), (5, .pointer (some ⟨b4, 0, none⟩)), (6, .pointer (some ⟨b22, 0, none⟩)), (7, .int .i64 ((i : Nat) : Int)), (8, .pointer (some ⟨b39, 0, none⟩)), (22, es.v), (23, .int .i64 ((es.l.length : Nat) : Int)), (24, .int .i64 ((i : Nat) : Int)), (58, .bool false)] [(0, 61, .pointer (some ⟨b22, 0, none⟩)), (1, 62, .pointer (some ⟨b22, 0, none⟩)), (2, 63, .pointer (some ⟨b22, 0, none⟩)), (3, 64, v18), (4, 65, .pointer (some ⟨b39, 0, none⟩)), (5, 66, .int .i64 ((nth es.l i).op)), (6, 67, .pointer (some ⟨b22, 0, none⟩)), (7, 68, .pointer (some ⟨b22, 0, none⟩)), (8, 69, .pointer (some ⟨b22, 0, none⟩)), (9, 70, v18), (10, 71, .pointer (some ⟨b39, 0, none⟩)), (11, 72, .int .i64 ((nth es.l i).op)), (12, 73, .pointer (some (padr v18 1 (((nth es.l i).op).toNat) 0))), (13, 74, (nth M (((nth es.l i).op).toNat)).v), (14, 75, .agg #[.int .i64 ((nth es.l i).op), .int .i64 ((nth es.l i).a), .int .i64 ((nth es.l i).b), .int .i64 ((nth es.l i).c)]), (15, 76, v7015), (16, 77, v7016), (17, 78, .pointer (some (padr v18 1 (((nth es.l i).op).toNat) 0)))] a := hfr.more (by
      intro k j d v hk hS
      rcases k with _ | _ | _ | _ | _ | _ | _ | _ | _ | _ | _ | _ | _ | _ | _ | _ | _ | _ | k
      ·obtain ⟨rfl, rfl, rfl⟩ : _ = j ∧ _ = d ∧ _ = v := by simpa using hk
       exact hfr.at_ 0 _ _ _ rfl hS
      ·obtain ⟨rfl, rfl, rfl⟩ : _ = j ∧ _ = d ∧ _ = v := by simpa using hk
       exact hfr.at_ 1 _ _ _ rfl hS
      ·obtain ⟨rfl, rfl, rfl⟩ : _ = j ∧ _ = d ∧ _ = v := by simpa using hk
       exact hfr.at_ 2 _ _ _ rfl hS
      ·obtain ⟨rfl, rfl, rfl⟩ : _ = j ∧ _ = d ∧ _ = v := by simpa using hk
       exact hfr.at_ 3 _ _ _ rfl hS
      ·obtain ⟨rfl, rfl, rfl⟩ : _ = j ∧ _ = d ∧ _ = v := by simpa using hk
       exact hfr.at_ 4 _ _ _ rfl hS
      ·obtain ⟨rfl, rfl, rfl⟩ : _ = j ∧ _ = d ∧ _ = v := by simpa using hk
       exact hfr.at_ 5 _ _ _ rfl hS
      ·obtain ⟨rfl, rfl, rfl⟩ : _ = j ∧ _ = d ∧ _ = v := by simpa using hk
       exact hfr.at_ 6 _ _ _ rfl hS
      ·obtain ⟨rfl, rfl, rfl⟩ : _ = j ∧ _ = d ∧ _ = v := by simpa using hk
       exact hfr.at_ 7 _ _ _ rfl hS
      ·obtain ⟨rfl, rfl, rfl⟩ : _ = j ∧ _ = d ∧ _ = v := by simpa using hk
       exact hfr.at_ 8 _ _ _ rfl hS
      ·obtain ⟨rfl, rfl, rfl⟩ : _ = j ∧ _ = d ∧ _ = v := by simpa using hk
       exact hfr.at_ 9 _ _ _ rfl hS
      ·obtain ⟨rfl, rfl, rfl⟩ : _ = j ∧ _ = d ∧ _ = v := by simpa using hk
       exact hfr.at_ 10 _ _ _ rfl hS
      ·obtain ⟨rfl, rfl, rfl⟩ : _ = j ∧ _ = d ∧ _ = v := by simpa using hk
       exact hfr.at_ 11 _ _ _ rfl hS
      ·obtain ⟨rfl, rfl, rfl⟩ : _ = j ∧ _ = d ∧ _ = v := by simpa using hk
       exact hfr.at_ 12 _ _ _ rfl hS
      ·obtain ⟨rfl, rfl, rfl⟩ : _ = j ∧ _ = d ∧ _ = v := by simpa using hk
       exact hfr.at_ 13 _ _ _ rfl hS
      ·obtain ⟨rfl, rfl, rfl⟩ : _ = j ∧ _ = d ∧ _ = v := by simpa using hk
       exact hfr.at_ 14 _ _ _ rfl hS
      ·obtain ⟨rfl, rfl, rfl⟩ : _ = j ∧ _ = d ∧ _ = v := by simpa using hk
       exact hfr.at_ 15 _ _ _ rfl hS
      ·obtain ⟨rfl, rfl, rfl⟩ : _ = j ∧ _ = d ∧ _ = v := by simpa using hk
       exact hfr.at_ 16 _ _ _ rfl hS
      ·obtain ⟨rfl, rfl, rfl⟩ : _ = j ∧ _ = d ∧ _ = v := by simpa using hk
       exact hfr.at_ 17 _ _ _ rfl hS
      · simp at hk)
     exact Or.inr (Or.inr (Or.inr (⟨un rfl hw15, un rfl hw16, upd_self _ _, v7015, v7016, hm166.none ht166 h166.fr.defers rfl, (h166.sh.sel (L' := [.own 36 (⟨v7015, [(nth es.l i)]⟩ : Ls Ins), .blk b39 36 [.int .i64 ((nth es.l i).op), .int .i64 ((nth es.l i).a), .int .i64 ((nth es.l i).b), .int .i64 ((nth es.l i).c)], .blk b22 90 [v18, .map (some g19)], .big (seenX 24 g19 ([] : List (List Nat × Ls (Ls Int)))), .big (matX (.own 36) 37 v18 (M.set (((nth es.l i).op).toNat) (⟨v7016, (nth M (((nth es.l i).op).toNat)).l ++ ([(nth es.l i)])⟩ : Ls Ins))), .blk b4 31 [.int .i64 0, .int .i64 0, .int .i64 0], .at_ ws, .at_ es]) [0, 1, 2, 3, 4, 5, 6, 7] (by decide) ⟨rfl, rfl, rfl, rfl, rfl, rfl, rfl, rfl, trivial⟩)⟩)))
    ·
     exact no_way hw18 hSi
   · simp at ho
  intro S hall a w hI
  clear h126
  rcases hI with ⟨hw15, hw16, hw18, hfr, hsh⟩ | ⟨hw15, hw16, hw18, v7015, hfr, hsh⟩ | ⟨hw15, hw16, hw18, v7015, v7016, hfr, hsh⟩ | ⟨hw15, hw16, hw18, v7015, v7016, hfr, hsh⟩
  · exact no_way (hall 15 (by decide)) hw15
  · exact no_way (hall 16 (by decide)) hw16
  · exact no_way (hall 18 (by decide)) hw18
  have h167 : St 86 (fun _ => False) W a w _ [.own 36 (⟨v7015, [(nth es.l i)]⟩ : Ls Ins), .blk b39 36 [.int .i64 ((nth es.l i).op), .int .i64 ((nth es.l i).a), .int .i64 ((nth es.l i).b), .int .i64 ((nth es.l i).c)], .blk b22 90 [v18, .map (some g19)], .big (seenX 24 g19 ([] : List (List Nat × Ls (Ls Int)))), .big (matX (.own 36) 37 v18 (M.set (((nth es.l i).op).toNat) (⟨v7016, (nth M (((nth es.l i).op).toNat)).l ++ ([(nth es.l i)])⟩ : Ls Ins))), .blk b4 31 [.int .i64 0, .int .i64 0, .int .i64 0], .at_ ws, .at_ es] := ⟨hfr.fr0, hsh⟩
  clear hall hfr hsh hw15 hw16 hw18
  refine hK34 _ _ ?_
  refine wp_region_lit ?_
  refine wv h167 (r_addN (p := i) (q := 1) rfl rfl rfl (show i + 1 < 9223372036854775808 from (by omega))) rfl rfl fun a168 h168 => ?_; clear h167
  refine wms 1 h168 rfl fun a169 h169 => ?_; clear h168
  refine wpList_nil ?_
  refine x_again ⟨_, ?_, i + 1, M.set (((nth es.l i).op).toNat) (⟨v7016, (nth M (((nth es.l i).op).toNat)).l ++ ([(nth es.l i)])⟩ : Ls Ins), ?_, ?_, ?_, ?_, h169.nrm ⟨rfl, rfl, rfl, rfl, rfl, rfl, trivial⟩ [2, 3, 4, 5, 6, 7] (by decide) ⟨rfl, rfl, rfl, rfl, rfl, rfl, trivial⟩, rfl⟩
  · rw [hm29]; first | omega | (simp only [lens9]; omega)
  · omega
  · rw [List.length_set]; exact hM
  · exact rows_next hM (by omega) (by omega) hrows0
  · exact lens_next (by omega) hlen0
 have hp33 : ¬ (i < es.l.length) := of_decide_eq_false hb33
 refine wp_exit ?_
 refine hK24 _ _ ?_
 have h170 := h31.sel (L' := [.big (matX (.own 36) 37 v18 M), .blk b22 90 [v18, .map (some g19)], .big (seenX 24 g19 ([] : List (List Nat × Ls (Ls Int)))), .blk b4 31 [.int .i64 0, .int .i64 0, .int .i64 0], .at_ ws, .at_ es]) [2, 0, 1, 3, 4, 5] (by decide) ⟨rfl, rfl, rfl, rfl, rfl, rfl, trivial⟩
 have h171 : St 86 (fun _ => False) W a31 w29 _ _ := ⟨h170.fr, (h170.sh.matDeep own_mat).shareDeep 0 rfl⟩
 clear h170
 have hrows : ∀ t, t < 4 → (nth M t).l = rowE es.l t := fun t ht => by rw [hrows0 t ht, List.take_of_length_le (by omega)]
 refine wp_seq_k fun K172 hK172 => wp_region_lit ?_
 refine wms 1 h171 rfl fun a173 h173 => ?_; clear h171
 refine wv h173 (r_build (cs := [.int .i64 0, .int .i64 0, .int .i64 0, .int .i64 0]) rfl rfl (by kernel_rfl)) rfl rfl fun a174 h174 => ?_; clear h173
 refine wms 1 h174 rfl fun a175 h175 => ?_; clear h174
 refine wl_ex (x_call h175 bd_58 rfl rfl rfl rfl rfl (cloneI_c ws _ (h175.sh.at 4 rfl) (by first | omega | (simp only [lens9]; omega)))) (wanted_none rfl _) ?_
 rintro a176 w176 ⟨_, ⟨s176, rfl, hs176⟩, hf176⟩
 have h176 := (⟨hf176, h175.sh.call hs176 (by intro A hA b hb; first | (simp at hA; done) | (simp at hA; subst hA; first | exact Flat.noRd hb | exact (hb : False).elim) | (simp at hA; rcases hA with rfl | rfl <;> first | exact Flat.noRd hb | exact (hb : False).elim))⟩ : St 86 (fun _ => False) W a176 w176 _ _)
 clear hf176 hs176
 clear h175
 have h177 : St 86 (fun _ => False) W a176 w176 _ _ := ⟨h176.fr, h176.sh.share 0 rfl⟩
 clear h176
 have h178 := h177.sel (L' := [.big (seenX 24 g19 ([] : List (List Nat × Ls (Ls Int)))), .blk b22 90 [v18, .map (some g19)], .at_ (⟨s176.v, ws.l⟩ : Ls Int), .at_ (⟨v18, M⟩ : Ls (Ls Ins)), .blk b4 31 [.int .i64 0, .int .i64 0, .int .i64 0], .at_ ws, .at_ es]) [3, 2, 0, 1, 4, 5, 6] (by decide) ⟨rfl, rfl, rfl, rfl, rfl, rfl, rfl, trivial⟩
 have hp179 := h178.sh.passL (Lp := [.big (seenX 24 g19 ([] : List (List Nat × Ls (Ls Int)))), .blk b22 90 [v18, .map (some g19)], .at_ (⟨s176.v, ws.l⟩ : Ls Int), .at_ (⟨v18, M⟩ : Ls (Ls Ins))])
 refine wl_ex (x_call h178 bd_57 rfl rfl rfl rfl rfl (from_c (⟨v18, M⟩ : Ls (Ls Ins)) b22 g19 _ (hok_of hok hM hrows) _ [0, 0, 0, 0] (⟨s176.v, ws.l⟩ : Ls Int) (Nat.le_refl _) _ [] _ (pok_zero hM) rfl keys_zero (room_zero hok hM hrows) (seen_zero _ _) hp179)) (wanted_none rfl _) ?_
 rintro a180 w180 ⟨_, ⟨N180, rfl, hk180, hc180, hi180, ho180, hr180, hs180⟩, hf180⟩
 have h180 : St 86 (fun _ => False) W a180 w180 _ [.big (seenX 24 g19 N180), .blk b22 90 [v18, .map (some g19)], .at_ (⟨s176.v, ws.l⟩ : Ls Int), .at_ (⟨v18, M⟩ : Ls (Ls Ins)), .blk b4 31 [.int .i64 0, .int .i64 0, .int .i64 0], .at_ ws, .at_ es] := ⟨hf180, h178.sh.backL (Lp := [.big (seenX 24 g19 ([] : List (List Nat × Ls (Ls Int)))), .blk b22 90 [v18, .map (some g19)], .at_ (⟨s176.v, ws.l⟩ : Ls Int), .at_ (⟨v18, M⟩ : Ls (Ls Ins))]) hs180 (by intro A hA b hb; simp only [List.mem_cons, List.not_mem_nil, or_false] at hA; rcases hA with rfl | rfl | rfl | rfl <;> first | exact (hb : False).elim | exact Flat.noRd hb | exact .inl ⟨_, List.mem_cons_self .., .inr hb⟩ | exact seen_back hb rfl hr180 | exact .inl ⟨_, by simp, .inr hb⟩)⟩
 clear hf180 hs180
 clear h178
 refine wv h180 (r_build (cs := [.int .i64 0, .int .i64 0, .int .i64 0]) rfl rfl (by kernel_rfl)) rfl rfl fun a181 h181 => ?_; clear h180
 refine wms 1 h181 rfl fun a182 h182 => ?_; clear h181
 refine wl_ex (x_stb (i := 4) (vs := [.int .i64 0, .int .i64 0, .int .i64 0]) (cs' := [.int .i64 0, .int .i64 0, .int .i64 0]) h182 ti_31 rfl rfl rfl rfl rfl rfl rfl (allOne_cons rfl (allOne_cons rfl (allOne_cons rfl allOne_nil))) (Nat.le_of_ble_eq_true rfl) rfl) (wanted_none rfl _) ?_
 rintro a183 w183 h183
 clear h182
 refine wpList_nil (hK172 _ _ ?_)
 refine wp_ret ?_
 try simp only [Exit.then, Exit.inBlock]
 refine x_rettc (fn := Try.f21) (t := 5) (u := 4) (i := 4) ti_31 rfl h183 rfl rfl rfl rfl ?_
 refine ⟨?_, (h183.sh.sel [] (by decide) trivial)⟩
 rw [thr_of hM hrows]; rfl

set_option maxRecDepth 100000 in
set_option maxHeartbeats 8000000 in
theorem may_b (ws : Ls Int) (es : Ls Ins) (W : World) (hw : ws.At W) (he : es.At W) (hbad : ¬ OkH ws.l es.l) :
    Rets Try.prog 21 [ws.v, es.v] W (fun v w' => ∃ c d e : Int, v = .tuple #[.bool false, .agg #[.int .i64 c, .int .i64 d, .int .i64 e]] ∧ c ≠ 0 ∧ Sh0 W w' []) := by
 refine x_enter (N := 86) Try.func21 rfl Try.ntmps21 (Nat.le_of_ble_eq_true rfl) fun a1 hf1 => ?_
 have h1 : St 86 (fun _ => False) W a1 W [(0, ws.v), (1, es.v)] [.at_ ws, .at_ es] := ⟨hf1.sub ⟨rfl, rfl, trivial⟩, Sh0.ext2 hw he⟩
 clear hf1
 refine wp_seq_k fun K2 hK2 => wp_region_lit ?_
 refine wms 1 h1 rfl fun a3 h3 => ?_; clear h1
 refine wl_ex (x_alloc h3 ti_31 rfl rfl rfl) (wanted_none rfl _) ?_
 rintro a4 w4 ⟨b4, h4⟩; clear h3
 refine wpList_nil (hK2 _ _ ?_)
 refine wp_seq_k fun K5 hK5 => ?_
 refine wp_seq_k fun K6 hK6 => wp_region_lit ?_
 refine wms 1 h4 rfl fun a7 h7 => ?_; clear h4
 have hl8 : ws.l.length ≤ 140737488355328 := (h7.sh.at 1 rfl).len
 refine wv h7 (r_len (s := ws) (n := ws.l.length) sl_24 rfl rfl (fun w h => (h.at 1 rfl)) rfl) rfl rfl fun a9 h9 => ?_; clear h7
 refine wv h9 (r_gtrN (p := ws.l.length) (q := 64) rfl rfl rfl) rfl rfl fun a10 h10 => ?_; clear h9
 refine wms 1 h10 rfl fun a11 h11 => ?_; clear h10
 rcases Bool.eq_false_or_eq_true (decide (64 < ws.l.length)) with hb12 | hb12
 ·
  have hp12 : 64 < ws.l.length := of_decide_eq_true hb12
  refine wl_skip h11 (wanted_no h11.fr rfl rfl rfl rfl hb12) rfl rfl fun a13 h13 => ?_; clear h11
  refine wl_skip h13 (wanted_no h13.fr rfl rfl rfl rfl hb12) rfl rfl fun a14 h14 => ?_; clear h13
  refine wl_skip h14 (wanted_no h14.fr rfl rfl rfl rfl hb12) rfl rfl fun a15 h15 => ?_; clear h14
  refine wv h15 (r_pickT rfl rfl hb12 rfl) rfl rfl fun a16 h16 => ?_; clear h15
  refine wpList_nil (hK6 _ _ ?_)
  refine x_condT h16 rfl rfl ?_
  refine wp_seq_k fun K17 hK17 => wp_region_lit ?_
  refine wv h16 (r_build (cs := [.int .i64 1, .int .i64 0, .int .i64 0]) rfl rfl (by kernel_rfl)) rfl rfl fun a18 h18 => ?_; clear h16
  refine wms 1 h18 rfl fun a19 h19 => ?_; clear h18
  refine wl_ex (x_stb (i := 0) (vs := [.int .i64 1, .int .i64 0, .int .i64 0]) (cs' := [.int .i64 1, .int .i64 0, .int .i64 0]) h19 ti_31 rfl rfl rfl rfl rfl rfl rfl (allOne_cons rfl (allOne_cons rfl (allOne_cons rfl allOne_nil))) (Nat.le_of_ble_eq_true rfl) rfl) (wanted_none rfl _) ?_
  rintro a20 w20 h20
  clear h19
  refine wpList_nil (hK17 _ _ ?_)
  refine wp_ret ?_
  try simp only [Exit.then, Exit.inBlock]
  refine x_rettc (fn := Try.f21) (t := 5) (u := 4) (i := 0) ti_31 rfl h20 rfl rfl rfl rfl ?_
  exact ⟨_, _, _, rfl, by decide, (h20.sh.sel [] (by decide) trivial)⟩
 have hp12 : ¬ (64 < ws.l.length) := of_decide_eq_false hb12
 refine wl_val h11 (r_move rfl rfl) (wanted_yes h11.fr rfl rfl rfl rfl hb12) rfl rfl fun a21 h21 => ?_; clear h11
 have hl22 : es.l.length ≤ 140737488355328 := (h21.sh.at 2 rfl).len
 refine wl_val h21 (r_len (s := es) (n := es.l.length) sl_37 rfl rfl (fun w h => (h.at 2 rfl)) rfl) (wanted_yes h21.fr rfl rfl rfl rfl hb12) rfl rfl fun a23 h23 => ?_; clear h21
 refine wl_val h23 (r_gtrN (p := es.l.length) (q := 12) rfl rfl rfl) (wanted_yes h23.fr rfl rfl rfl rfl hb12) rfl rfl fun a24 h24 => ?_; clear h23
 refine wv h24 (r_pickF rfl rfl hb12 rfl) rfl rfl fun a25 h25 => ?_; clear h24
 refine wpList_nil (hK6 _ _ ?_)
 refine x_cond h25 rfl (fun hb26 => ?_) (fun hb26 => ?_)
 ·
  have hp26 : 12 < es.l.length := of_decide_eq_true hb26
  refine wp_seq_k fun K27 hK27 => wp_region_lit ?_
  refine wv h25 (r_build (cs := [.int .i64 1, .int .i64 0, .int .i64 0]) rfl rfl (by kernel_rfl)) rfl rfl fun a28 h28 => ?_; clear h25
  refine wms 1 h28 rfl fun a29 h29 => ?_; clear h28
  refine wl_ex (x_stb (i := 0) (vs := [.int .i64 1, .int .i64 0, .int .i64 0]) (cs' := [.int .i64 1, .int .i64 0, .int .i64 0]) h29 ti_31 rfl rfl rfl rfl rfl rfl rfl (allOne_cons rfl (allOne_cons rfl (allOne_cons rfl allOne_nil))) (Nat.le_of_ble_eq_true rfl) rfl) (wanted_none rfl _) ?_
  rintro a30 w30 h30
  clear h29
  refine wpList_nil (hK27 _ _ ?_)
  refine wp_ret ?_
  try simp only [Exit.then, Exit.inBlock]
  refine x_rettc (fn := Try.f21) (t := 5) (u := 4) (i := 0) ti_31 rfl h30 rfl rfl rfl rfl ?_
  exact ⟨_, _, _, rfl, by decide, (h30.sh.sel [] (by decide) trivial)⟩
 have hp26 : ¬ (12 < es.l.length) := of_decide_eq_false hb26
 refine wp_skip ?_
 refine hK5 _ _ ?_
 refine wp_seq_k fun K31 hK31 => wp_region_lit ?_
 refine wl_ex (x_makeMat (n := 4) h25 sl_87 ti_37 rfl rfl rfl (show 24 * 4 ≤ 140737488355328 ∧ 4 ≤ 140737488355328 from (by omega)) rfl rfl 36 Ins) (wanted_none rfl _) ?_
 rintro a32 w32 ⟨v32, h32⟩; clear h25
 refine wl_ex (x_makeMapB h32 mp_88.map rfl rfl rfl 24 (Ls Int)) (wanted_none rfl _) ?_
 rintro a33 w33 ⟨g33, h33⟩; clear h32
 refine wv h33 (r_build (cs := [v32, .map (some g33)]) rfl rfl (by obtain ⟨A34, n34, c34, (e34 : v32 = _)⟩ := ((h33.sh.matAt 1 rfl)).form; rw [e34]; kernel_rfl)) rfl rfl fun a35 h35 => ?_; clear h33
 refine wl_ex (x_box (cs := [v32, .map (some g33)]) h35 rfl rfl rfl rfl rfl) (wanted_none rfl _) ?_
 rintro a36 w36 ⟨b36, h36⟩; clear h35
 refine wms 1 h36 rfl fun a37 h37 => ?_; clear h36
 refine wpList_nil (hK31 _ _ ?_)
 refine wp_seq_k fun K38 hK38 => ?_
 refine wp_seq_k fun K39 hK39 => wp_region_lit ?_
 refine wms 1 h37 rfl fun a40 h40 => ?_; clear h37
 refine wv h40 (r_len (s := es) (n := es.l.length) sl_37 rfl rfl (fun w h => (h.at 5 rfl)) rfl) rfl rfl fun a41 h41 => ?_; clear h40
 refine wms 1 h41 rfl fun a42 h42 => ?_; clear h41
 refine wpList_nil (hK39 _ _ ?_)
 refine wp_block ?_
 refine x_loop (fun m a w => ∃ (i : Nat) (M : List (Ls Ins)), (i ≤ es.l.length) ∧ (M.length = 4) ∧ (∀ t, t < 4 → (nth M t).l.length ≤ i) ∧ (∀ j, j < i → EvOk ws.l.length (nth es.l j)) ∧ St 86 (fun _ => False) W a w [(0, ws.v), (5, .pointer (some ⟨b4, 0, none⟩)), (6, .pointer (some ⟨b36, 0, none⟩)), (22, es.v), (23, .int .i64 ((es.l.length : Nat) : Int)), (24, .int .i64 ((i : Nat) : Int))] [.blk b36 90 [v32, .map (some g33)], .big (seenX 24 g33 ([] : List (List Nat × Ls (Ls Int)))), .big (matX (.own 36) 37 v32 M), .blk b4 31 [.int .i64 0, .int .i64 0, .int .i64 0], .at_ ws, .at_ es] ∧ m = es.l.length - i) ⟨_, 0, List.replicate 4 ⟨.slice none 0 0, []⟩, (by omega), (rfl), (fun t ht => by rcases (by omega : t = 0 ∨ t = 1 ∨ t = 2 ∨ t = 3) with rfl | rfl | rfl | rfl <;> exact Nat.le_refl _), (fun j hj => absurd hj (by omega)), h42.nrm ⟨rfl, rfl, rfl, rfl, rfl, rfl, trivial⟩ [0, 1, 2, 3, 4, 5] (by decide) ⟨rfl, rfl, rfl, rfl, rfl, rfl, trivial⟩, rfl⟩ ?_
 clear h42
 rintro m43 a43 w43 ⟨i, M, hi, hM, hlen0, hgood, h43, hm43⟩
 refine wp_seq_k fun K44 hK44 => wp_region_lit ?_
 refine wv h43 (r_lssN (p := i) (q := es.l.length) rfl rfl rfl) rfl rfl fun a45 h45 => ?_; clear h43
 refine wpList_nil (hK44 _ _ ?_)
 refine wp_seq_k fun K46 hK46 => ?_
 refine x_cond h45 rfl (fun hb47 => ?_) (fun hb47 => ?_)
 ·
  have hp47 : i < es.l.length := of_decide_eq_true hb47
  refine wp_skip ?_
  refine hK46 _ _ ?_
  refine wp_seq_k fun K48 hK48 => ?_
  refine wp_block ?_
  refine wp_seq_k fun K49 hK49 => wp_region_lit ?_
  refine wms 1 h45 rfl fun a50 h50 => ?_; clear h45
  refine wv h50 (r_ixN (s := es) (q := i) sl_37 ti_36 rfl rfl rfl (fun w h => (h.at 5 rfl)) (show i < es.l.length from (by omega))) rfl rfl fun a51 h51 => ?_; clear h50
  refine wv h51 (r_ldew (s := es) (i := i) (vs := [.int .i64 ((nth es.l i).op), .int .i64 ((nth es.l i).a), .int .i64 ((nth es.l i).b), .int .i64 ((nth es.l i).c)]) ti_36 rfl rfl rfl (fun w h => (h.at 5 rfl)) (show i < es.l.length from (by omega)) (Nat.le_of_ble_eq_true rfl) rfl) rfl rfl fun a52 h52 => ?_; clear h51
  refine wl_ex (x_alloc h52 ti_36 rfl rfl rfl) (wanted_none rfl _) ?_
  rintro a53 w53 ⟨b53, h53⟩; clear h52
  refine wms 1 h53 rfl fun a54 h54 => ?_; clear h53
  refine wl_ex (x_stb (i := 0) (vs := [.int .i64 ((nth es.l i).op), .int .i64 ((nth es.l i).a), .int .i64 ((nth es.l i).b), .int .i64 ((nth es.l i).c)]) (cs' := [.int .i64 ((nth es.l i).op), .int .i64 ((nth es.l i).a), .int .i64 ((nth es.l i).b), .int .i64 ((nth es.l i).c)]) h54 ti_36 rfl rfl rfl rfl rfl rfl rfl (allOne_cons rfl (allOne_cons rfl (allOne_cons rfl (allOne_cons rfl allOne_nil)))) (Nat.le_of_ble_eq_true rfl) rfl) (wanted_none rfl _) ?_
  rintro a55 w55 h55
  clear h54
  refine wpList_nil (hK49 _ _ ?_)
  refine wp_seq_k fun K56 hK56 => ?_
  refine wp_seq_k fun K57 hK57 => wp_region_lit ?_
  refine wv h55 (r_fieldB (r := 0) fl_36_0 rfl rfl rfl) rfl rfl fun a58 h58 => ?_; clear h55
  refine wv h58 (r_ldb (i := 0) ti_3 rfl rfl rfl rfl) rfl rfl fun a59 h59 => ?_; clear h58
  refine wv h59 (r_lssI (p := (nth es.l i).op) (q := 0) rfl rfl rfl) rfl rfl fun a60 h60 => ?_; clear h59
  refine wms 1 h60 rfl fun a61 h61 => ?_; clear h60
  rcases Bool.eq_false_or_eq_true (decide ((nth es.l i).op < 0)) with hb62 | hb62
  ·
   have hp62 : (nth es.l i).op < 0 := of_decide_eq_true hb62
   refine wl_skip h61 (wanted_no h61.fr rfl rfl rfl rfl hb62) rfl rfl fun a63 h63 => ?_; clear h61
   refine wl_skip h63 (wanted_no h63.fr rfl rfl rfl rfl hb62) rfl rfl fun a64 h64 => ?_; clear h63
   refine wl_skip h64 (wanted_no h64.fr rfl rfl rfl rfl hb62) rfl rfl fun a65 h65 => ?_; clear h64
   refine wv h65 (r_pickT rfl rfl hb62 rfl) rfl rfl fun a66 h66 => ?_; clear h65
   refine wms 1 h66 rfl fun a67 h67 => ?_; clear h66
   refine wl_skip h67 (wanted_no h67.fr rfl rfl rfl rfl rfl) rfl rfl fun a68 h68 => ?_; clear h67
   refine wl_skip h68 (wanted_no h68.fr rfl rfl rfl rfl rfl) rfl rfl fun a69 h69 => ?_; clear h68
   refine wl_skip h69 (wanted_no h69.fr rfl rfl rfl rfl rfl) rfl rfl fun a70 h70 => ?_; clear h69
   refine wv h70 (r_pickT rfl rfl rfl rfl) rfl rfl fun a71 h71 => ?_; clear h70
   refine wms 1 h71 rfl fun a72 h72 => ?_; clear h71
   refine wl_skip h72 (wanted_no h72.fr rfl rfl rfl rfl rfl) rfl rfl fun a73 h73 => ?_; clear h72
   refine wl_skip h73 (wanted_no h73.fr rfl rfl rfl rfl rfl) rfl rfl fun a74 h74 => ?_; clear h73
   refine wl_skip h74 (wanted_no h74.fr rfl rfl rfl rfl rfl) rfl rfl fun a75 h75 => ?_; clear h74
   refine wl_skip h75 (wanted_no h75.fr rfl rfl rfl rfl rfl) rfl rfl fun a76 h76 => ?_; clear h75
   refine wl_skip h76 (wanted_no h76.fr rfl rfl rfl rfl rfl) rfl rfl fun a77 h77 => ?_; clear h76
   refine wv h77 (r_pickT rfl rfl rfl rfl) rfl rfl fun a78 h78 => ?_; clear h77
   refine wms 1 h78 rfl fun a79 h79 => ?_; clear h78
   refine wl_skip h79 (wanted_no h79.fr rfl rfl rfl rfl rfl) rfl rfl fun a80 h80 => ?_; clear h79
   refine wl_skip h80 (wanted_no h80.fr rfl rfl rfl rfl rfl) rfl rfl fun a81 h81 => ?_; clear h80
   refine wl_skip h81 (wanted_no h81.fr rfl rfl rfl rfl rfl) rfl rfl fun a82 h82 => ?_; clear h81
   refine wl_skip h82 (wanted_no h82.fr rfl rfl rfl rfl rfl) rfl rfl fun a83 h83 => ?_; clear h82
   refine wl_skip h83 (wanted_no2 h83.fr rfl rfl rfl rfl) rfl rfl fun a84 h84 => ?_; clear h83
   refine wl_skip h84 (wanted_no2 h84.fr rfl rfl rfl rfl) rfl rfl fun a85 h85 => ?_; clear h84
   refine wl_skip h85 (wanted_no2 h85.fr rfl rfl rfl rfl) rfl rfl fun a86 h86 => ?_; clear h85
   refine wl_skip h86 (wanted_no h86.fr rfl rfl rfl rfl rfl) rfl rfl fun a87 h87 => ?_; clear h86
   refine wv h87 (r_pickT rfl rfl rfl rfl) rfl rfl fun a88 h88 => ?_; clear h87
   refine wpList_nil (hK57 _ _ ?_)
   have h89 : St 86 (fun _ => False) W a88 w55 [(0, ws.v), (5, .pointer (some ⟨b4, 0, none⟩)), (6, .pointer (some ⟨b36, 0, none⟩)), (7, .int .i64 ((i : Nat) : Int)), (8, .pointer (some ⟨b53, 0, none⟩)), (22, es.v), (23, .int .i64 ((es.l.length : Nat) : Int)), (24, .int .i64 ((i : Nat) : Int)), (58, .bool true)] [.blk b53 36 [.int .i64 ((nth es.l i).op), .int .i64 ((nth es.l i).a), .int .i64 ((nth es.l i).b), .int .i64 ((nth es.l i).c)], .blk b36 90 [v32, .map (some g33)], .big (seenX 24 g33 ([] : List (List Nat × Ls (Ls Int)))), .big (matX (.own 36) 37 v32 M), .blk b4 31 [.int .i64 0, .int .i64 0, .int .i64 0], .at_ ws, .at_ es] := h88.nrm ⟨rfl, rfl, rfl, rfl, rfl, rfl, rfl, rfl, rfl, trivial⟩ [0, 1, 2, 3, 4, 5, 6] (by decide) ⟨rfl, rfl, rfl, rfl, rfl, rfl, rfl, trivial⟩
   clear h88
   refine x_condT h89 rfl rfl ?_
   refine wp_seq_k fun K90 hK90 => wp_region_lit ?_
   refine wms 1 h89 rfl fun a91 h91 => ?_; clear h89
   refine wv h91 (r_build (cs := [.int .i64 3, .int .i64 0, .int .i64 ((i : Nat) : Int)]) rfl rfl (by kernel_rfl)) rfl rfl fun a92 h92 => ?_; clear h91
   refine wms 1 h92 rfl fun a93 h93 => ?_; clear h92
   refine wl_ex (x_stb (i := 4) (vs := [.int .i64 3, .int .i64 0, .int .i64 ((i : Nat) : Int)]) (cs' := [.int .i64 3, .int .i64 0, .int .i64 ((i : Nat) : Int)]) h93 ti_31 rfl rfl rfl rfl rfl rfl rfl (allOne_cons rfl (allOne_cons rfl (allOne_cons rfl allOne_nil))) (Nat.le_of_ble_eq_true rfl) rfl) (wanted_none rfl _) ?_
   rintro a94 w94 h94
   clear h93
   refine wpList_nil (hK90 _ _ ?_)
   refine wp_ret ?_
   try simp only [Exit.then, Exit.inBlock]
   refine x_rettc (fn := Try.f21) (t := 5) (u := 4) (i := 4) ti_31 rfl h94 rfl rfl rfl rfl ?_
   exact ⟨_, _, _, rfl, by decide, (h94.sh.sel [] (by decide) trivial)⟩
  have hp62 : ¬ ((nth es.l i).op < 0) := of_decide_eq_false hb62
  refine wl_val h61 (r_fieldB (r := 0) fl_36_0 rfl rfl rfl) (wanted_yes h61.fr rfl rfl rfl rfl hb62) rfl rfl fun a95 h95 => ?_; clear h61
  refine wl_val h95 (r_ldb (i := 0) ti_3 rfl rfl rfl rfl) (wanted_yes h95.fr rfl rfl rfl rfl hb62) rfl rfl fun a96 h96 => ?_; clear h95
  refine wl_val h96 (r_geqI (p := (nth es.l i).op) (q := 4) rfl rfl rfl) (wanted_yes h96.fr rfl rfl rfl rfl hb62) rfl rfl fun a97 h97 => ?_; clear h96
  refine wv h97 (r_pickF rfl rfl hb62 rfl) rfl rfl fun a98 h98 => ?_; clear h97
  refine wms 1 h98 rfl fun a99 h99 => ?_; clear h98
  rcases Bool.eq_false_or_eq_true (decide (4 ≤ (nth es.l i).op)) with hb100 | hb100
  ·
   have hp100 : 4 ≤ (nth es.l i).op := of_decide_eq_true hb100
   refine wl_skip h99 (wanted_no h99.fr rfl rfl rfl rfl hb100) rfl rfl fun a101 h101 => ?_; clear h99
   refine wl_skip h101 (wanted_no h101.fr rfl rfl rfl rfl hb100) rfl rfl fun a102 h102 => ?_; clear h101
   refine wl_skip h102 (wanted_no h102.fr rfl rfl rfl rfl hb100) rfl rfl fun a103 h103 => ?_; clear h102
   refine wv h103 (r_pickT rfl rfl hb100 rfl) rfl rfl fun a104 h104 => ?_; clear h103
   refine wms 1 h104 rfl fun a105 h105 => ?_; clear h104
   refine wl_skip h105 (wanted_no h105.fr rfl rfl rfl rfl rfl) rfl rfl fun a106 h106 => ?_; clear h105
   refine wl_skip h106 (wanted_no h106.fr rfl rfl rfl rfl rfl) rfl rfl fun a107 h107 => ?_; clear h106
   refine wl_skip h107 (wanted_no h107.fr rfl rfl rfl rfl rfl) rfl rfl fun a108 h108 => ?_; clear h107
   refine wl_skip h108 (wanted_no h108.fr rfl rfl rfl rfl rfl) rfl rfl fun a109 h109 => ?_; clear h108
   refine wl_skip h109 (wanted_no h109.fr rfl rfl rfl rfl rfl) rfl rfl fun a110 h110 => ?_; clear h109
   refine wv h110 (r_pickT rfl rfl rfl rfl) rfl rfl fun a111 h111 => ?_; clear h110
   refine wms 1 h111 rfl fun a112 h112 => ?_; clear h111
   refine wl_skip h112 (wanted_no h112.fr rfl rfl rfl rfl rfl) rfl rfl fun a113 h113 => ?_; clear h112
   refine wl_skip h113 (wanted_no h113.fr rfl rfl rfl rfl rfl) rfl rfl fun a114 h114 => ?_; clear h113
   refine wl_skip h114 (wanted_no h114.fr rfl rfl rfl rfl rfl) rfl rfl fun a115 h115 => ?_; clear h114
   refine wl_skip h115 (wanted_no h115.fr rfl rfl rfl rfl rfl) rfl rfl fun a116 h116 => ?_; clear h115
   refine wl_skip h116 (wanted_no2 h116.fr rfl rfl rfl rfl) rfl rfl fun a117 h117 => ?_; clear h116
   refine wl_skip h117 (wanted_no2 h117.fr rfl rfl rfl rfl) rfl rfl fun a118 h118 => ?_; clear h117
   refine wl_skip h118 (wanted_no2 h118.fr rfl rfl rfl rfl) rfl rfl fun a119 h119 => ?_; clear h118
   refine wl_skip h119 (wanted_no h119.fr rfl rfl rfl rfl rfl) rfl rfl fun a120 h120 => ?_; clear h119
   refine wv h120 (r_pickT rfl rfl rfl rfl) rfl rfl fun a121 h121 => ?_; clear h120
   refine wpList_nil (hK57 _ _ ?_)
   have h122 : St 86 (fun _ => False) W a121 w55 [(0, ws.v), (5, .pointer (some ⟨b4, 0, none⟩)), (6, .pointer (some ⟨b36, 0, none⟩)), (7, .int .i64 ((i : Nat) : Int)), (8, .pointer (some ⟨b53, 0, none⟩)), (22, es.v), (23, .int .i64 ((es.l.length : Nat) : Int)), (24, .int .i64 ((i : Nat) : Int)), (58, .bool true)] [.blk b53 36 [.int .i64 ((nth es.l i).op), .int .i64 ((nth es.l i).a), .int .i64 ((nth es.l i).b), .int .i64 ((nth es.l i).c)], .blk b36 90 [v32, .map (some g33)], .big (seenX 24 g33 ([] : List (List Nat × Ls (Ls Int)))), .big (matX (.own 36) 37 v32 M), .blk b4 31 [.int .i64 0, .int .i64 0, .int .i64 0], .at_ ws, .at_ es] := h121.nrm ⟨rfl, rfl, rfl, rfl, rfl, rfl, rfl, rfl, rfl, trivial⟩ [0, 1, 2, 3, 4, 5, 6] (by decide) ⟨rfl, rfl, rfl, rfl, rfl, rfl, rfl, trivial⟩
   clear h121
   refine x_condT h122 rfl rfl ?_
   refine wp_seq_k fun K123 hK123 => wp_region_lit ?_
   refine wms 1 h122 rfl fun a124 h124 => ?_; clear h122
   refine wv h124 (r_build (cs := [.int .i64 3, .int .i64 0, .int .i64 ((i : Nat) : Int)]) rfl rfl (by kernel_rfl)) rfl rfl fun a125 h125 => ?_; clear h124
   refine wms 1 h125 rfl fun a126 h126 => ?_; clear h125
   refine wl_ex (x_stb (i := 4) (vs := [.int .i64 3, .int .i64 0, .int .i64 ((i : Nat) : Int)]) (cs' := [.int .i64 3, .int .i64 0, .int .i64 ((i : Nat) : Int)]) h126 ti_31 rfl rfl rfl rfl rfl rfl rfl (allOne_cons rfl (allOne_cons rfl (allOne_cons rfl allOne_nil))) (Nat.le_of_ble_eq_true rfl) rfl) (wanted_none rfl _) ?_
   rintro a127 w127 h127
   clear h126
   refine wpList_nil (hK123 _ _ ?_)
   refine wp_ret ?_
   try simp only [Exit.then, Exit.inBlock]
   refine x_rettc (fn := Try.f21) (t := 5) (u := 4) (i := 4) ti_31 rfl h127 rfl rfl rfl rfl ?_
   exact ⟨_, _, _, rfl, by decide, (h127.sh.sel [] (by decide) trivial)⟩
  have hp100 : ¬ (4 ≤ (nth es.l i).op) := of_decide_eq_false hb100
  refine wl_val h99 (r_fieldB (r := 1) fl_36_1 rfl rfl rfl) (wanted_yes h99.fr rfl rfl rfl rfl hb100) rfl rfl fun a128 h128 => ?_; clear h99
  refine wl_val h128 (r_ldb (i := 0) ti_3 rfl rfl rfl rfl) (wanted_yes h128.fr rfl rfl rfl rfl hb100) rfl rfl fun a129 h129 => ?_; clear h128
  refine wl_val h129 (r_lssI (p := (nth es.l i).a) (q := 0) rfl rfl rfl) (wanted_yes h129.fr rfl rfl rfl rfl hb100) rfl rfl fun a130 h130 => ?_; clear h129
  refine wv h130 (r_pickF rfl rfl hb100 rfl) rfl rfl fun a131 h131 => ?_; clear h130
  refine wms 1 h131 rfl fun a132 h132 => ?_; clear h131
  rcases Bool.eq_false_or_eq_true (decide ((nth es.l i).a < 0)) with hb133 | hb133
  ·
   have hp133 : (nth es.l i).a < 0 := of_decide_eq_true hb133
   refine wl_skip h132 (wanted_no h132.fr rfl rfl rfl rfl hb133) rfl rfl fun a134 h134 => ?_; clear h132
   refine wl_skip h134 (wanted_no h134.fr rfl rfl rfl rfl hb133) rfl rfl fun a135 h135 => ?_; clear h134
   refine wl_skip h135 (wanted_no h135.fr rfl rfl rfl rfl hb133) rfl rfl fun a136 h136 => ?_; clear h135
   refine wl_skip h136 (wanted_no h136.fr rfl rfl rfl rfl hb133) rfl rfl fun a137 h137 => ?_; clear h136
   refine wl_skip h137 (wanted_no h137.fr rfl rfl rfl rfl hb133) rfl rfl fun a138 h138 => ?_; clear h137
   refine wv h138 (r_pickT rfl rfl hb133 rfl) rfl rfl fun a139 h139 => ?_; clear h138
   refine wms 1 h139 rfl fun a140 h140 => ?_; clear h139
   refine wl_skip h140 (wanted_no h140.fr rfl rfl rfl rfl rfl) rfl rfl fun a141 h141 => ?_; clear h140
   refine wl_skip h141 (wanted_no h141.fr rfl rfl rfl rfl rfl) rfl rfl fun a142 h142 => ?_; clear h141
   refine wl_skip h142 (wanted_no h142.fr rfl rfl rfl rfl rfl) rfl rfl fun a143 h143 => ?_; clear h142
   refine wl_skip h143 (wanted_no h143.fr rfl rfl rfl rfl rfl) rfl rfl fun a144 h144 => ?_; clear h143
   refine wl_skip h144 (wanted_no2 h144.fr rfl rfl rfl rfl) rfl rfl fun a145 h145 => ?_; clear h144
   refine wl_skip h145 (wanted_no2 h145.fr rfl rfl rfl rfl) rfl rfl fun a146 h146 => ?_; clear h145
   refine wl_skip h146 (wanted_no2 h146.fr rfl rfl rfl rfl) rfl rfl fun a147 h147 => ?_; clear h146
   refine wl_skip h147 (wanted_no h147.fr rfl rfl rfl rfl rfl) rfl rfl fun a148 h148 => ?_; clear h147
   refine wv h148 (r_pickT rfl rfl rfl rfl) rfl rfl fun a149 h149 => ?_; clear h148
   refine wpList_nil (hK57 _ _ ?_)
   have h150 : St 86 (fun _ => False) W a149 w55 [(0, ws.v), (5, .pointer (some ⟨b4, 0, none⟩)), (6, .pointer (some ⟨b36, 0, none⟩)), (7, .int .i64 ((i : Nat) : Int)), (8, .pointer (some ⟨b53, 0, none⟩)), (22, es.v), (23, .int .i64 ((es.l.length : Nat) : Int)), (24, .int .i64 ((i : Nat) : Int)), (58, .bool true)] [.blk b53 36 [.int .i64 ((nth es.l i).op), .int .i64 ((nth es.l i).a), .int .i64 ((nth es.l i).b), .int .i64 ((nth es.l i).c)], .blk b36 90 [v32, .map (some g33)], .big (seenX 24 g33 ([] : List (List Nat × Ls (Ls Int)))), .big (matX (.own 36) 37 v32 M), .blk b4 31 [.int .i64 0, .int .i64 0, .int .i64 0], .at_ ws, .at_ es] := h149.nrm ⟨rfl, rfl, rfl, rfl, rfl, rfl, rfl, rfl, rfl, trivial⟩ [0, 1, 2, 3, 4, 5, 6] (by decide) ⟨rfl, rfl, rfl, rfl, rfl, rfl, rfl, trivial⟩
   clear h149
   refine x_condT h150 rfl rfl ?_
   refine wp_seq_k fun K151 hK151 => wp_region_lit ?_
   refine wms 1 h150 rfl fun a152 h152 => ?_; clear h150
   refine wv h152 (r_build (cs := [.int .i64 3, .int .i64 0, .int .i64 ((i : Nat) : Int)]) rfl rfl (by kernel_rfl)) rfl rfl fun a153 h153 => ?_; clear h152
   refine wms 1 h153 rfl fun a154 h154 => ?_; clear h153
   refine wl_ex (x_stb (i := 4) (vs := [.int .i64 3, .int .i64 0, .int .i64 ((i : Nat) : Int)]) (cs' := [.int .i64 3, .int .i64 0, .int .i64 ((i : Nat) : Int)]) h154 ti_31 rfl rfl rfl rfl rfl rfl rfl (allOne_cons rfl (allOne_cons rfl (allOne_cons rfl allOne_nil))) (Nat.le_of_ble_eq_true rfl) rfl) (wanted_none rfl _) ?_
   rintro a155 w155 h155
   clear h154
   refine wpList_nil (hK151 _ _ ?_)
   refine wp_ret ?_
   try simp only [Exit.then, Exit.inBlock]
   refine x_rettc (fn := Try.f21) (t := 5) (u := 4) (i := 4) ti_31 rfl h155 rfl rfl rfl rfl ?_
   exact ⟨_, _, _, rfl, by decide, (h155.sh.sel [] (by decide) trivial)⟩
  have hp133 : ¬ ((nth es.l i).a < 0) := of_decide_eq_false hb133
  refine wl_val h132 (r_fieldB (r := 1) fl_36_1 rfl rfl rfl) (wanted_yes h132.fr rfl rfl rfl rfl hb133) rfl rfl fun a156 h156 => ?_; clear h132
  refine wl_val h156 (r_ldb (i := 0) ti_3 rfl rfl rfl rfl) (wanted_yes h156.fr rfl rfl rfl rfl hb133) rfl rfl fun a157 h157 => ?_; clear h156
  refine wl_val h157 (r_move rfl rfl) (wanted_yes h157.fr rfl rfl rfl rfl hb133) rfl rfl fun a158 h158 => ?_; clear h157
  refine wl_val h158 (r_len (s := ws) (n := ws.l.length) sl_24 rfl rfl (fun w h => (h.at 5 rfl)) rfl) (wanted_yes h158.fr rfl rfl rfl rfl hb133) rfl rfl fun a159 h159 => ?_; clear h158
  refine wl_val h159 (r_geqI (p := (nth es.l i).a) (q := ((ws.l.length : Nat) : Int)) rfl rfl rfl) (wanted_yes h159.fr rfl rfl rfl rfl hb133) rfl rfl fun a160 h160 => ?_; clear h159
  refine wv h160 (r_pickF rfl rfl hb133 rfl) rfl rfl fun a161 h161 => ?_; clear h160
  refine wms 1 h161 rfl fun a162 h162 => ?_; clear h161
  rcases Bool.eq_false_or_eq_true (decide (((ws.l.length : Nat) : Int) ≤ (nth es.l i).a)) with hb163 | hb163
  ·
   have hp163 : ((ws.l.length : Nat) : Int) ≤ (nth es.l i).a := of_decide_eq_true hb163
   refine wl_skip h162 (wanted_no h162.fr rfl rfl rfl rfl hb163) rfl rfl fun a164 h164 => ?_; clear h162
   refine wl_skip h164 (wanted_no h164.fr rfl rfl rfl rfl hb163) rfl rfl fun a165 h165 => ?_; clear h164
   refine wl_skip h165 (wanted_no h165.fr rfl rfl rfl rfl hb163) rfl rfl fun a166 h166 => ?_; clear h165
   refine wl_skip h166 (wanted_no h166.fr rfl rfl rfl rfl hb163) rfl rfl fun a167 h167 => ?_; clear h166
   refine wl_skip h167 (wanted_no2 h167.fr rfl rfl rfl rfl) rfl rfl fun a168 h168 => ?_; clear h167
   refine wl_skip h168 (wanted_no2 h168.fr rfl rfl rfl rfl) rfl rfl fun a169 h169 => ?_; clear h168
   refine wl_skip h169 (wanted_no2 h169.fr rfl rfl rfl rfl) rfl rfl fun a170 h170 => ?_; clear h169
   refine wl_skip h170 (wanted_no h170.fr rfl rfl rfl rfl hb163) rfl rfl fun a171 h171 => ?_; clear h170
   refine wv h171 (r_pickT rfl rfl hb163 rfl) rfl rfl fun a172 h172 => ?_; clear h171
   refine wpList_nil (hK57 _ _ ?_)
   have h173 : St 86 (fun _ => False) W a172 w55 [(0, ws.v), (5, .pointer (some ⟨b4, 0, none⟩)), (6, .pointer (some ⟨b36, 0, none⟩)), (7, .int .i64 ((i : Nat) : Int)), (8, .pointer (some ⟨b53, 0, none⟩)), (22, es.v), (23, .int .i64 ((es.l.length : Nat) : Int)), (24, .int .i64 ((i : Nat) : Int)), (58, .bool true)] [.blk b53 36 [.int .i64 ((nth es.l i).op), .int .i64 ((nth es.l i).a), .int .i64 ((nth es.l i).b), .int .i64 ((nth es.l i).c)], .blk b36 90 [v32, .map (some g33)], .big (seenX 24 g33 ([] : List (List Nat × Ls (Ls Int)))), .big (matX (.own 36) 37 v32 M), .blk b4 31 [.int .i64 0, .int .i64 0, .int .i64 0], .at_ ws, .at_ es] := h172.nrm ⟨rfl, rfl, rfl, rfl, rfl, rfl, rfl, rfl, rfl, trivial⟩ [0, 1, 2, 3, 4, 5, 6] (by decide) ⟨rfl, rfl, rfl, rfl, rfl, rfl, rfl, trivial⟩
   clear h172
   refine x_condT h173 rfl rfl ?_
   refine wp_seq_k fun K174 hK174 => wp_region_lit ?_
   refine wms 1 h173 rfl fun a175 h175 => ?_; clear h173
   refine wv h175 (r_build (cs := [.int .i64 3, .int .i64 0, .int .i64 ((i : Nat) : Int)]) rfl rfl (by kernel_rfl)) rfl rfl fun a176 h176 => ?_; clear h175
   refine wms 1 h176 rfl fun a177 h177 => ?_; clear h176
   refine wl_ex (x_stb (i := 4) (vs := [.int .i64 3, .int .i64 0, .int .i64 ((i : Nat) : Int)]) (cs' := [.int .i64 3, .int .i64 0, .int .i64 ((i : Nat) : Int)]) h177 ti_31 rfl rfl rfl rfl rfl rfl rfl (allOne_cons rfl (allOne_cons rfl (allOne_cons rfl allOne_nil))) (Nat.le_of_ble_eq_true rfl) rfl) (wanted_none rfl _) ?_
   rintro a178 w178 h178
   clear h177
   refine wpList_nil (hK174 _ _ ?_)
   refine wp_ret ?_
   try simp only [Exit.then, Exit.inBlock]
   refine x_rettc (fn := Try.f21) (t := 5) (u := 4) (i := 4) ti_31 rfl h178 rfl rfl rfl rfl ?_
   exact ⟨_, _, _, rfl, by decide, (h178.sh.sel [] (by decide) trivial)⟩
  have hp163 : ¬ (((ws.l.length : Nat) : Int) ≤ (nth es.l i).a) := of_decide_eq_false hb163
  refine wl_val h162 (r_fieldB (r := 2) fl_36_2 rfl rfl rfl) (wanted_yes h162.fr rfl rfl rfl rfl hb163) rfl rfl fun a179 h179 => ?_; clear h162
  refine wl_val h179 (r_ldb (i := 0) ti_3 rfl rfl rfl rfl) (wanted_yes h179.fr rfl rfl rfl rfl hb163) rfl rfl fun a180 h180 => ?_; clear h179
  refine wl_val h180 (r_neqI (p := (nth es.l i).b) (q := 1) rfl rfl rfl) (wanted_yes h180.fr rfl rfl rfl rfl hb163) rfl rfl fun a181 h181 => ?_; clear h180
  refine wl_val h181 (r_move rfl rfl) (wanted_yes h181.fr rfl rfl rfl rfl hb163) rfl rfl fun a182 h182 => ?_; clear h181
  rcases Bool.eq_false_or_eq_true (decide ((nth es.l i).b ≠ 1)) with hb183 | hb183
  ·
   have hp183 : (nth es.l i).b ≠ 1 := of_decide_eq_true hb183
   refine wl_val h182 (r_fieldB (r := 2) fl_36_2 rfl rfl rfl) (wanted_yes h182.fr rfl rfl rfl rfl hb183) rfl rfl fun a184 h184 => ?_; clear h182
   refine wl_val h184 (r_ldb (i := 0) ti_3 rfl rfl rfl rfl) (wanted_yes h184.fr rfl rfl rfl rfl hb183) rfl rfl fun a185 h185 => ?_; clear h184
   refine wl_val h185 (r_neqI (p := (nth es.l i).b) (q := 2) rfl rfl rfl) (wanted_yes h185.fr rfl rfl rfl rfl hb183) rfl rfl fun a186 h186 => ?_; clear h185
   refine wl_val h186 (r_pickT rfl rfl hb183 rfl) (wanted_yes h186.fr rfl rfl rfl rfl hb163) rfl rfl fun a187 h187 => ?_; clear h186
   refine wv h187 (r_pickF rfl rfl hb163 rfl) rfl rfl fun a188 h188 => ?_; clear h187
   refine wpList_nil (hK57 _ _ ?_)
   have h189 : St 86 (fun _ => False) W a188 w55 [(0, ws.v), (5, .pointer (some ⟨b4, 0, none⟩)), (6, .pointer (some ⟨b36, 0, none⟩)), (7, .int .i64 ((i : Nat) : Int)), (8, .pointer (some ⟨b53, 0, none⟩)), (22, es.v), (23, .int .i64 ((es.l.length : Nat) : Int)), (24, .int .i64 ((i : Nat) : Int)), (58, .bool (decide ((nth es.l i).b ≠ 2)))] [.blk b53 36 [.int .i64 ((nth es.l i).op), .int .i64 ((nth es.l i).a), .int .i64 ((nth es.l i).b), .int .i64 ((nth es.l i).c)], .blk b36 90 [v32, .map (some g33)], .big (seenX 24 g33 ([] : List (List Nat × Ls (Ls Int)))), .big (matX (.own 36) 37 v32 M), .blk b4 31 [.int .i64 0, .int .i64 0, .int .i64 0], .at_ ws, .at_ es] := h188.nrm ⟨rfl, rfl, rfl, rfl, rfl, rfl, rfl, rfl, rfl, trivial⟩ [0, 1, 2, 3, 4, 5, 6] (by decide) ⟨rfl, rfl, rfl, rfl, rfl, rfl, rfl, trivial⟩
   clear h188
   refine x_cond h189 rfl (fun hb190 => ?_) (fun hb190 => ?_)
   ·
    have hp190 : (nth es.l i).b ≠ 2 := of_decide_eq_true hb190
    refine wp_seq_k fun K191 hK191 => wp_region_lit ?_
    refine wms 1 h189 rfl fun a192 h192 => ?_; clear h189
    refine wv h192 (r_build (cs := [.int .i64 3, .int .i64 0, .int .i64 ((i : Nat) : Int)]) rfl rfl (by kernel_rfl)) rfl rfl fun a193 h193 => ?_; clear h192
    refine wms 1 h193 rfl fun a194 h194 => ?_; clear h193
    refine wl_ex (x_stb (i := 4) (vs := [.int .i64 3, .int .i64 0, .int .i64 ((i : Nat) : Int)]) (cs' := [.int .i64 3, .int .i64 0, .int .i64 ((i : Nat) : Int)]) h194 ti_31 rfl rfl rfl rfl rfl rfl rfl (allOne_cons rfl (allOne_cons rfl (allOne_cons rfl allOne_nil))) (Nat.le_of_ble_eq_true rfl) rfl) (wanted_none rfl _) ?_
    rintro a195 w195 h195
    clear h194
    refine wpList_nil (hK191 _ _ ?_)
    refine wp_ret ?_
    try simp only [Exit.then, Exit.inBlock]
    refine x_rettc (fn := Try.f21) (t := 5) (u := 4) (i := 4) ti_31 rfl h195 rfl rfl rfl rfl ?_
    exact ⟨_, _, _, rfl, by decide, (h195.sh.sel [] (by decide) trivial)⟩
   have hp190 : ¬ ((nth es.l i).b ≠ 2) := of_decide_eq_false hb190
   refine wp_skip ?_
   refine hK56 _ _ ?_
   have hlq := hlen0 (nth es.l i).op.toNat (by omega)
   have h196 : St 86 (fun _ => False) W a188 w55 [(0, ws.v), (5, .pointer (some ⟨b4, 0, none⟩)), (6, .pointer (some ⟨b36, 0, none⟩)), (7, .int .i64 ((i : Nat) : Int)), (8, .pointer (some ⟨b53, 0, none⟩)), (22, es.v), (23, .int .i64 ((es.l.length : Nat) : Int)), (24, .int .i64 ((i : Nat) : Int)), (58, .bool (decide ((nth es.l i).b ≠ 2)))] [.blk b53 36 [.int .i64 ((nth es.l i).op), .int .i64 ((nth es.l i).a), .int .i64 ((nth es.l i).b), .int .i64 ((nth es.l i).c)], .blk b36 90 [v32, .map (some g33)], .big (seenX 24 g33 ([] : List (List Nat × Ls (Ls Int)))), .big (matX (.own 36) 37 v32 M), .blk b4 31 [.int .i64 0, .int .i64 0, .int .i64 0], .at_ ws, .at_ es] := h189.nrm ⟨rfl, rfl, rfl, rfl, rfl, rfl, rfl, rfl, rfl, trivial⟩ [0, 1, 2, 3, 4, 5, 6] (by decide) ⟨rfl, rfl, rfl, rfl, rfl, rfl, rfl, trivial⟩
   clear h189
   refine x_any (fun S a w => (S 15 = false ∧ S 16 = false ∧ S 18 = false ∧ FrI 86 S [(0, ws.v), (5, .pointer (some ⟨b4, 0, none⟩)), (6, .pointer (some ⟨b36, 0, none⟩)), (7, .int .i64 ((i : Nat) : Int)), (8, .pointer (some ⟨b53, 0, none⟩)), (22, es.v), (23, .int .i64 ((es.l.length : Nat) : Int)), (24, .int .i64 ((i : Nat) : Int)), (58, .bool (decide ((nth es.l i).b ≠ 2)))] [(0, 61, .pointer (some ⟨b36, 0, none⟩)), (1, 62, .pointer (some ⟨b36, 0, none⟩)), (2, 63, .pointer (some ⟨b36, 0, none⟩)), (3, 64, v32), (4, 65, .pointer (some ⟨b53, 0, none⟩)), (5, 66, .int .i64 ((nth es.l i).op)), (6, 67, .pointer (some ⟨b36, 0, none⟩)), (7, 68, .pointer (some ⟨b36, 0, none⟩)), (8, 69, .pointer (some ⟨b36, 0, none⟩)), (9, 70, v32), (10, 71, .pointer (some ⟨b53, 0, none⟩)), (11, 72, .int .i64 ((nth es.l i).op)), (12, 73, .pointer (some (padr v32 1 (((nth es.l i).op).toNat) 0))), (13, 74, (nth M (((nth es.l i).op).toNat)).v), (14, 75, .agg #[.int .i64 ((nth es.l i).op), .int .i64 ((nth es.l i).a), .int .i64 ((nth es.l i).b), .int .i64 ((nth es.l i).c)])] a ∧ Sh (fun _ => False) W w [.blk b53 36 [.int .i64 ((nth es.l i).op), .int .i64 ((nth es.l i).a), .int .i64 ((nth es.l i).b), .int .i64 ((nth es.l i).c)], .blk b36 90 [v32, .map (some g33)], .big (seenX 24 g33 ([] : List (List Nat × Ls (Ls Int)))), .big (matX (.own 36) 37 v32 M), .blk b4 31 [.int .i64 0, .int .i64 0, .int .i64 0], .at_ ws, .at_ es]) ∨ (S 15 = true ∧ S 16 = false ∧ S 18 = false ∧ ∃ (v7015 : Value), FrI 86 S [(0, ws.v), (5, .pointer (some ⟨b4, 0, none⟩)), (6, .pointer (some ⟨b36, 0, none⟩)), (7, .int .i64 ((i : Nat) : Int)), (8, .pointer (some ⟨b53, 0, none⟩)), (22, es.v), (23, .int .i64 ((es.l.length : Nat) : Int)), (24, .int .i64 ((i : Nat) : Int)), (58, .bool (decide ((nth es.l i).b ≠ 2)))] [(0, 61, .pointer (some ⟨b36, 0, none⟩)), (1, 62, .pointer (some ⟨b36, 0, none⟩)), (2, 63, .pointer (some ⟨b36, 0, none⟩)), (3, 64, v32), (4, 65, .pointer (some ⟨b53, 0, none⟩)), (5, 66, .int .i64 ((nth es.l i).op)), (6, 67, .pointer (some ⟨b36, 0, none⟩)), (7, 68, .pointer (some ⟨b36, 0, none⟩)), (8, 69, .pointer (some ⟨b36, 0, none⟩)), (9, 70, v32), (10, 71, .pointer (some ⟨b53, 0, none⟩)), (11, 72, .int .i64 ((nth es.l i).op)), (12, 73, .pointer (some (padr v32 1 (((nth es.l i).op).toNat) 0))), (13, 74, (nth M (((nth es.l i).op).toNat)).v), (14, 75, .agg #[.int .i64 ((nth es.l i).op), .int .i64 ((nth es.l i).a), .int .i64 ((nth es.l i).b), .int .i64 ((nth es.l i).c)]), (15, 76, v7015)] a ∧ Sh (fun _ => False) W w [.own 36 (⟨v7015, [(nth es.l i)]⟩ : Ls Ins), .blk b53 36 [.int .i64 ((nth es.l i).op), .int .i64 ((nth es.l i).a), .int .i64 ((nth es.l i).b), .int .i64 ((nth es.l i).c)], .blk b36 90 [v32, .map (some g33)], .big (seenX 24 g33 ([] : List (List Nat × Ls (Ls Int)))), .big (matX (.own 36) 37 v32 M), .blk b4 31 [.int .i64 0, .int .i64 0, .int .i64 0], .at_ ws, .at_ es]) ∨ (S 15 = true ∧ S 16 = true ∧ S 18 = false ∧ ∃ (v7015 : Value) (v7016 : Value), FrI 86 S [(0, ws.v), (5, .pointer (some ⟨b4, 0, none⟩)), (6, .pointer (some ⟨b36, 0, none⟩)), (7, .int .i64 ((i : Nat) : Int)), (8, .pointer (some ⟨b53, 0, none⟩)), (22, es.v), (23, .int .i64 ((es.l.length : Nat) : Int)), (24, .int .i64 ((i : Nat) : Int)), (58, .bool (decide ((nth es.l i).b ≠ 2)))] [(0, 61, .pointer (some ⟨b36, 0, none⟩)), (1, 62, .pointer (some ⟨b36, 0, none⟩)), (2, 63, .pointer (some ⟨b36, 0, none⟩)), (3, 64, v32), (4, 65, .pointer (some ⟨b53, 0, none⟩)), (5, 66, .int .i64 ((nth es.l i).op)), (6, 67, .pointer (some ⟨b36, 0, none⟩)), (7, 68, .pointer (some ⟨b36, 0, none⟩)), (8, 69, .pointer (some ⟨b36, 0, none⟩)), (9, 70, v32), (10, 71, .pointer (some ⟨b53, 0, none⟩)), (11, 72, .int .i64 ((nth es.l i).op)), (12, 73, .pointer (some (padr v32 1 (((nth es.l i).op).toNat) 0))), (13, 74, (nth M (((nth es.l i).op).toNat)).v), (14, 75, .agg #[.int .i64 ((nth es.l i).op), .int .i64 ((nth es.l i).a), .int .i64 ((nth es.l i).b), .int .i64 ((nth es.l i).c)]), (15, 76, v7015), (16, 77, v7016), (17, 78, .pointer (some (padr v32 1 (((nth es.l i).op).toNat) 0)))] a ∧ Sh (fun _ => False) W w [.own 36 (⟨v7016, (nth M (((nth es.l i).op).toNat)).l ++ ([(nth es.l i)])⟩ : Ls Ins), .own 36 (⟨v7015, [(nth es.l i)]⟩ : Ls Ins), .blk b53 36 [.int .i64 ((nth es.l i).op), .int .i64 ((nth es.l i).a), .int .i64 ((nth es.l i).b), .int .i64 ((nth es.l i).c)], .blk b36 90 [v32, .map (some g33)], .big (seenX 24 g33 ([] : List (List Nat × Ls (Ls Int)))), .big (holeX (.own 36) 37 v32 M (((nth es.l i).op).toNat)), .blk b4 31 [.int .i64 0, .int .i64 0, .int .i64 0], .at_ ws, .at_ es]) ∨ (S 15 = true ∧ S 16 = true ∧ S 18 = true ∧ ∃ (v7015 : Value) (v7016 : Value), FrI 86 S [(0, ws.v), (5, .pointer (some ⟨b4, 0, none⟩)), (6, .pointer (some ⟨b36, 0, none⟩)), (7, .int .i64 ((i : Nat) : Int)), (8, .pointer (some ⟨b53, 0, none⟩)), (22, es.v), (23, .int .i64 ((es.l.length : Nat) : Int)), (24, .int .i64 ((i : Nat) : Int)), (58, .bool (decide ((nth es.l i).b ≠ 2)))] [(0, 61, .pointer (some ⟨b36, 0, none⟩)), (1, 62, .pointer (some ⟨b36, 0, none⟩)), (2, 63, .pointer (some ⟨b36, 0, none⟩)), (3, 64, v32), (4, 65, .pointer (some ⟨b53, 0, none⟩)), (5, 66, .int .i64 ((nth es.l i).op)), (6, 67, .pointer (some ⟨b36, 0, none⟩)), (7, 68, .pointer (some ⟨b36, 0, none⟩)), (8, 69, .pointer (some ⟨b36, 0, none⟩)), (9, 70, v32), (10, 71, .pointer (some ⟨b53, 0, none⟩)), (11, 72, .int .i64 ((nth es.l i).op)), (12, 73, .pointer (some (padr v32 1 (((nth es.l i).op).toNat) 0))), (13, 74, (nth M (((nth es.l i).op).toNat)).v), (14, 75, .agg #[.int .i64 ((nth es.l i).op), .int .i64 ((nth es.l i).a), .int .i64 ((nth es.l i).b), .int .i64 ((nth es.l i).c)]), (15, 76, v7015), (16, 77, v7016), (17, 78, .pointer (some (padr v32 1 (((nth es.l i).op).toNat) 0)))] a ∧ Sh (fun _ => False) W w [.own 36 (⟨v7015, [(nth es.l i)]⟩ : Ls Ins), .blk b53 36 [.int .i64 ((nth es.l i).op), .int .i64 ((nth es.l i).a), .int .i64 ((nth es.l i).b), .int .i64 ((nth es.l i).c)], .blk b36 90 [v32, .map (some g33)], .big (seenX 24 g33 ([] : List (List Nat × Ls (Ls Int)))), .big (matX (.own 36) 37 v32 (M.set (((nth es.l i).op).toNat) (⟨v7016, (nth M (((nth es.l i).op).toNat)).l ++ ([(nth es.l i)])⟩ : Ls Ins))), .blk b4 31 [.int .i64 0, .int .i64 0, .int .i64 0], .at_ ws, .at_ es])) (by kernel_rfl) (by kernel_rfl) (Or.inl (⟨rfl, rfl, rfl, FrI.start h196.fr, h196.sh.drew⟩)) ?_ ?_
   ·intro S i o ho hSi hcl hdep a w hI
    clear h196
    rcases i with _ | _ | _ | _ | _ | _ | _ | _ | _ | _ | _ | _ | _ | _ | _ | _ | _ | _ | _ | i
    ·
     obtain rfl : _ = o := Option.some.inj ho
     rcases hI with ⟨hw15, hw16, hw18, hfr, hsh⟩ | ⟨hw15, hw16, hw18, v7015, hfr, hsh⟩ | ⟨hw15, hw16, hw18, v7015, v7016, hfr, hsh⟩ | ⟨hw15, hw16, hw18, v7015, v7016, hfr, hsh⟩
     ·
      exact sq hfr hfr.fr0 hsh (r_move rfl rfl) 0 rfl rfl rfl rfl rfl rfl fun a hg => Or.inl (⟨un rfl hw15, un rfl hw16, un rfl hw18, hg, hsh⟩)
     ·
      exact sq hfr hfr.fr0 hsh (r_move rfl rfl) 0 rfl rfl rfl rfl rfl rfl fun a hg => Or.inr (Or.inl (⟨un rfl hw15, un rfl hw16, un rfl hw18, v7015, hg, hsh⟩))
     ·
      exact sq hfr hfr.fr0 hsh (r_move rfl rfl) 0 rfl rfl rfl rfl rfl rfl fun a hg => Or.inr (Or.inr (Or.inl (⟨un rfl hw15, un rfl hw16, un rfl hw18, v7015, v7016, hg, hsh⟩)))
     ·
      exact no_way (cA hcl 18 0 rfl hw18) hSi
    ·
     obtain rfl : _ = o := Option.some.inj ho
     have hd0 : S 0 = true := depAt hdep 0 rfl rfl
     rcases hI with ⟨hw15, hw16, hw18, hfr, hsh⟩ | ⟨hw15, hw16, hw18, v7015, hfr, hsh⟩ | ⟨hw15, hw16, hw18, v7015, v7016, hfr, hsh⟩ | ⟨hw15, hw16, hw18, v7015, v7016, hfr, hsh⟩
     ·
      exact sq hfr (Fr.cons hfr.fr0 (hfr.at_ 0 0 61 _ rfl hd0)) hsh (r_nil rfl rfl) 1 rfl rfl rfl rfl rfl rfl fun a hg => Or.inl (⟨un rfl hw15, un rfl hw16, un rfl hw18, hg, hsh⟩)
     ·
      exact sq hfr (Fr.cons hfr.fr0 (hfr.at_ 0 0 61 _ rfl hd0)) hsh (r_nil rfl rfl) 1 rfl rfl rfl rfl rfl rfl fun a hg => Or.inr (Or.inl (⟨un rfl hw15, un rfl hw16, un rfl hw18, v7015, hg, hsh⟩))
     ·
      exact sq hfr (Fr.cons hfr.fr0 (hfr.at_ 0 0 61 _ rfl hd0)) hsh (r_nil rfl rfl) 1 rfl rfl rfl rfl rfl rfl fun a hg => Or.inr (Or.inr (Or.inl (⟨un rfl hw15, un rfl hw16, un rfl hw18, v7015, v7016, hg, hsh⟩)))
     ·
      exact no_way (cA hcl 18 1 rfl hw18) hSi
    ·
     obtain rfl : _ = o := Option.some.inj ho
     have hd1 : S 1 = true := depAt hdep 0 rfl rfl
     rcases hI with ⟨hw15, hw16, hw18, hfr, hsh⟩ | ⟨hw15, hw16, hw18, v7015, hfr, hsh⟩ | ⟨hw15, hw16, hw18, v7015, v7016, hfr, hsh⟩ | ⟨hw15, hw16, hw18, v7015, v7016, hfr, hsh⟩
     ·
      exact sq hfr (Fr.cons hfr.fr0 (hfr.at_ 1 1 62 _ rfl hd1)) hsh (r_fieldB (r := 0) fl_90_0 rfl rfl rfl) 2 rfl rfl rfl rfl rfl rfl fun a hg => Or.inl (⟨un rfl hw15, un rfl hw16, un rfl hw18, hg, hsh⟩)
     ·
      exact sq hfr (Fr.cons hfr.fr0 (hfr.at_ 1 1 62 _ rfl hd1)) hsh (r_fieldB (r := 0) fl_90_0 rfl rfl rfl) 2 rfl rfl rfl rfl rfl rfl fun a hg => Or.inr (Or.inl (⟨un rfl hw15, un rfl hw16, un rfl hw18, v7015, hg, hsh⟩))
     ·
      exact sq hfr (Fr.cons hfr.fr0 (hfr.at_ 1 1 62 _ rfl hd1)) hsh (r_fieldB (r := 0) fl_90_0 rfl rfl rfl) 2 rfl rfl rfl rfl rfl rfl fun a hg => Or.inr (Or.inr (Or.inl (⟨un rfl hw15, un rfl hw16, un rfl hw18, v7015, v7016, hg, hsh⟩)))
     ·
      exact no_way (cA hcl 18 2 rfl hw18) hSi
    ·
     obtain rfl : _ = o := Option.some.inj ho
     have hd2 : S 2 = true := depAt hdep 0 rfl rfl
     rcases hI with ⟨hw15, hw16, hw18, hfr, hsh⟩ | ⟨hw15, hw16, hw18, v7015, hfr, hsh⟩ | ⟨hw15, hw16, hw18, v7015, v7016, hfr, hsh⟩ | ⟨hw15, hw16, hw18, v7015, v7016, hfr, hsh⟩
     ·
      exact sq hfr (Fr.cons hfr.fr0 (hfr.at_ 2 2 63 _ rfl hd2)) hsh (r_ldb (i := 1) ti_87 rfl rfl rfl rfl) 3 rfl rfl rfl rfl rfl rfl fun a hg => Or.inl (⟨un rfl hw15, un rfl hw16, un rfl hw18, hg, hsh⟩)
     ·
      exact sq hfr (Fr.cons hfr.fr0 (hfr.at_ 2 2 63 _ rfl hd2)) hsh (r_ldb (i := 2) ti_87 rfl rfl rfl rfl) 3 rfl rfl rfl rfl rfl rfl fun a hg => Or.inr (Or.inl (⟨un rfl hw15, un rfl hw16, un rfl hw18, v7015, hg, hsh⟩))
     ·
      exact sq hfr (Fr.cons hfr.fr0 (hfr.at_ 2 2 63 _ rfl hd2)) hsh (r_ldb (i := 3) ti_87 rfl rfl rfl rfl) 3 rfl rfl rfl rfl rfl rfl fun a hg => Or.inr (Or.inr (Or.inl (⟨un rfl hw15, un rfl hw16, un rfl hw18, v7015, v7016, hg, hsh⟩)))
     ·
      exact no_way (cA hcl 18 3 rfl hw18) hSi
    ·
     obtain rfl : _ = o := Option.some.inj ho
     rcases hI with ⟨hw15, hw16, hw18, hfr, hsh⟩ | ⟨hw15, hw16, hw18, v7015, hfr, hsh⟩ | ⟨hw15, hw16, hw18, v7015, v7016, hfr, hsh⟩ | ⟨hw15, hw16, hw18, v7015, v7016, hfr, hsh⟩
     ·
      exact sq hfr hfr.fr0 hsh (r_fieldB (r := 0) fl_36_0 rfl rfl rfl) 4 rfl rfl rfl rfl rfl rfl fun a hg => Or.inl (⟨un rfl hw15, un rfl hw16, un rfl hw18, hg, hsh⟩)
     ·
      exact sq hfr hfr.fr0 hsh (r_fieldB (r := 0) fl_36_0 rfl rfl rfl) 4 rfl rfl rfl rfl rfl rfl fun a hg => Or.inr (Or.inl (⟨un rfl hw15, un rfl hw16, un rfl hw18, v7015, hg, hsh⟩))
     ·
      exact sq hfr hfr.fr0 hsh (r_fieldB (r := 0) fl_36_0 rfl rfl rfl) 4 rfl rfl rfl rfl rfl rfl fun a hg => Or.inr (Or.inr (Or.inl (⟨un rfl hw15, un rfl hw16, un rfl hw18, v7015, v7016, hg, hsh⟩)))
     ·
      exact no_way (cA hcl 18 4 rfl hw18) hSi
    ·
     obtain rfl : _ = o := Option.some.inj ho
     have hd4 : S 4 = true := depAt hdep 0 rfl rfl
     rcases hI with ⟨hw15, hw16, hw18, hfr, hsh⟩ | ⟨hw15, hw16, hw18, v7015, hfr, hsh⟩ | ⟨hw15, hw16, hw18, v7015, v7016, hfr, hsh⟩ | ⟨hw15, hw16, hw18, v7015, v7016, hfr, hsh⟩
     ·
      exact sq hfr (Fr.cons hfr.fr0 (hfr.at_ 4 4 65 _ rfl hd4)) hsh (r_ldb (i := 0) ti_3 rfl rfl rfl rfl) 5 rfl rfl rfl rfl rfl rfl fun a hg => Or.inl (⟨un rfl hw15, un rfl hw16, un rfl hw18, hg, hsh⟩)
     ·
      exact sq hfr (Fr.cons hfr.fr0 (hfr.at_ 4 4 65 _ rfl hd4)) hsh (r_ldb (i := 1) ti_3 rfl rfl rfl rfl) 5 rfl rfl rfl rfl rfl rfl fun a hg => Or.inr (Or.inl (⟨un rfl hw15, un rfl hw16, un rfl hw18, v7015, hg, hsh⟩))
     ·
      exact sq hfr (Fr.cons hfr.fr0 (hfr.at_ 4 4 65 _ rfl hd4)) hsh (r_ldb (i := 2) ti_3 rfl rfl rfl rfl) 5 rfl rfl rfl rfl rfl rfl fun a hg => Or.inr (Or.inr (Or.inl (⟨un rfl hw15, un rfl hw16, un rfl hw18, v7015, v7016, hg, hsh⟩)))
     ·
      exact no_way (cA hcl 18 5 rfl hw18) hSi
    ·
     obtain rfl : _ = o := Option.some.inj ho
     rcases hI with ⟨hw15, hw16, hw18, hfr, hsh⟩ | ⟨hw15, hw16, hw18, v7015, hfr, hsh⟩ | ⟨hw15, hw16, hw18, v7015, v7016, hfr, hsh⟩ | ⟨hw15, hw16, hw18, v7015, v7016, hfr, hsh⟩
     ·
      exact sq hfr hfr.fr0 hsh (r_move rfl rfl) 6 rfl rfl rfl rfl rfl rfl fun a hg => Or.inl (⟨un rfl hw15, un rfl hw16, un rfl hw18, hg, hsh⟩)
     ·
      exact sq hfr hfr.fr0 hsh (r_move rfl rfl) 6 rfl rfl rfl rfl rfl rfl fun a hg => Or.inr (Or.inl (⟨un rfl hw15, un rfl hw16, un rfl hw18, v7015, hg, hsh⟩))
     ·
      exact no_way (cA hcl 16 6 rfl hw16) hSi
     ·
      exact no_way (cA hcl 16 6 rfl hw16) hSi
    ·
     obtain rfl : _ = o := Option.some.inj ho
     have hd6 : S 6 = true := depAt hdep 0 rfl rfl
     rcases hI with ⟨hw15, hw16, hw18, hfr, hsh⟩ | ⟨hw15, hw16, hw18, v7015, hfr, hsh⟩ | ⟨hw15, hw16, hw18, v7015, v7016, hfr, hsh⟩ | ⟨hw15, hw16, hw18, v7015, v7016, hfr, hsh⟩
     ·
      exact sq hfr (Fr.cons hfr.fr0 (hfr.at_ 6 6 67 _ rfl hd6)) hsh (r_nil rfl rfl) 7 rfl rfl rfl rfl rfl rfl fun a hg => Or.inl (⟨un rfl hw15, un rfl hw16, un rfl hw18, hg, hsh⟩)
     ·
      exact sq hfr (Fr.cons hfr.fr0 (hfr.at_ 6 6 67 _ rfl hd6)) hsh (r_nil rfl rfl) 7 rfl rfl rfl rfl rfl rfl fun a hg => Or.inr (Or.inl (⟨un rfl hw15, un rfl hw16, un rfl hw18, v7015, hg, hsh⟩))
     ·
      exact no_way (cA hcl 16 7 rfl hw16) hSi
     ·
      exact no_way (cA hcl 16 7 rfl hw16) hSi
    ·
     obtain rfl : _ = o := Option.some.inj ho
     have hd7 : S 7 = true := depAt hdep 0 rfl rfl
     rcases hI with ⟨hw15, hw16, hw18, hfr, hsh⟩ | ⟨hw15, hw16, hw18, v7015, hfr, hsh⟩ | ⟨hw15, hw16, hw18, v7015, v7016, hfr, hsh⟩ | ⟨hw15, hw16, hw18, v7015, v7016, hfr, hsh⟩
     ·
      exact sq hfr (Fr.cons hfr.fr0 (hfr.at_ 7 7 68 _ rfl hd7)) hsh (r_fieldB (r := 0) fl_90_0 rfl rfl rfl) 8 rfl rfl rfl rfl rfl rfl fun a hg => Or.inl (⟨un rfl hw15, un rfl hw16, un rfl hw18, hg, hsh⟩)
     ·
      exact sq hfr (Fr.cons hfr.fr0 (hfr.at_ 7 7 68 _ rfl hd7)) hsh (r_fieldB (r := 0) fl_90_0 rfl rfl rfl) 8 rfl rfl rfl rfl rfl rfl fun a hg => Or.inr (Or.inl (⟨un rfl hw15, un rfl hw16, un rfl hw18, v7015, hg, hsh⟩))
     ·
      exact no_way (cA hcl 16 8 rfl hw16) hSi
     ·
      exact no_way (cA hcl 16 8 rfl hw16) hSi
    ·
     obtain rfl : _ = o := Option.some.inj ho
     have hd8 : S 8 = true := depAt hdep 0 rfl rfl
     rcases hI with ⟨hw15, hw16, hw18, hfr, hsh⟩ | ⟨hw15, hw16, hw18, v7015, hfr, hsh⟩ | ⟨hw15, hw16, hw18, v7015, v7016, hfr, hsh⟩ | ⟨hw15, hw16, hw18, v7015, v7016, hfr, hsh⟩
     ·
      exact sq hfr (Fr.cons hfr.fr0 (hfr.at_ 8 8 69 _ rfl hd8)) hsh (r_ldb (i := 1) ti_87 rfl rfl rfl rfl) 9 rfl rfl rfl rfl rfl rfl fun a hg => Or.inl (⟨un rfl hw15, un rfl hw16, un rfl hw18, hg, hsh⟩)
     ·
      exact sq hfr (Fr.cons hfr.fr0 (hfr.at_ 8 8 69 _ rfl hd8)) hsh (r_ldb (i := 2) ti_87 rfl rfl rfl rfl) 9 rfl rfl rfl rfl rfl rfl fun a hg => Or.inr (Or.inl (⟨un rfl hw15, un rfl hw16, un rfl hw18, v7015, hg, hsh⟩))
     ·
      exact no_way (cA hcl 16 9 rfl hw16) hSi
     ·
      exact no_way (cA hcl 16 9 rfl hw16) hSi
    ·
     obtain rfl : _ = o := Option.some.inj ho
     rcases hI with ⟨hw15, hw16, hw18, hfr, hsh⟩ | ⟨hw15, hw16, hw18, v7015, hfr, hsh⟩ | ⟨hw15, hw16, hw18, v7015, v7016, hfr, hsh⟩ | ⟨hw15, hw16, hw18, v7015, v7016, hfr, hsh⟩
     ·
      exact sq hfr hfr.fr0 hsh (r_fieldB (r := 0) fl_36_0 rfl rfl rfl) 10 rfl rfl rfl rfl rfl rfl fun a hg => Or.inl (⟨un rfl hw15, un rfl hw16, un rfl hw18, hg, hsh⟩)
     ·
      exact sq hfr hfr.fr0 hsh (r_fieldB (r := 0) fl_36_0 rfl rfl rfl) 10 rfl rfl rfl rfl rfl rfl fun a hg => Or.inr (Or.inl (⟨un rfl hw15, un rfl hw16, un rfl hw18, v7015, hg, hsh⟩))
     ·
      exact no_way (cA hcl 16 10 rfl hw16) hSi
     ·
      exact no_way (cA hcl 16 10 rfl hw16) hSi
    ·
     obtain rfl : _ = o := Option.some.inj ho
     have hd10 : S 10 = true := depAt hdep 0 rfl rfl
     rcases hI with ⟨hw15, hw16, hw18, hfr, hsh⟩ | ⟨hw15, hw16, hw18, v7015, hfr, hsh⟩ | ⟨hw15, hw16, hw18, v7015, v7016, hfr, hsh⟩ | ⟨hw15, hw16, hw18, v7015, v7016, hfr, hsh⟩
     ·
      exact sq hfr (Fr.cons hfr.fr0 (hfr.at_ 10 10 71 _ rfl hd10)) hsh (r_ldb (i := 0) ti_3 rfl rfl rfl rfl) 11 rfl rfl rfl rfl rfl rfl fun a hg => Or.inl (⟨un rfl hw15, un rfl hw16, un rfl hw18, hg, hsh⟩)
     ·
      exact sq hfr (Fr.cons hfr.fr0 (hfr.at_ 10 10 71 _ rfl hd10)) hsh (r_ldb (i := 1) ti_3 rfl rfl rfl rfl) 11 rfl rfl rfl rfl rfl rfl fun a hg => Or.inr (Or.inl (⟨un rfl hw15, un rfl hw16, un rfl hw18, v7015, hg, hsh⟩))
     ·
      exact no_way (cA hcl 16 11 rfl hw16) hSi
     ·
      exact no_way (cA hcl 16 11 rfl hw16) hSi
    ·
     obtain rfl : _ = o := Option.some.inj ho
     have hd9 : S 9 = true := depAt hdep 0 rfl rfl
     have hd11 : S 11 = true := depAt hdep 1 rfl rfl
     rcases hI with ⟨hw15, hw16, hw18, hfr, hsh⟩ | ⟨hw15, hw16, hw18, v7015, hfr, hsh⟩ | ⟨hw15, hw16, hw18, v7015, v7016, hfr, hsh⟩ | ⟨hw15, hw16, hw18, v7015, v7016, hfr, hsh⟩
     ·
      exact sq hfr (Fr.cons (Fr.cons hfr.fr0 (hfr.at_ 9 9 70 _ rfl hd9)) (hfr.at_ 11 11 72 _ rfl hd11)) hsh (r_ixI (s := (⟨v32, rvs M⟩ : Ls RV)) (q := (nth es.l i).op) sl_87 ti_37 rfl rfl rfl (fun w h => (h.matAt 3 rfl)) (by rw [rvs_len]; exact (show 0 ≤ (nth es.l i).op ∧ (nth es.l i).op < M.length from (by omega)))) 12 rfl rfl rfl rfl rfl rfl fun a hg => Or.inl (⟨un rfl hw15, un rfl hw16, un rfl hw18, hg, hsh⟩)
     ·
      exact sq hfr (Fr.cons (Fr.cons hfr.fr0 (hfr.at_ 9 9 70 _ rfl hd9)) (hfr.at_ 11 11 72 _ rfl hd11)) hsh (r_ixI (s := (⟨v32, rvs M⟩ : Ls RV)) (q := (nth es.l i).op) sl_87 ti_37 rfl rfl rfl (fun w h => (h.matAt 4 rfl)) (by rw [rvs_len]; exact (show 0 ≤ (nth es.l i).op ∧ (nth es.l i).op < M.length from (by omega)))) 12 rfl rfl rfl rfl rfl rfl fun a hg => Or.inr (Or.inl (⟨un rfl hw15, un rfl hw16, un rfl hw18, v7015, hg, hsh⟩))
     ·
      exact no_way (cA hcl 16 12 rfl hw16) hSi
     ·
      exact no_way (cA hcl 16 12 rfl hw16) hSi
    ·
     obtain rfl : _ = o := Option.some.inj ho
     have hd12 : S 12 = true := depAt hdep 0 rfl rfl
     rcases hI with ⟨hw15, hw16, hw18, hfr, hsh⟩ | ⟨hw15, hw16, hw18, v7015, hfr, hsh⟩ | ⟨hw15, hw16, hw18, v7015, v7016, hfr, hsh⟩ | ⟨hw15, hw16, hw18, v7015, v7016, hfr, hsh⟩
     ·
      exact sq hfr (Fr.cons hfr.fr0 (hfr.at_ 12 12 73 _ rfl hd12)) hsh (Rn.same (r_lde (s := (⟨v32, rvs M⟩ : Ls RV)) (i := ((nth es.l i).op).toNat) (v := (nth (rvs M) (((nth es.l i).op).toNat)).v) ti_37 rfl rfl rfl (fun w h => h.matAt 3 rfl) (by rw [rvs_len]; exact (show ((nth es.l i).op).toNat < M.length from (by omega))) (Nat.le_of_ble_eq_true rfl) rfl) (nth_rvs M (((nth es.l i).op).toNat))) 13 rfl rfl rfl rfl rfl rfl fun a hg => Or.inl (⟨un rfl hw15, un rfl hw16, un rfl hw18, hg, hsh⟩)
     ·
      exact sq hfr (Fr.cons hfr.fr0 (hfr.at_ 12 12 73 _ rfl hd12)) hsh (Rn.same (r_lde (s := (⟨v32, rvs M⟩ : Ls RV)) (i := ((nth es.l i).op).toNat) (v := (nth (rvs M) (((nth es.l i).op).toNat)).v) ti_37 rfl rfl rfl (fun w h => h.matAt 4 rfl) (by rw [rvs_len]; exact (show ((nth es.l i).op).toNat < M.length from (by omega))) (Nat.le_of_ble_eq_true rfl) rfl) (nth_rvs M (((nth es.l i).op).toNat))) 13 rfl rfl rfl rfl rfl rfl fun a hg => Or.inr (Or.inl (⟨un rfl hw15, un rfl hw16, un rfl hw18, v7015, hg, hsh⟩))
     ·
      exact no_way (cA hcl 16 13 rfl hw16) hSi
     ·
      exact no_way (cA hcl 16 13 rfl hw16) hSi
    ·
     obtain rfl : _ = o := Option.some.inj ho
     rcases hI with ⟨hw15, hw16, hw18, hfr, hsh⟩ | ⟨hw15, hw16, hw18, v7015, hfr, hsh⟩ | ⟨hw15, hw16, hw18, v7015, v7016, hfr, hsh⟩ | ⟨hw15, hw16, hw18, v7015, v7016, hfr, hsh⟩
     ·
      exact sq hfr hfr.fr0 hsh (r_ldbw (i := 0) (vs := [.int .i64 ((nth es.l i).op), .int .i64 ((nth es.l i).a), .int .i64 ((nth es.l i).b), .int .i64 ((nth es.l i).c)]) ti_36 rfl rfl rfl rfl rfl) 14 rfl rfl rfl rfl rfl rfl fun a hg => Or.inl (⟨un rfl hw15, un rfl hw16, un rfl hw18, hg, hsh⟩)
     ·
      exact no_way (cA hcl 15 14 rfl hw15) hSi
     ·
      exact no_way (cA hcl 15 14 rfl hw15) hSi
     ·
      exact no_way (cA hcl 15 14 rfl hw15) hSi
    ·
     obtain rfl : _ = o := Option.some.inj ho
     have hd14 : S 14 = true := depAt hdep 0 rfl rfl
     rcases hI with ⟨hw15, hw16, hw18, hfr, hsh⟩ | ⟨hw15, hw16, hw18, v7015, hfr, hsh⟩ | ⟨hw15, hw16, hw18, v7015, v7016, hfr, hsh⟩ | ⟨hw15, hw16, hw18, v7015, v7016, hfr, hsh⟩
     ·
      have hs := St.mk (Fr.cons hfr.fr0 (hfr.at_ 14 14 75 _ rfl hd14)) hsh
      refine step_ex (x_lit (n := 1) (cs := [.int .i64 ((nth es.l i).op), .int .i64 ((nth es.l i).a), .int .i64 ((nth es.l i).b), .int .i64 ((nth es.l i).c)]) ([(nth es.l i)] : List Ins) hs sl_37 ti_36 rfl rfl rfl (by decide) rfl (by kernel_rfl) rfl (fun q hq w h => Flat.inner _ _) (fun q hq b hb => (Flat.on _ _ hb).elim) rfl rfl) (wanted_none rfl _) ?_
      rintro a233 w233 ⟨v233, h233⟩ ⟨v0, ht233⟩
      have hm233 : FrI 86 S [(0, ws.v), (5, .pointer (some ⟨b4, 0, none⟩)), (6, .pointer (some ⟨b36, 0, none⟩)), (7, .int .i64 ((i : Nat) : Int)), (8, .pointer (some ⟨b53, 0, none⟩)), (22, es.v), (23, .int .i64 ((es.l.length : Nat) : Int)), (24, .int .i64 ((i : Nat) : Int)), (58, .bool (decide ((nth es.l i).b ≠ 2)))] [(0, 61, .pointer (some ⟨b36, 0, none⟩)), (1, 62, .pointer (some ⟨b36, 0, none⟩)), (2, 63, .pointer (some ⟨b36, 0, none⟩)), (3, 64, v32), (4, 65, .pointer (some ⟨b53, 0, none⟩)), (5, 66, .int .i64 ((nth es.l i).op)), (6, 67, .pointer (some ⟨b36, 0, none⟩)), (7, 68, .pointer (some ⟨b36, 0, none⟩)), (8, 69, .pointer (some ⟨b36, 0, none⟩)), (9, 70, v32), (10, 71, .pointer (some ⟨b53, 0, none⟩)), (11, 72, .int .i64 ((nth es.l i).op)), (12, 73, .pointer (some (padr v32 1 (((nth es.l i).op).toNat) 0))), (13, 74, (nth M (((nth es.l i).op).toNat)).v), (14, 75, .agg #[.int .i64 ((nth es.l i).op), .int .i64 ((nth es.l i).a), .int .i64 ((nth es.l i).b), .int .i64 ((nth es.l i).c)]), (15, 76, v233)] a := hfr.more (by
       intro k j d v hk hS
       rcases k with _ | _ | _ | _ | _ | _ | _ | _ | _ | _ | _ | _ | _ | _ | _ | _ | k
       ·obtain ⟨rfl, rfl, rfl⟩ : _ = j ∧ _ = d ∧ _ = v := by simpa using hk
        exact hfr.at_ 0 _ _ _ rfl hS
       ·obtain ⟨rfl, rfl, rfl⟩ : _ = j ∧ _ = d ∧ _ = v := by simpa using hk
        exact hfr.at_ 1 _ _ _ rfl hS
       ·obtain ⟨rfl, rfl, rfl⟩ : _ = j ∧ _ = d ∧ _ = v := by simpa using hk
        exact hfr.at_ 2 _ _ _ rfl hS
       ·obtain ⟨rfl, rfl, rfl⟩ : _ = j ∧ _ = d ∧ _ = v := by simpa using hk
        exact hfr.at_ 3 _ _ _ rfl hS
       ·obtain ⟨rfl, rfl, rfl⟩ : _ = j ∧ _ = d ∧ _ = v := by simpa using hk
        exact hfr.at_ 4 _ _ _ rfl hS
       ·obtain ⟨rfl, rfl, rfl⟩ : _ = j ∧ _ = d ∧ _ = v := by simpa using hk
        exact hfr.at_ 5 _ _ _ rfl hS
       ·obtain ⟨rfl, rfl, rfl⟩ : _ = j ∧ _ = d ∧ _ = v := by simpa using hk
        exact hfr.at_ 6 _ _ _ rfl hS
       ·obtain ⟨rfl, rfl, rfl⟩ : _ = j ∧ _ = d ∧ _ = v := by simpa using hk
        exact hfr.at_ 7 _ _ _ rfl hS
       ·obtain ⟨rfl, rfl, rfl⟩ : _ = j ∧ _ = d ∧ _ = v := by simpa using hk
        exact hfr.at_ 8 _ _ _ rfl hS
       ·obtain ⟨rfl, rfl, rfl⟩ : _ = j ∧ _ = d ∧ _ = v := by simpa using hk
        exact hfr.at_ 9 _ _ _ rfl hS
       ·obtain ⟨rfl, rfl, rfl⟩ : _ = j ∧ _ = d ∧ _ = v := by simpa using hk
        exact hfr.at_ 10 _ _ _ rfl hS
       ·obtain ⟨rfl, rfl, rfl⟩ : _ = j ∧ _ = d ∧ _ = v := by simpa using hk
        exact hfr.at_ 11 _ _ _ rfl hS
       ·obtain ⟨rfl, rfl, rfl⟩ : _ = j ∧ _ = d ∧ _ = v := by simpa using hk
        exact hfr.at_ 12 _ _ _ rfl hS
       ·obtain ⟨rfl, rfl, rfl⟩ : _ = j ∧ _ = d ∧ _ = v := by simpa using hk
        exact hfr.at_ 13 _ _ _ rfl hS
       ·obtain ⟨rfl, rfl, rfl⟩ : _ = j ∧ _ = d ∧ _ = v := by simpa using hk
        exact hfr.at_ 14 _ _ _ rfl hS
       ·obtain ⟨rfl, rfl, rfl⟩ : _ = j ∧ _ = d ∧ _ = v := by simpa using hk
        exact no_way hS hSi
       · simp at hk)
      exact Or.inr (Or.inl (⟨upd_self _ _, un rfl hw16, un rfl hw18, v233, hm233.step ht233 h233.fr.defers (h233.fr.at_ 76 _ rfl) 15 rfl rfl rfl rfl, (h233.sh.sel (L' := [.own 36 (⟨v233, [(nth es.l i)]⟩ : Ls Ins), .blk b53 36 [.int .i64 ((nth es.l i).op), .int .i64 ((nth es.l i).a), .int .i64 ((nth es.l i).b), .int .i64 ((nth es.l i).c)], .blk b36 90 [v32, .map (some g33)], .big (seenX 24 g33 ([] : List (List Nat × Ls (Ls Int)))), .big (matX (.own 36) 37 v32 M), .blk b4 31 [.int .i64 0, .int .i64 0, .int .i64 0], .at_ ws, .at_ es]) [0, 1, 2, 3, 4, 5, 6, 7] (by decide) ⟨rfl, rfl, rfl, rfl, rfl, rfl, rfl, rfl, trivial⟩)⟩))
     ·
      exact no_way hw15 hSi
     ·
      exact no_way hw15 hSi
     ·
      exact no_way hw15 hSi
    ·
     obtain rfl : _ = o := Option.some.inj ho
     have hd13 : S 13 = true := depAt hdep 0 rfl rfl
     have hd15 : S 15 = true := depAt hdep 1 rfl rfl
     rcases hI with ⟨hw15, hw16, hw18, hfr, hsh⟩ | ⟨hw15, hw16, hw18, v7015, hfr, hsh⟩ | ⟨hw15, hw16, hw18, v7015, v7016, hfr, hsh⟩ | ⟨hw15, hw16, hw18, v7015, v7016, hfr, hsh⟩
     ·
      exact no_way hd15 hw15
     ·
      have hs := St.mk (Fr.cons (Fr.cons hfr.fr0 (hfr.at_ 13 13 74 _ rfl hd13)) (hfr.at_ 15 15 76 _ rfl hd15)) hsh
      refine step_ex (x_appMat (i := (((nth es.l i).op).toNat)) (r := 4) (rm := 0) (m := (⟨v7015, [(nth es.l i)]⟩ : Ls Ins)) hs sl_37 ti_36 rfl rfl rfl rfl (show ((nth es.l i).op).toNat < M.length from (by omega)) rfl rfl rfl (fun w h => (h.own 0 rfl)) (fun b hb => own_on (hs.sh.ok _ (List.mem_of_getElem? (i := 0) rfl)) hb) rfl rfl rfl inferInstance (show (((nth M (((nth es.l i).op).toNat)).l).length + ([(nth es.l i)]).length) * 32 ≤ 140737488355328 ∧ ((nth M (((nth es.l i).op).toNat)).l).length + ([(nth es.l i)]).length ≤ 140737488355328 from (by first | omega | (simp only [lens9]; omega))) rfl rfl) (wanted_none rfl _) ?_
      rintro a234 w234 ⟨v234, h234⟩ ⟨v0, ht234⟩
      have hm234 : FrI 86 S [(0, ws.v), (5, .pointer (some ⟨b4, 0, none⟩)), (6, .pointer (some ⟨b36, 0, none⟩)), (7, .int .i64 ((i : Nat) : Int)), (8, .pointer (some ⟨b53, 0, none⟩)), (22, es.v), (23, .int .i64 ((es.l.length : Nat) : Int)), (24, .int .i64 ((i : Nat) : Int)), (58, .bool (decide ((nth es.l i).b ≠ 2)))] [(0, 61, .pointer (some ⟨b36, 0, none⟩)), (1, 62, .pointer (some ⟨b36, 0, none⟩)), (2, 63, .pointer (some ⟨b36, 0, none⟩)), (3, 64, v32), (4, 65, .pointer (some ⟨b53, 0, none⟩)), (5, 66, .int .i64 ((nth es.l i).op)), (6, 67, .pointer (some ⟨b36, 0, none⟩)), (7, 68, .pointer (some ⟨b36, 0, none⟩)), (8, 69, .pointer (some ⟨b36, 0, none⟩)), (9, 70, v32), (10, 71, .pointer (some ⟨b53, 0, none⟩)), (11, 72, .int .i64 ((nth es.l i).op)), (12, 73, .pointer (some (padr v32 1 (((nth es.l i).op).toNat) 0))), (13, 74, (nth M (((nth es.l i).op).toNat)).v), (14, 75, .agg #[.int .i64 ((nth es.l i).op), .int .i64 ((nth es.l i).a), .int .i64 ((nth es.l i).b), .int .i64 ((nth es.l i).c)]), (15, 76, v7015), (16, 77, v234), (17, 78, .pointer (some (padr v32 1 (((nth es.l i).op).toNat) 0)))] a := hfr.more (by
       intro k j d v hk hS
       rcases k with _ | _ | _ | _ | _ | _ | _ | _ | _ | _ | _ | _ | _ | _ | _ | _ | _ | _ | k
       ·obtain ⟨rfl, rfl, rfl⟩ : _ = j ∧ _ = d ∧ _ = v := by simpa using hk
        exact hfr.at_ 0 _ _ _ rfl hS
       ·obtain ⟨rfl, rfl, rfl⟩ : _ = j ∧ _ = d ∧ _ = v := by simpa using hk
        exact hfr.at_ 1 _ _ _ rfl hS
       ·obtain ⟨rfl, rfl, rfl⟩ : _ = j ∧ _ = d ∧ _ = v := by simpa using hk
        exact hfr.at_ 2 _ _ _ rfl hS
       ·obtain ⟨rfl, rfl, rfl⟩ : _ = j ∧ _ = d ∧ _ = v := by simpa using hk
        exact hfr.at_ 3 _ _ _ rfl hS
       ·obtain ⟨rfl, rfl, rfl⟩ : _ = j ∧ _ = d ∧ _ = v := by simpa using hk
        exact hfr.at_ 4 _ _ _ rfl hS
       ·obtain ⟨rfl, rfl, rfl⟩ : _ = j ∧ _ = d ∧ _ = v := by simpa using hk
        exact hfr.at_ 5 _ _ _ rfl hS
       ·obtain ⟨rfl, rfl, rfl⟩ : _ = j ∧ _ = d ∧ _ = v := by simpa using hk
        exact hfr.at_ 6 _ _ _ rfl hS
       ·obtain ⟨rfl, rfl, rfl⟩ : _ = j ∧ _ = d ∧ _ = v := by simpa using hk
        exact hfr.at_ 7 _ _ _ rfl hS
       ·obtain ⟨rfl, rfl, rfl⟩ : _ = j ∧ _ = d ∧ _ = v := by simpa using hk
        exact hfr.at_ 8 _ _ _ rfl hS
       ·obtain ⟨rfl, rfl, rfl⟩ : _ = j ∧ _ = d ∧ _ = v := by simpa using hk
        exact hfr.at_ 9 _ _ _ rfl hS
       ·obtain ⟨rfl, rfl, rfl⟩ : _ = j ∧ _ = d ∧ _ = v := by simpa using hk
        exact hfr.at_ 10 _ _ _ rfl hS
       ·obtain ⟨rfl, rfl, rfl⟩ : _ = j ∧ _ = d ∧ _ = v := by simpa using hk
        exact hfr.at_ 11 _ _ _ rfl hS
       ·obtain ⟨rfl, rfl, rfl⟩ : _ = j ∧ _ = d ∧ _ = v := by simpa using hk
        exact hfr.at_ 12 _ _ _ rfl hS
       ·obtain ⟨rfl, rfl, rfl⟩ : _ = j ∧ _ = d ∧ _ = v := by simpa using hk
        exact hfr.at_ 13 _ _ _ rfl hS
       ·obtain ⟨rfl, rfl, rfl⟩ : _ = j ∧ _ = d ∧ _ = v := by simpa using hk
        exact hfr.at_ 14 _ _ _ rfl hS
       ·obtain ⟨rfl, rfl, rfl⟩ : _ = j ∧ _ = d ∧ _ = v := by simpa using hk
        exact hfr.at_ 15 _ _ _ rfl hS
       ·obtain ⟨rfl, rfl, rfl⟩ : _ = j ∧ _ = d ∧ _ = v := by simpa using hk
        exact no_way hS hSi
       ·obtain ⟨rfl, rfl, rfl⟩ : _ = j ∧ _ = d ∧ _ = v := by simpa using hk
        exact no_way (cA hcl 17 16 rfl hS) hSi
       · simp at hk)
      exact Or.inr (Or.inr (Or.inl (⟨un rfl hw15, upd_self _ _, un rfl hw18, v7015, v234, hm234.step ht234 h234.fr.defers (h234.fr.at_ 77 _ rfl) 16 rfl rfl rfl rfl, (h234.sh.sel (L' := [.own 36 (⟨v234, (nth M (((nth es.l i).op).toNat)).l ++ ([(nth es.l i)])⟩ : Ls Ins), .own 36 (⟨v7015, [(nth es.l i)]⟩ : Ls Ins), .blk b53 36 [.int .i64 ((nth es.l i).op), .int .i64 ((nth es.l i).a), .int .i64 ((nth es.l i).b), .int .i64 ((nth es.l i).c)], .blk b36 90 [v32, .map (some g33)], .big (seenX 24 g33 ([] : List (List Nat × Ls (Ls Int)))), .big (holeX (.own 36) 37 v32 M (((nth es.l i).op).toNat)), .blk b4 31 [.int .i64 0, .int .i64 0, .int .i64 0], .at_ ws, .at_ es]) [0, 1, 2, 3, 4, 5, 6, 7, 8] (by decide) ⟨rfl, rfl, rfl, rfl, rfl, rfl, rfl, rfl, rfl, trivial⟩)⟩)))
     ·
      exact no_way hw16 hSi
     ·
      exact no_way hw16 hSi
    ·
     obtain rfl : _ = o := Option.some.inj ho
     have hd3 : S 3 = true := depAt hdep 0 rfl rfl
     have hd5 : S 5 = true := depAt hdep 1 rfl rfl
     have hd15 : S 15 = true := depAt hdep 17 rfl rfl
     have hd16 : S 16 = true := depAt hdep 18 rfl rfl
     rcases hI with ⟨hw15, hw16, hw18, hfr, hsh⟩ | ⟨hw15, hw16, hw18, v7015, hfr, hsh⟩ | ⟨hw15, hw16, hw18, v7015, v7016, hfr, hsh⟩ | ⟨hw15, hw16, hw18, v7015, v7016, hfr, hsh⟩
     ·
      exact no_way hd15 hw15
     ·
      exact no_way hd16 hw16
     ·
      exact sq hfr (Fr.cons (Fr.cons hfr.fr0 (hfr.at_ 3 3 64 _ rfl hd3)) (hfr.at_ 5 5 66 _ rfl hd5)) hsh (r_ixI (s := (⟨v32, rvs M⟩ : Ls RV)) (q := (nth es.l i).op) sl_87 ti_37 rfl rfl rfl (fun w h => (h.holeAt 5 rfl)) (by rw [rvs_len]; exact (show 0 ≤ (nth es.l i).op ∧ (nth es.l i).op < M.length from (by omega)))) 17 rfl rfl rfl rfl rfl rfl fun a hg => Or.inr (Or.inr (Or.inl (⟨un rfl hw15, un rfl hw16, un rfl hw18, v7015, v7016, hg, hsh⟩)))
     ·
      exact no_way (cA hcl 18 17 rfl hw18) hSi
    ·
     obtain rfl : _ = o := Option.some.inj ho
     have hd17 : S 17 = true := depAt hdep 0 rfl rfl
     have hd16 : S 16 = true := depAt hdep 1 rfl rfl
     have hd15 : S 15 = true := depAt hdep 18 rfl rfl
     rcases hI with ⟨hw15, hw16, hw18, hfr, hsh⟩ | ⟨hw15, hw16, hw18, v7015, hfr, hsh⟩ | ⟨hw15, hw16, hw18, v7015, v7016, hfr, hsh⟩ | ⟨hw15, hw16, hw18, v7015, v7016, hfr, hsh⟩
     ·
      exact no_way hd15 hw15
     ·
      exact no_way hd16 hw16
     ·
      have hs := St.mk (Fr.cons (Fr.cons hfr.fr0 (hfr.at_ 16 16 77 _ rfl hd16)) (hfr.at_ 17 17 78 _ rfl hd17)) hsh
      refine step_ex (x_stHole (i := ((nth es.l i).op).toNat) (r := 4) (s := (⟨v7016, (nth M (((nth es.l i).op).toNat)).l ++ ([(nth es.l i)])⟩ : Ls Ins)) hs ti_37 rfl rfl rfl rfl rfl (show ((nth es.l i).op).toNat < M.length from (by omega)) (hs.sh.own 0 rfl)) (wanted_none rfl _) ?_
      rintro a236 w236 h236 ⟨v0, ht236⟩
      have hm236 : FrI 86 S [(0, ws.v), (5, .pointer (some ⟨b4, 0, none⟩)), (6, .pointer (some ⟨b36, 0, none⟩)), (7, .int .i64 ((i : Nat) : Int)), (8, .pointer (some ⟨b53, 0, none⟩)), (22, es.v), (23, .int .i64 ((es.l.length : Nat) : Int)), (24, .int .i64 ((i : Nat) : Int)), (58, .bool (decide ((nth es.l i).b ≠ 2)))] [(0, 61, .pointer (some ⟨b36, 0, none⟩)), (1, 62, .pointer (some ⟨b36, 0, none⟩)), (2, 63, .pointer (some ⟨b36, 0, none⟩)), (3, 64, v32), (4, 65, .pointer (some ⟨b53, 0, none⟩)), (5, 66, .int .i64 ((nth es.l i).op)), (6, 67, .pointer (some ⟨b36, 0, none⟩)), (7, 68, .pointer (some ⟨b36, 0, none⟩)), (8, 69, .pointer (some ⟨b36, 0, none⟩)), (9, 70, v32), (10, 71, .pointer (some ⟨b53, 0, none⟩)), (11, 72, .int .i64 ((nth es.l i).op)), (12, 73, .pointer (some (padr v32 1 (((nth es.l i).op).toNat) 0))), (13, 74, (nth M (((nth es.l i).op).toNat)).v), (14, 75, .agg #[.int .i64 ((nth es.l i).op), .int .i64 ((nth es.l i).a), .int .i64 ((nth es.l i).b), .int .i64 ((nth es.l i).c)]), (15, 76, v7015), (16, 77, v7016), (17, 78, .pointer (some (padr v32 1 (((nth es.l i).op).toNat) 0)))] a := hfr.more (by
       intro k j d v hk hS
       rcases k with _ | _ | _ | _ | _ | _ | _ | _ | _ | _ | _ | _ | _ | _ | _ | _ | _ | _ | k
       ·obtain ⟨rfl, rfl, rfl⟩ : _ = j ∧ _ = d ∧ _ = v := by simpa using hk
        exact hfr.at_ 0 _ _ _ rfl hS
       ·obtain ⟨rfl, rfl, rfl⟩ : _ = j ∧ _ = d ∧ _ = v := by simpa using hk
        exact hfr.at_ 1 _ _ _ rfl hS
       ·obtain ⟨rfl, rfl, rfl⟩ : _ = j ∧ _ = d ∧ _ = v := by simpa using hk
        exact hfr.at_ 2 _ _ _ rfl hS
       ·obtain ⟨rfl, rfl, rfl⟩ : _ = j ∧ _ = d ∧ _ = v := by simpa using hk
        exact hfr.at_ 3 _ _ _ rfl hS
       ·obtain ⟨rfl, rfl, rfl⟩ : _ = j ∧ _ = d ∧ _ = v := by simpa using hk
        exact hfr.at_ 4 _ _ _ rfl hS
       ·obtain ⟨rfl, rfl, rfl⟩ : _ = j ∧ _ = d ∧ _ = v := by simpa using hk
        exact hfr.at_ 5 _ _ _ rfl hS
       ·obtain ⟨rfl, rfl, rfl⟩ : _ = j ∧ _ = d ∧ _ = v := by simpa using hk
        exact hfr.at_ 6 _ _ _ rfl hS
       ·obtain ⟨rfl, rfl, rfl⟩ : _ = j ∧ _ = d ∧ _ = v := by simpa using hk
        exact hfr.at_ 7 _ _ _ rfl hS
       ·obtain ⟨rfl, rfl, rfl⟩ : _ = j ∧ _ = d ∧ _ = v := by simpa using hk
        exact hfr.at_ 8 _ _ _ rfl hS
       ·obtain ⟨rfl, rfl, rfl⟩ : _ = j ∧ _ = d ∧ _ = v := by simpa using hk
        exact hfr.at_ 9 _ _ _ rfl hS
       ·obtain ⟨rfl, rfl, rfl⟩ : _ = j ∧ _ = d ∧ _ = v := by simpa using hk
        exact hfr.at_ 10 _ _ _ rfl hS
       ·obtain ⟨rfl, rfl, rfl⟩ : _ = j ∧ _ = d ∧ _ = v := by simpa using hk
        exact hfr.at_ 11 _ _ _ rfl hS
       ·obtain ⟨rfl, rfl, rfl⟩ : _ = j ∧ _ = d ∧ _ = v := by simpa using hk
        exact hfr.at_ 12 _ _ _ rfl hS
       ·obtain ⟨rfl, rfl, rfl⟩ : _ = j ∧ _ = d ∧ _ = v := by simpa using hk
        exact hfr.at_ 13 _ _ _ rfl hS
       ·obtain ⟨rfl, rfl, rfl⟩ : _ = j ∧ _ = d ∧ _ = v := by simpa using hk
        exact hfr.at_ 14 _ _ _ rfl hS
       ·obtain ⟨rfl, rfl, rfl⟩ : _ = j ∧ _ = d ∧ _ = v := by simpa using hk
        exact hfr.at_ 15 _ _ _ rfl hS
       ·obtain ⟨rfl, rfl, rfl⟩ : _ = j ∧ _ = d ∧ _ = v := by simpa using hk
        exact hfr.at_ 16 _ _ _ rfl hS
       ·obtain ⟨rfl, rfl, rfl⟩ : _ = j ∧ _ = d ∧ _ = v := by simpa using hk
        exact hfr.at_ 17 _ _ _ rfl hS
       · simp at hk)
      exact Or.inr (Or.inr (Or.inr (⟨un rfl hw15, un rfl hw16, upd_self _ _, v7015, v7016, hm236.none ht236 h236.fr.defers rfl, (h236.sh.sel (L' := [.own 36 (⟨v7015, [(nth es.l i)]⟩ : Ls Ins), .blk b53 36 [.int .i64 ((nth es.l i).op), .int .i64 ((nth es.l i).a), .int .i64 ((nth es.l i).b), .int .i64 ((nth es.l i).c)], .blk b36 90 [v32, .map (some g33)], .big (seenX 24 g33 ([] : List (List Nat × Ls (Ls Int)))), .big (matX (.own 36) 37 v32 (M.set (((nth es.l i).op).toNat) (⟨v7016, (nth M (((nth es.l i).op).toNat)).l ++ ([(nth es.l i)])⟩ : Ls Ins))), .blk b4 31 [.int .i64 0, .int .i64 0, .int .i64 0], .at_ ws, .at_ es]) [0, 1, 2, 3, 4, 5, 6, 7] (by decide) ⟨rfl, rfl, rfl, rfl, rfl, rfl, rfl, rfl, trivial⟩)⟩)))
     ·
      exact no_way hw18 hSi
    · simp at ho
   intro S hall a w hI
   clear h196
   rcases hI with ⟨hw15, hw16, hw18, hfr, hsh⟩ | ⟨hw15, hw16, hw18, v7015, hfr, hsh⟩ | ⟨hw15, hw16, hw18, v7015, v7016, hfr, hsh⟩ | ⟨hw15, hw16, hw18, v7015, v7016, hfr, hsh⟩
   · exact no_way (hall 15 (by decide)) hw15
   · exact no_way (hall 16 (by decide)) hw16
   · exact no_way (hall 18 (by decide)) hw18
   have h237 : St 86 (fun _ => False) W a w _ [.own 36 (⟨v7015, [(nth es.l i)]⟩ : Ls Ins), .blk b53 36 [.int .i64 ((nth es.l i).op), .int .i64 ((nth es.l i).a), .int .i64 ((nth es.l i).b), .int .i64 ((nth es.l i).c)], .blk b36 90 [v32, .map (some g33)], .big (seenX 24 g33 ([] : List (List Nat × Ls (Ls Int)))), .big (matX (.own 36) 37 v32 (M.set (((nth es.l i).op).toNat) (⟨v7016, (nth M (((nth es.l i).op).toNat)).l ++ ([(nth es.l i)])⟩ : Ls Ins))), .blk b4 31 [.int .i64 0, .int .i64 0, .int .i64 0], .at_ ws, .at_ es] := ⟨hfr.fr0, hsh⟩
   clear hall hfr hsh hw15 hw16 hw18
   refine hK48 _ _ ?_
   refine wp_region_lit ?_
   refine wv h237 (r_addN (p := i) (q := 1) rfl rfl rfl (show i + 1 < 9223372036854775808 from (by omega))) rfl rfl fun a238 h238 => ?_; clear h237
   refine wms 1 h238 rfl fun a239 h239 => ?_; clear h238
   refine wpList_nil ?_
   refine x_again ⟨_, ?_, i + 1, M.set (((nth es.l i).op).toNat) (⟨v7016, (nth M (((nth es.l i).op).toNat)).l ++ ([(nth es.l i)])⟩ : Ls Ins), ?_, ?_, ?_, ?_, h239.nrm ⟨rfl, rfl, rfl, rfl, rfl, rfl, trivial⟩ [2, 3, 4, 5, 6, 7] (by decide) ⟨rfl, rfl, rfl, rfl, rfl, rfl, trivial⟩, rfl⟩
   · rw [hm43]; first | omega | (simp only [lens9]; omega)
   · omega
   · rw [List.length_set]; exact hM
   · exact lens_next (by omega) hlen0
   · intro j hj; rcases Nat.lt_or_ge j i with h9 | h9; exact hgood j h9; obtain rfl : j = i := (by omega); exact ⟨by omega, by omega, by omega, by omega, by omega⟩
  have hp183 : ¬ ((nth es.l i).b ≠ 1) := of_decide_eq_false hb183
  refine wl_skip h182 (wanted_no h182.fr rfl rfl rfl rfl hb183) rfl rfl fun a240 h240 => ?_; clear h182
  refine wl_skip h240 (wanted_no h240.fr rfl rfl rfl rfl hb183) rfl rfl fun a241 h241 => ?_; clear h240
  refine wl_skip h241 (wanted_no h241.fr rfl rfl rfl rfl hb183) rfl rfl fun a242 h242 => ?_; clear h241
  refine wl_val h242 (r_pickF rfl rfl hb183 rfl) (wanted_yes h242.fr rfl rfl rfl rfl hb163) rfl rfl fun a243 h243 => ?_; clear h242
  refine wv h243 (r_pickF rfl rfl hb163 rfl) rfl rfl fun a244 h244 => ?_; clear h243
  refine wpList_nil (hK57 _ _ ?_)
  have h245 : St 86 (fun _ => False) W a244 w55 [(0, ws.v), (5, .pointer (some ⟨b4, 0, none⟩)), (6, .pointer (some ⟨b36, 0, none⟩)), (7, .int .i64 ((i : Nat) : Int)), (8, .pointer (some ⟨b53, 0, none⟩)), (22, es.v), (23, .int .i64 ((es.l.length : Nat) : Int)), (24, .int .i64 ((i : Nat) : Int)), (58, .bool false)] [.blk b53 36 [.int .i64 ((nth es.l i).op), .int .i64 ((nth es.l i).a), .int .i64 ((nth es.l i).b), .int .i64 ((nth es.l i).c)], .blk b36 90 [v32, .map (some g33)], .big (seenX 24 g33 ([] : List (List Nat × Ls (Ls Int)))), .big (matX (.own 36) 37 v32 M), .blk b4 31 [.int .i64 0, .int .i64 0, .int .i64 0], .at_ ws, .at_ es] := h244.nrm ⟨rfl, rfl, rfl, rfl, rfl, rfl, rfl, rfl, rfl, trivial⟩ [0, 1, 2, 3, 4, 5, 6] (by decide) ⟨rfl, rfl, rfl, rfl, rfl, rfl, rfl, trivial⟩
  clear h244
  refine x_condF h245 rfl rfl ?_
  refine wp_skip ?_
  refine hK56 _ _ ?_
  have hlq := hlen0 (nth es.l i).op.toNat (by omega)
  have h246 : St 86 (fun _ => False) W a244 w55 [(0, ws.v), (5, .pointer (some ⟨b4, 0, none⟩)), (6, .pointer (some ⟨b36, 0, none⟩)), (7, .int .i64 ((i : Nat) : Int)), (8, .pointer (some ⟨b53, 0, none⟩)), (22, es.v), (23, .int .i64 ((es.l.length : Nat) : Int)), (24, .int .i64 ((i : Nat) : Int)), (58, .bool false)] [.blk b53 36 [.int .i64 ((nth es.l i).op), .int .i64 ((nth es.l i).a), .int .i64 ((nth es.l i).b), .int .i64 ((nth es.l i).c)], .blk b36 90 [v32, .map (some g33)], .big (seenX 24 g33 ([] : List (List Nat × Ls (Ls Int)))), .big (matX (.own 36) 37 v32 M), .blk b4 31 [.int .i64 0, .int .i64 0, .int .i64 0], .at_ ws, .at_ es] := h245.nrm ⟨rfl, rfl, rfl, rfl, rfl, rfl, rfl, rfl, rfl, trivial⟩ [0, 1, 2, 3, 4, 5, 6] (by decide) ⟨rfl, rfl, rfl, rfl, rfl, rfl, rfl, trivial⟩
  clear h245
  refine x_any (fun S a w => (S 15 = false ∧ S 16 = false ∧ S 18 = false ∧ FrI 86 S [(0, ws.v), (5, .pointer (some ⟨b4, 0, none⟩)), (6, .pointer (some ⟨b36, 0, none⟩)), (7, .int .i64 ((i : Nat) : Int)), (8, .pointer (some ⟨b53, 0, none⟩)), (22, es.v), (23, .int .i64 ((es.l.length : Nat) : Int)), (24, .int .i64 ((i : Nat) : Int)), (58, .bool false)] [(0, 61, .pointer (some ⟨b36, 0, none⟩)), (1, 62, .pointer (some ⟨b36, 0, none⟩)), (2, 63, .pointer (some ⟨b36, 0, none⟩)), (3, 64, v32), (4, 65, .pointer (some ⟨b53, 0, none⟩)), (5, 66, .int .i64 ((nth es.l i).op)), (6, 67, .pointer (some ⟨b36, 0, none⟩)), (7, 68, .pointer (some ⟨b36, 0, none⟩)), (8, 69, .pointer (some ⟨b36, 0, none⟩)), (9, 70, v32), (10, 71, .pointer (some ⟨b53, 0, none⟩)), (11, 72, .int .i64 ((nth es.l i).op)), (12, 73, .pointer (some (padr v32 1 (((nth es.l i).op).toNat) 0))), (13, 74, (nth M (((nth es.l i).op).toNat)).v), (14, 75, .agg #[.int .i64 ((nth es.l i).op), .int .i64 ((nth es.l i).a), .int .i64 ((nth es.l i).b), .int .i64 ((nth es.l i).c)])] a ∧ Sh (fun _ => False) W w [.blk b53 36 [.int .i64 ((nth es.l i).op), .int .i64 ((nth es.l i).a), .int .i64 ((nth es.l i).b), .int .i64 ((nth es.l i).c)], .blk b36 90 [v32, .map (some g33)], .big (seenX 24 g33 ([] : List (List Nat × Ls (Ls Int)))), .big (matX (.own 36) 37 v32 M), .blk b4 31 [.int .i64 0, .int .i64 0, .int .i64 0], .at_ ws, .at_ es]) ∨ (S 15 = true ∧ S 16 = false ∧ S 18 = false ∧ ∃ (v7015 : Value), FrI 86 S [(0, ws.v), (5, .pointer (some ⟨b4, 0, none⟩)), (6, .pointer (some ⟨b36, 0, none⟩)), (7, .int .i64 ((i : Nat) : Int)), (8, .pointer (some ⟨b53, 0, none⟩)), (22, es.v), (23, .int .i64 ((es.l.length : Nat) : Int)), (24, .int .i64 ((i : Nat) : Int)), (58, .bool false)] [(0, 61, .pointer (some ⟨b36, 0, none⟩)), (1, 62, .pointer (some ⟨b36, 0, none⟩)), (2, 63, .pointer (some ⟨b36, 0, none⟩)), (3, 64, v32), (4, 65, .pointer (some ⟨b53, 0, none⟩)), (5, 66, .int .i64 ((nth es.l i).op)), (6, 67, .pointer (some ⟨b36, 0, none⟩)), (7, 68, .pointer (some ⟨b36, 0, none⟩)), (8, 69, .pointer (some ⟨b36, 0, none⟩)), (9, 70, v32), (10, 71, .pointer (some ⟨b53, 0, none⟩)), (11, 72, .int .i64 ((nth es.l i).op)), (12, 73, .pointer (some (padr v32 1 (((nth es.l i).op).toNat) 0))), (13, 74, (nth M (((nth es.l i).op).toNat)).v), (14, 75, .agg #[.int .i64 ((nth es.l i).op), .int .i64 ((nth es.l i).a), .int .i64 ((nth es.l i).b), .int .i64 ((nth es.l i).c)]), (15, 76, v7015)] a ∧ Sh (fun _ => False) W w [.own 36 (⟨v7015, [(nth es.l i)]⟩ : Ls Ins), .blk b53 36 [.int .i64 ((nth es.l i).op), .int .i64 ((nth es.l i).a), .int .i64 ((nth es.l i).b), .int .i64 ((nth es.l i).c)], .blk b36 90 [v32, .map (some g33)], .big (seenX 24 g33 ([] : List (List Nat × Ls (Ls Int)))), .big (matX (.own 36) 37 v32 M), .blk b4 31 [.int .i64 0, .int .i64 0, .int .i64 0], .at_ ws, .at_ es]) ∨ (S 15 = true ∧ S 16 = true ∧ S 18 = false ∧ ∃ (v7015 : Value) (v7016 : Value), FrI 86 S [(0, ws.v), (5, .pointer (some ⟨b4, 0, none⟩)), (6, .pointer (some ⟨b36, 0, none⟩)), (7, .int .i64 ((i : Nat) : Int)), (8, .pointer (some ⟨b53, 0, none⟩)), (22, es.v), (23, .int .i64 ((es.l.length : Nat) : Int)), (24, .int .i64 ((i : Nat) : Int)), (58, .bool false)] [(0, 61, .pointer (some ⟨b36, 0, none⟩)), (1, 62, .pointer (some ⟨b36, 0, none⟩)), (2, 63, .pointer (some ⟨b36, 0, none⟩)), (3, 64, v32), (4, 65, .pointer (some ⟨b53, 0, none⟩)), (5, 66, .int .i64 ((nth es.l i).op)), (6, 67, .pointer (some ⟨b36, 0, none⟩)), (7, 68, .pointer (some ⟨b36, 0, none⟩)), (8, 69, .pointer (some ⟨b36, 0, none⟩)), (9, 70, v32), (10, 71, .pointer (some ⟨b53, 0, none⟩)), (11, 72, .int .i64 ((nth es.l i).op)), (12, 73, .pointer (some (padr v32 1 (((nth es.l i).op).toNat) 0))), (13, 74, (nth M (((nth es.l i).op).toNat)).v), (14, 75, .agg #[.int .i64 ((nth es.l i).op), .int .i64 ((nth es.l i).a), .int .i64 ((nth es.l i).b), .int .i64 ((nth es.l i).c)]), (15, 76, v7015), (16, 77, v7016), (17, 78, .pointer (some (padr v32 1 (((nth es.l i).op).toNat) 0)))] a ∧ Sh (fun _ => False) W w [.own 36 (⟨v7016, (nth M (((nth es.l i).op).toNat)).l ++ ([(nth es.l i)])⟩ : Ls Ins), .own 36 (⟨v7015, [(nth es.l i)]⟩ : Ls Ins), .blk b53 36 [.int .i64 ((nth es.l i).op), .int .i64 ((nth es.l i).a), .int .i64 ((nth es.l i).b), .int .i64 ((nth es.l i).c)], .blk b36 90 [v32, .map (some g33)], .big (seenX 24 g33 ([] : List (List Nat × Ls (Ls Int)))), .big (holeX (.own 36) 37 v32 M (((nth es.l i).op).toNat)), .blk b4 31 [.int .i64 0, .int .i64 0, .int .i64 0], .at_ ws, .at_ es]) ∨ (S 15 = true ∧ S 16 = true ∧ S 18 = true ∧ ∃ (v7015 : Value) (v7016 : Value), FrI 86 S [(0, ws.v), (5, .pointer (some ⟨b4, 0, none⟩)), (6, .pointer (some ⟨b36, 0, none⟩)), (7, .int .i64 ((i : Nat) : Int)), (8, .pointer (some ⟨b53, 0, none⟩)), (22, es.v), (23, .int .i64 ((es.l.length : Nat) : Int)), (24, .int .i64 ((i : Nat) : Int)), (58, .bool false)] [(0, 61, .pointer (some ⟨b36, 0, none⟩)), (1, 62, .pointer (some ⟨b36, 0, none⟩)), (2, 63, .pointer (some ⟨b36, 0, none⟩)), (3, 64, v32), (4, 65, .pointer (some ⟨b53, 0, none⟩)), (5, 66, .int .i64 ((nth es.l i).op)), (6, 67, .pointer (some ⟨b36, 0, none⟩)), (7, 68, .pointer (some ⟨b36, 0, none⟩)), (8, 69, .pointer (some ⟨b36, 0, none⟩)), (9, 70, v32), (10, 71, .pointer (some ⟨b53, 0, none⟩)), (11, 72, .int .i64 ((nth es.l i).op)), (12, 73, .pointer (some (padr v32 1 (((nth es.l i).op).toNat) 0))), (13, 74, (nth M (((nth es.l i).op).toNat)).v), (14, 75, .agg #[.int .i64 ((nth es.l i).op), .int .i64 ((nth es.l i).a), .int .i64 ((nth es.l i).b), .int .i64 ((nth es.l i).c)]), (15, 76, v7015), (16, 77, v7016), (17, 78, .pointer (some (padr v32 1 (((nth es.l i).op).toNat) 0)))] a ∧ Sh (fun _ => False) W w [.own 36 (⟨v7015, [(nth es.l i)]⟩ : Ls Ins), .blk b53 36 [.int .i64 ((nth es.l i).op), .int .i64 ((nth es.l i).a), .int .i64 ((nth es.l i).b), .int .i64 ((nth es.l i).c)], .blk b36 90 [v32, .map (some g33)], .big (seenX 24 g33 ([] : List (List Nat × Ls (Ls Int)))), .big (matX (.own 36) 37 v32 (M.set (((nth es.l i).op).toNat) (⟨v7016, (nth M (((nth es.l i).op).toNat)).l ++ ([(nth es.l i)])⟩ : Ls Ins))), .blk b4 31 [.int .i64 0, .int .i64 0, .int .i64 0], .at_ ws, .at_ es])) (by kernel_rfl) (by kernel_rfl) (Or.inl (⟨rfl, rfl, rfl, FrI.start h246.fr, h246.sh.drew⟩)) ?_ ?_
  ·intro S i o ho hSi hcl hdep a w hI
   clear h246
   rcases i with _ | _ | _ | _ | _ | _ | _ | _ | _ | _ | _ | _ | _ | _ | _ | _ | _ | _ | _ | i
   ·
    obtain rfl : _ = o := Option.some.inj ho
    rcases hI with ⟨hw15, hw16, hw18, hfr, hsh⟩ | ⟨hw15, hw16, hw18, v7015, hfr, hsh⟩ | ⟨hw15, hw16, hw18, v7015, v7016, hfr, hsh⟩ | ⟨hw15, hw16, hw18, v7015, v7016, hfr, hsh⟩
    ·
     exact sq hfr hfr.fr0 hsh (r_move rfl rfl) 0 rfl rfl rfl rfl rfl rfl fun a hg => Or.inl (⟨un rfl hw15, un rfl hw16, un rfl hw18, hg, hsh⟩)
    ·
     exact sq hfr hfr.fr0 hsh (r_move rfl rfl) 0 rfl rfl rfl rfl rfl rfl fun a hg => Or.inr (Or.inl (⟨un rfl hw15, un rfl hw16, un rfl hw18, v7015, hg, hsh⟩))
    ·
     exact sq hfr hfr.fr0 hsh (r_move rfl rfl) 0 rfl rfl rfl rfl rfl rfl fun a hg => Or.inr (Or.inr (Or.inl (⟨un rfl hw15, un rfl hw16, un rfl hw18, v7015, v7016, hg, hsh⟩)))
    ·
     exact no_way (cA hcl 18 0 rfl hw18) hSi
   ·
    obtain rfl : _ = o := Option.some.inj ho
    have hd0 : S 0 = true := depAt hdep 0 rfl rfl
    rcases hI with ⟨hw15, hw16, hw18, hfr, hsh⟩ | ⟨hw15, hw16, hw18, v7015, hfr, hsh⟩ | ⟨hw15, hw16, hw18, v7015, v7016, hfr, hsh⟩ | ⟨hw15, hw16, hw18, v7015, v7016, hfr, hsh⟩
    ·
     exact sq hfr (Fr.cons hfr.fr0 (hfr.at_ 0 0 61 _ rfl hd0)) hsh (r_nil rfl rfl) 1 rfl rfl rfl rfl rfl rfl fun a hg => Or.inl (⟨un rfl hw15, un rfl hw16, un rfl hw18, hg, hsh⟩)
    ·
     exact sq hfr (Fr.cons hfr.fr0 (hfr.at_ 0 0 61 _ rfl hd0)) hsh (r_nil rfl rfl) 1 rfl rfl rfl rfl rfl rfl fun a hg => Or.inr (Or.inl (⟨un rfl hw15, un rfl hw16, un rfl hw18, v7015, hg, hsh⟩))
    ·
     exact sq hfr (Fr.cons hfr.fr0 (hfr.at_ 0 0 61 _ rfl hd0)) hsh (r_nil rfl rfl) 1 rfl rfl rfl rfl rfl rfl fun a hg => Or.inr (Or.inr (Or.inl (⟨un rfl hw15, un rfl hw16, un rfl hw18, v7015, v7016, hg, hsh⟩)))
    ·
     exact no_way (cA hcl 18 1 rfl hw18) hSi
   ·
    obtain rfl : _ = o := Option.some.inj ho
    have hd1 : S 1 = true := depAt hdep 0 rfl rfl
    rcases hI with ⟨hw15, hw16, hw18, hfr, hsh⟩ | ⟨hw15, hw16, hw18, v7015, hfr, hsh⟩ | ⟨hw15, hw16, hw18, v7015, v7016, hfr, hsh⟩ | ⟨hw15, hw16, hw18, v7015, v7016, hfr, hsh⟩
    ·
     exact sq hfr (Fr.cons hfr.fr0 (hfr.at_ 1 1 62 _ rfl hd1)) hsh (r_fieldB (r := 0) fl_90_0 rfl rfl rfl) 2 rfl rfl rfl rfl rfl rfl fun a hg => Or.inl (⟨un rfl hw15, un rfl hw16, un rfl hw18, hg, hsh⟩)
    ·
     exact sq hfr (Fr.cons hfr.fr0 (hfr.at_ 1 1 62 _ rfl hd1)) hsh (r_fieldB (r := 0) fl_90_0 rfl rfl rfl) 2 rfl rfl rfl rfl rfl rfl fun a hg => Or.inr (Or.inl (⟨un rfl hw15, un rfl hw16, un rfl hw18, v7015, hg, hsh⟩))
    ·
     exact sq hfr (Fr.cons hfr.fr0 (hfr.at_ 1 1 62 _ rfl hd1)) hsh (r_fieldB (r := 0) fl_90_0 rfl rfl rfl) 2 rfl rfl rfl rfl rfl rfl fun a hg => Or.inr (Or.inr (Or.inl (⟨un rfl hw15, un rfl hw16, un rfl hw18, v7015, v7016, hg, hsh⟩)))
    ·
     exact no_way (cA hcl 18 2 rfl hw18) hSi
   ·
    obtain rfl : _ = o := Option.some.inj ho
    have hd2 : S 2 = true := depAt hdep 0 rfl rfl
    rcases hI with ⟨hw15, hw16, hw18, hfr, hsh⟩ | ⟨hw15, hw16, hw18, v7015, hfr, hsh⟩ | ⟨hw15, hw16, hw18, v7015, v7016, hfr, hsh⟩ | ⟨hw15, hw16, hw18, v7015, v7016, hfr, hsh⟩
    ·
     exact sq hfr (Fr.cons hfr.fr0 (hfr.at_ 2 2 63 _ rfl hd2)) hsh (r_ldb (i := 1) ti_87 rfl rfl rfl rfl) 3 rfl rfl rfl rfl rfl rfl fun a hg => Or.inl (⟨un rfl hw15, un rfl hw16, un rfl hw18, hg, hsh⟩)
    ·
     exact sq hfr (Fr.cons hfr.fr0 (hfr.at_ 2 2 63 _ rfl hd2)) hsh (r_ldb (i := 2) ti_87 rfl rfl rfl rfl) 3 rfl rfl rfl rfl rfl rfl fun a hg => Or.inr (Or.inl (⟨un rfl hw15, un rfl hw16, un rfl hw18, v7015, hg, hsh⟩))
    ·
     exact sq hfr (Fr.cons hfr.fr0 (hfr.at_ 2 2 63 _ rfl hd2)) hsh (r_ldb (i := 3) ti_87 rfl rfl rfl rfl) 3 rfl rfl rfl rfl rfl rfl fun a hg => Or.inr (Or.inr (Or.inl (⟨un rfl hw15, un rfl hw16, un rfl hw18, v7015, v7016, hg, hsh⟩)))
    ·
     exact no_way (cA hcl 18 3 rfl hw18) hSi
   ·
    obtain rfl : _ = o := Option.some.inj ho
    rcases hI with ⟨hw15, hw16, hw18, hfr, hsh⟩ | ⟨hw15, hw16, hw18, v7015, hfr, hsh⟩ | ⟨hw15, hw16, hw18, v7015, v7016, hfr, hsh⟩ | ⟨hw15, hw16, hw18, v7015, v7016, hfr, hsh⟩
    ·
     exact sq hfr hfr.fr0 hsh (r_fieldB (r := 0) fl_36_0 rfl rfl rfl) 4 rfl rfl rfl rfl rfl rfl fun a hg => Or.inl (⟨un rfl hw15, un rfl hw16, un rfl hw18, hg, hsh⟩)
    ·
     exact sq hfr hfr.fr0 hsh (r_fieldB (r := 0) fl_36_0 rfl rfl rfl) 4 rfl rfl rfl rfl rfl rfl fun a hg => Or.inr (Or.inl (⟨un rfl hw15, un rfl hw16, un rfl hw18, v7015, hg, hsh⟩))
    ·
     exact sq hfr hfr.fr0 hsh (r_fieldB (r := 0) fl_36_0 rfl rfl rfl) 4 rfl rfl rfl rfl rfl rfl fun a hg => Or.inr (Or.inr (Or.inl (⟨un rfl hw15, un rfl hw16, un rfl hw18, v7015, v7016, hg, hsh⟩)))
    ·
     exact no_way (cA hcl 18 4 rfl hw18) hSi
   ·
    obtain rfl : _ = o := Option.some.inj ho
    have hd4 : S 4 = true := depAt hdep 0 rfl rfl
    rcases hI with ⟨hw15, hw16, hw18, hfr, hsh⟩ | ⟨hw15, hw16, hw18, v7015, hfr, hsh⟩ | ⟨hw15, hw16, hw18, v7015, v7016, hfr, hsh⟩ | ⟨hw15, hw16, hw18, v7015, v7016, hfr, hsh⟩
    ·
     exact sq hfr (Fr.cons hfr.fr0 (hfr.at_ 4 4 65 _ rfl hd4)) hsh (r_ldb (i := 0) ti_3 rfl rfl rfl rfl) 5 rfl rfl rfl rfl rfl rfl fun a hg => Or.inl (⟨un rfl hw15, un rfl hw16, un rfl hw18, hg, hsh⟩)
    ·
     exact sq hfr (Fr.cons hfr.fr0 (hfr.at_ 4 4 65 _ rfl hd4)) hsh (r_ldb (i := 1) ti_3 rfl rfl rfl rfl) 5 rfl rfl rfl rfl rfl rfl fun a hg => Or.inr (Or.inl (⟨un rfl hw15, un rfl hw16, un rfl hw18, v7015, hg, hsh⟩))
    ·
     exact sq hfr (Fr.cons hfr.fr0 (hfr.at_ 4 4 65 _ rfl hd4)) hsh (r_ldb (i := 2) ti_3 rfl rfl rfl rfl) 5 rfl rfl rfl rfl rfl rfl fun a hg => Or.inr (Or.inr (Or.inl (⟨un rfl hw15, un rfl hw16, un rfl hw18, v7015, v7016, hg, hsh⟩)))
    ·
     exact no_way (cA hcl 18 5 rfl hw18) hSi
   ·
    obtain rfl : _ = o := Option.some.inj ho
    rcases hI with ⟨hw15, hw16, hw18, hfr, hsh⟩ | ⟨hw15, hw16, hw18, v7015, hfr, hsh⟩ | ⟨hw15, hw16, hw18, v7015, v7016, hfr, hsh⟩ | ⟨hw15, hw16, hw18, v7015, v7016, hfr, hsh⟩
    ·
     exact sq hfr hfr.fr0 hsh (r_move rfl rfl) 6 rfl rfl rfl rfl rfl rfl fun a hg => Or.inl (⟨un rfl hw15, un rfl hw16, un rfl hw18, hg, hsh⟩)
    ·
     exact sq hfr hfr.fr0 hsh (r_move rfl rfl) 6 rfl rfl rfl rfl rfl rfl fun a hg => Or.inr (Or.inl (⟨un rfl hw15, un rfl hw16, un rfl hw18, v7015, hg, hsh⟩))
    ·
     exact no_way (cA hcl 16 6 rfl hw16) hSi
    ·
     exact no_way (cA hcl 16 6 rfl hw16) hSi
   ·
    obtain rfl : _ = o := Option.some.inj ho
    have hd6 : S 6 = true := depAt hdep 0 rfl rfl
    rcases hI with ⟨hw15, hw16, hw18, hfr, hsh⟩ | ⟨hw15, hw16, hw18, v7015, hfr, hsh⟩ | ⟨hw15, hw16, hw18, v7015, v7016, hfr, hsh⟩ | ⟨hw15, hw16, hw18, v7015, v7016, hfr, hsh⟩
    ·
     exact sq hfr (Fr.cons hfr.fr0 (hfr.at_ 6 6 67 _ rfl hd6)) hsh (r_nil rfl rfl) 7 rfl rfl rfl rfl rfl rfl fun a hg => Or.inl (⟨un rfl hw15, un rfl hw16, un rfl hw18, hg, hsh⟩)
    ·
     exact sq hfr (Fr.cons hfr.fr0 (hfr.at_ 6 6 67 _ rfl hd6)) hsh (r_nil rfl rfl) 7 rfl rfl rfl rfl rfl rfl fun a hg => Or.inr (Or.inl (⟨un rfl hw15, un rfl hw16, un rfl hw18, v7015, hg, hsh⟩))
    ·
     exact no_way (cA hcl 16 7 rfl hw16) hSi
    ·
     exact no_way (cA hcl 16 7 rfl hw16) hSi
   ·
    obtain rfl : _ = o := Option.some.inj ho
    have hd7 : S 7 = true := depAt hdep 0 rfl rfl
    rcases hI with ⟨hw15, hw16, hw18, hfr, hsh⟩ | ⟨hw15, hw16, hw18, v7015, hfr, hsh⟩ | ⟨hw15, hw16, hw18, v7015, v7016, hfr, hsh⟩ | ⟨hw15, hw16, hw18, v7015, v7016, hfr, hsh⟩
    ·
     exact sq hfr (Fr.cons hfr.fr0 (hfr.at_ 7 7 68 _ rfl hd7)) hsh (r_fieldB (r := 0) fl_90_0 rfl rfl rfl) 8 rfl rfl rfl rfl rfl rfl fun a hg => Or.inl (⟨un rfl hw15, un rfl hw16, un rfl hw18, hg, hsh⟩)
    ·
     exact sq hfr (Fr.cons hfr.fr0 (hfr.at_ 7 7 68 _ rfl hd7)) hsh (r_fieldB (r := 0) fl_90_0 rfl rfl rfl) 8 rfl rfl rfl rfl rfl rfl fun a hg => Or.inr (Or.inl (⟨un rfl hw15, un rfl hw16, un rfl hw18, v7015, hg, hsh⟩))
    ·
     exact no_way (cA hcl 16 8 rfl hw16) hSi
    ·
     exact no_way (cA hcl 16 8 rfl hw16) hSi
   ·
    obtain rfl : _ = o := Option.some.inj ho
    have hd8 : S 8 = true := depAt hdep 0 rfl rfl
    rcases hI with ⟨hw15, hw16, hw18, hfr, hsh⟩ | ⟨hw15, hw16, hw18, v7015, hfr, hsh⟩ | ⟨hw15, hw16, hw18, v7015, v7016, hfr, hsh⟩ | ⟨hw15, hw16, hw18, v7015, v7016, hfr, hsh⟩
    ·
     exact sq hfr (Fr.cons hfr.fr0 (hfr.at_ 8 8 69 _ rfl hd8)) hsh (r_ldb (i := 1) ti_87 rfl rfl rfl rfl) 9 rfl rfl rfl rfl rfl rfl fun a hg => Or.inl (⟨un rfl hw15, un rfl hw16, un rfl hw18, hg, hsh⟩)
    ·
     exact sq hfr (Fr.cons hfr.fr0 (hfr.at_ 8 8 69 _ rfl hd8)) hsh (r_ldb (i := 2) ti_87 rfl rfl rfl rfl) 9 rfl rfl rfl rfl rfl rfl fun a hg => Or.inr (Or.inl (⟨un rfl hw15, un rfl hw16, un rfl hw18, v7015, hg, hsh⟩))
    ·
     exact no_way (cA hcl 16 9 rfl hw16) hSi
    ·
     exact no_way (cA hcl 16 9 rfl hw16) hSi
   ·
    obtain rfl : _ = o := Option.some.inj ho
    rcases hI with ⟨hw15, hw16, hw18, hfr, hsh⟩ | ⟨hw15, hw16, hw18, v7015, hfr, hsh⟩ | ⟨hw15, hw16, hw18, v7015, v7016, hfr, hsh⟩ | ⟨hw15, hw16, hw18, v7015, v7016, hfr, hsh⟩
    ·
     exact sq hfr hfr.fr0 hsh (r_fieldB (r := 0) fl_36_0 rfl rfl rfl) 10 rfl rfl rfl rfl rfl rfl fun a hg => Or.inl (⟨un rfl hw15, un rfl hw16, un rfl hw18, hg, hsh⟩)
    ·
     exact sq hfr hfr.fr0 hsh (r_fieldB (r := 0) fl_36_0 rfl rfl rfl) 10 rfl rfl rfl rfl rfl rfl fun a hg => Or.inr (Or.inl (⟨un rfl hw15, un rfl hw16, un rfl hw18, v7015, hg, hsh⟩))
    ·
     exact no_way (cA hcl 16 10 rfl hw16) hSi
    ·
     exact no_way (cA hcl 16 10 rfl hw16) hSi
   ·
    obtain rfl : _ = o := Option.some.inj ho
    have hd10 : S 10 = true := depAt hdep 0 rfl rfl
    rcases hI with ⟨hw15, hw16, hw18, hfr, hsh⟩ | ⟨hw15, hw16, hw18, v7015, hfr, hsh⟩ | ⟨hw15, hw16, hw18, v7015, v7016, hfr, hsh⟩ | ⟨hw15, hw16, hw18, v7015, v7016, hfr, hsh⟩
    ·
     exact sq hfr (Fr.cons hfr.fr0 (hfr.at_ 10 10 71 _ rfl hd10)) hsh (r_ldb (i := 0) ti_3 rfl rfl rfl rfl) 11 rfl rfl rfl rfl rfl rfl fun a hg => Or.inl (⟨un rfl hw15, un rfl hw16, un rfl hw18, hg, hsh⟩)
    ·
     exact sq hfr (Fr.cons hfr.fr0 (hfr.at_ 10 10 71 _ rfl hd10)) hsh (r_ldb (i := 1) ti_3 rfl rfl rfl rfl) 11 rfl rfl rfl rfl rfl rfl fun a hg => Or.inr (Or.inl (⟨un rfl hw15, un rfl hw16, un rfl hw18, v7015, hg, hsh⟩))
    ·
     exact no_way (cA hcl 16 11 rfl hw16) hSi
    ·
     exact no_way (cA hcl 16 11 rfl hw16) hSi
   ·
    obtain rfl : _ = o := Option.some.inj ho
    have hd9 : S 9 = true := depAt hdep 0 rfl rfl
    have hd11 : S 11 = true := depAt hdep 1 rfl rfl
    rcases hI with ⟨hw15, hw16, hw18, hfr, hsh⟩ | ⟨hw15, hw16, hw18, v7015, hfr, hsh⟩ | ⟨hw15, hw16, hw18, v7015, v7016, hfr, hsh⟩ | ⟨hw15, hw16, hw18, v7015, v7016, hfr, hsh⟩
    ·
     exact sq hfr (Fr.cons (Fr.cons hfr.fr0 (hfr.at_ 9 9 70 _ rfl hd9)) (hfr.at_ 11 11 72 _ rfl hd11)) hsh (r_ixI (s := (⟨v32, rvs M⟩ : Ls RV)) (q := (nth es.l i).op) sl_87 ti_37 rfl rfl rfl (fun w h => (h.matAt 3 rfl)) (by rw [rvs_len]; exact (show 0 ≤ (nth es.l i).op ∧ (nth es.l i).op < M.length from (by omega)))) 12 rfl rfl rfl rfl rfl rfl fun a hg => Or.inl (⟨un rfl hw15, un rfl hw16, un rfl hw18, hg, hsh⟩)
    ·
     exact sq hfr (Fr.cons (Fr.cons hfr.fr0 (hfr.at_ 9 9 70 _ rfl hd9)) (hfr.at_ 11 11 72 _ rfl hd11)) hsh (r_ixI (s := (⟨v32, rvs M⟩ : Ls RV)) (q := (nth es.l i).op) sl_87 ti_37 rfl rfl rfl (fun w h => (h.matAt 4 rfl)) (by rw [rvs_len]; exact (show 0 ≤ (nth es.l i).op ∧ (nth es.l i).op < M.length from (by omega)))) 12 rfl rfl rfl rfl rfl rfl fun a hg => Or.inr (Or.inl (⟨un rfl hw15, un rfl hw16, un rfl hw18, v7015, hg, hsh⟩))
    ·
     exact no_way (cA hcl 16 12 rfl hw16) hSi
    ·
     exact no_way (cA hcl 16 12 rfl hw16) hSi
   ·
    obtain rfl : _ = o := Option.some.inj ho
    have hd12 : S 12 = true := depAt hdep 0 rfl rfl
    rcases hI with ⟨hw15, hw16, hw18, hfr, hsh⟩ | ⟨hw15, hw16, hw18, v7015, hfr, hsh⟩ | ⟨hw15, hw16, hw18, v7015, v7016, hfr, hsh⟩ | ⟨hw15, hw16, hw18, v7015, v7016, hfr, hsh⟩
    ·
     exact sq hfr (Fr.cons hfr.fr0 (hfr.at_ 12 12 73 _ rfl hd12)) hsh (Rn.same (r_lde (s := (⟨v32, rvs M⟩ : Ls RV)) (i := ((nth es.l i).op).toNat) (v := (nth (rvs M) (((nth es.l i).op).toNat)).v) ti_37 rfl rfl rfl (fun w h => h.matAt 3 rfl) (by rw [rvs_len]; exact (show ((nth es.l i).op).toNat < M.length from (by omega))) (Nat.le_of_ble_eq_true rfl) rfl) (nth_rvs M (((nth es.l i).op).toNat))) 13 rfl rfl rfl rfl rfl rfl fun a hg => Or.inl (⟨un rfl hw15, un rfl hw16, un rfl hw18, hg, hsh⟩)
    ·
     exact sq hfr (Fr.cons hfr.fr0 (hfr.at_ 12 12 73 _ rfl hd12)) hsh (Rn.same (r_lde (s := (⟨v32, rvs M⟩ : Ls RV)) (i := ((nth es.l i).op).toNat) (v := (nth (rvs M) (((nth es.l i).op).toNat)).v) ti_37 rfl rfl rfl (fun w h => h.matAt 4 rfl) (by rw [rvs_len]; exact (show ((nth es.l i).op).toNat < M.length from (by omega))) (Nat.le_of_ble_eq_true rfl) rfl) (nth_rvs M (((nth es.l i).op).toNat))) 13 rfl rfl rfl rfl rfl rfl fun a hg => Or.inr (Or.inl (⟨un rfl hw15, un rfl hw16, un rfl hw18, v7015, hg, hsh⟩))
    ·
     exact no_way (cA hcl 16 13 rfl hw16) hSi
    ·
     exact no_way (cA hcl 16 13 rfl hw16) hSi
   ·
    obtain rfl : _ = o := Option.some.inj ho
    rcases hI with ⟨hw15, hw16, hw18, hfr, hsh⟩ | ⟨hw15, hw16, hw18, v7015, hfr, hsh⟩ | ⟨hw15, hw16, hw18, v7015, v7016, hfr, hsh⟩ | ⟨hw15, hw16, hw18, v7015, v7016, hfr, hsh⟩
    ·
     exact sq hfr hfr.fr0 hsh (r_ldbw (i := 0) (vs := [.int .i64 ((nth es.l i).op), .int .i64 ((nth es.l i).a), .int .i64 ((nth es.l i).b), .int .i64 ((nth es.l i).c)]) ti_36 rfl rfl rfl rfl rfl) 14 rfl rfl rfl rfl rfl rfl fun a hg => Or.inl (⟨un rfl hw15, un rfl hw16, un rfl hw18, hg, hsh⟩)
    ·
     exact no_way (cA hcl 15 14 rfl hw15) hSi
    ·
     exact no_way (cA hcl 15 14 rfl hw15) hSi
    ·
     exact no_way (cA hcl 15 14 rfl hw15) hSi
   ·
    obtain rfl : _ = o := Option.some.inj ho
    have hd14 : S 14 = true := depAt hdep 0 rfl rfl
    rcases hI with ⟨hw15, hw16, hw18, hfr, hsh⟩ | ⟨hw15, hw16, hw18, v7015, hfr, hsh⟩ | ⟨hw15, hw16, hw18, v7015, v7016, hfr, hsh⟩ | ⟨hw15, hw16, hw18, v7015, v7016, hfr, hsh⟩
    ·
     have hs := St.mk (Fr.cons hfr.fr0 (hfr.at_ 14 14 75 _ rfl hd14)) hsh
     refine step_ex (x_lit (n := 1) (cs := [.int .i64 ((nth es.l i).op), .int .i64 ((nth es.l i).a), .int .i64 ((nth es.l i).b), .int .i64 ((nth es.l i).c)]) ([(nth es.l i)] : List Ins) hs sl_37 ti_36 rfl rfl rfl (by decide) rfl (by kernel_rfl) rfl (fun q hq w h => Flat.inner _ _) (fun q hq b hb => (Flat.on _ _ hb).elim) rfl rfl) (wanted_none rfl _) ?_
     rintro a283 w283 ⟨v283, h283⟩ ⟨v0, ht283⟩
     have hm283 : FrI 86 S [(0, ws.v), (5, .pointer (some ⟨b4, 0, none⟩)), (6, .pointer (some ⟨b36, 0, none⟩)), (7, .int .i64 ((i : Nat) : Int)), (8, .pointer (some ⟨b53, 0, none⟩)), (22, es.v), (23, .int .i64 ((es.l.length : Nat) : Int)), (24, .int .i64 ((i : Nat) : Int)), (58, .bool false)] [(0, 61, .pointer (some ⟨b36, 0, none⟩)), (1, 62, .pointer (some ⟨b36, 0, none⟩)), (2, 63, .pointer (some ⟨b36, 0, none⟩)), (3, 64, v32), (4, 65, .pointer (some ⟨b53, 0, none⟩)), (5, 66, .int .i64 ((nth es.l i).op)), (6, 67, .pointer (some ⟨b36, 0, none⟩)), (7, 68, .pointer (some ⟨b36, 0, none⟩)), (8, 69, .pointer (some ⟨b36, 0, none⟩)), (9, 70, v32), (10, 71, .pointer (some ⟨b53, 0, none⟩)), (11, 72, .int .i64 ((nth es.l i).op)), (12, 73, .pointer (some (padr v32 1 (((nth es.l i).op).toNat) 0))), (13, 74, (nth M (((nth es.l i).op).toNat)).v), (14, 75, .agg #[.int .i64 ((nth es.l i).op), .int .i64 ((nth es.l i).a), .int .i64 ((nth es.l i).b), .int .i64 ((nth es.l i).c)]), (15, 76, v283)] a := hfr.more (by
      intro k j d v hk hS
      rcases k with _ | _ | _ | _ | _ | _ | _ | _ | _ | _ | _ | _ | _ | _ | _ | _ | k
      ·obtain ⟨rfl, rfl, rfl⟩ : _ = j ∧ _ = d ∧ _ = v := by simpa using hk
       exact hfr.at_ 0 _ _ _ rfl hS
      ·obtain ⟨rfl, rfl, rfl⟩ : _ = j ∧ _ = d ∧ _ = v := by simpa using hk
       exact hfr.at_ 1 _ _ _ rfl hS
      ·obtain ⟨rfl, rfl, rfl⟩ : _ = j ∧ _ = d ∧ _ = v := by simpa using hk
       exact hfr.at_ 2 _ _ _ rfl hS
      ·obtain ⟨rfl, rfl, rfl⟩ : _ = j ∧ _ = d ∧ _ = v := by simpa using hk
       exact hfr.at_ 3 _ _ _ rfl hS
      ·obtain ⟨rfl, rfl, rfl⟩ : _ = j ∧ _ = d ∧ _ = v := by simpa using hk
       exact hfr.at_ 4 _ _ _ rfl hS
      ·obtain ⟨rfl, rfl, rfl⟩ : _ = j ∧ _ = d ∧ _ = v := by simpa using hk
       exact hfr.at_ 5 _ _ _ rfl hS
      ·obtain ⟨rfl, rfl, rfl⟩ : _ = j ∧ _ = d ∧ _ = v := by simpa using hk
       exact hfr.at_ 6 _ _ _ rfl hS
      ·obtain ⟨rfl, rfl, rfl⟩ : _ = j ∧ _ = d ∧ _ = v := by simpa using hk
       exact hfr.at_ 7 _ _ _ rfl hS
      ·obtain ⟨rfl, rfl, rfl⟩ : _ = j ∧ _ = d ∧ _ = v := by simpa using hk
       exact hfr.at_ 8 _ _ _ rfl hS
      ·obtain ⟨rfl, rfl, rfl⟩ : _ = j ∧ _ = d ∧ _ = v := by simpa using hk
       exact hfr.at_ 9 _ _ _ rfl hS
      ·obtain ⟨rfl, rfl, rfl⟩ : _ = j ∧ _ = d ∧ _ = v := by simpa using hk
       exact hfr.at_ 10 _ _ _ rfl hS
      ·obtain ⟨rfl, rfl, rfl⟩ : _ = j ∧ _ = d ∧ _ = v := by simpa using hk
       exact hfr.at_ 11 _ _ _ rfl hS
      ·obtain ⟨rfl, rfl, rfl⟩ : _ = j ∧ _ = d ∧ _ = v := by simpa using hk
       exact hfr.at_ 12 _ _ _ rfl hS
      ·obtain ⟨rfl, rfl, rfl⟩ : _ = j ∧ _ = d ∧ _ = v := by simpa using hk
       exact hfr.at_ 13 _ _ _ rfl hS
      ·obtain ⟨rfl, rfl, rfl⟩ : _ = j ∧ _ = d ∧ _ = v := by simpa using hk
       exact hfr.at_ 14 _ _ _ rfl hS
      ·obtain ⟨rfl, rfl, rfl⟩ : _ = j ∧ _ = d ∧ _ = v := by simpa using hk
       exact no_way hS hSi
      · simp at hk)
     exact Or.inr (Or.inl (⟨upd_self _ _, un rfl hw16, un rfl hw18, v283, hm283.step ht283 h283.fr.defers (h283.fr.at_ 76 _ rfl) 15 rfl rfl rfl rfl, (h283.sh.sel (L' := [.own 36 (⟨v283, [(nth es.l i)]⟩ : Ls Ins), .blk b53 36 [.int .i64 ((nth es.l i).op), .int .i64 ((nth es.l i).a), .int .i64 ((nth es.l i).b), .int .i64 ((nth es.l i).c)], .blk b36 90 [v32, .map (some g33)], .big (seenX 24 g33 ([] : List (List Nat × Ls (Ls Int)))), .big (matX (.own 36) 37 v32 M), .blk b4 31 [.int .i64 0, .int .i64 0, .int .i64 0], .at_ ws, .at_ es]) [0, 1, 2, 3, 4, 5, 6, 7] (by decide) ⟨rfl, rfl, rfl, rfl, rfl, rfl, rfl, rfl, trivial⟩)⟩))
    ·
     exact no_way hw15 hSi
    ·
     exact no_way hw15 hSi
    ·
     exact no_way hw15 hSi
   ·
    obtain rfl : _ = o := Option.some.inj ho
    have hd13 : S 13 = true := depAt hdep 0 rfl rfl
    have hd15 : S 15 = true := depAt hdep 1 rfl rfl
    rcases hI with ⟨hw15, hw16, hw18, hfr, hsh⟩ | ⟨hw15, hw16, hw18, v7015, hfr, hsh⟩ | ⟨hw15, hw16, hw18, v7015, v7016, hfr, hsh⟩ | ⟨hw15, hw16, hw18, v7015, v7016, hfr, hsh⟩
    ·
     exact no_way hd15 hw15
    ·
     have hs := St.mk (Fr.cons (Fr.cons hfr.fr0 (hfr.at_ 13 13 74 _ rfl hd13)) (hfr.at_ 15 15 76 _ rfl hd15)) hsh
     refine step_ex (x_appMat (i := (((nth es.l i).op).toNat)) (r := 4) (rm := 0) (m := (⟨v7015, [(nth es.l i)]⟩ : Ls Ins)) hs sl_37 ti_36 rfl rfl rfl rfl (show ((nth es.l i).op).toNat < M.length from (by omega)) rfl rfl rfl (fun w h => (h.own 0 rfl)) (fun b hb => own_on (hs.sh.ok _ (List.mem_of_getElem? (i := 0) rfl)) hb) rfl rfl rfl inferInstance (show (((nth M (((nth es.l i).op).toNat)).l).length + ([(nth es.l i)]).length) * 32 ≤ 140737488355328 ∧ ((nth M (((nth es.l i).op).toNat)).l).length + ([(nth es.l i)]).length ≤ 140737488355328 from (by first | omega | (simp only [lens9]; omega))) rfl rfl) (wanted_none rfl _) ?_
     rintro a284 w284 ⟨v284, h284⟩ ⟨v0, ht284⟩
     have hm284 : FrI 86 S [(0, ws.v), (5, .pointer (some ⟨b4, 0, none⟩)), (6, .pointer (some ⟨b36, 0, none⟩)), (7, .int .i64 ((i : Nat) : Int)), (8, .pointer (some ⟨b53, 0, none⟩)), (22, es.v), (23, .int .i64 ((es.l.length : Nat) : Int)), (24, .int .i64 ((i : Nat) : Int)), (58, .bool false)] [(0, 61, .pointer (some ⟨b36, 0, none⟩)), (1, 62, .pointer (some ⟨b36, 0, none⟩)), (2, 63, .pointer (some ⟨b36, 0, none⟩)), (3, 64, v32), (4, 65, .pointer (some ⟨b53, 0, none⟩)), (5, 66, .int .i64 ((nth es.l i).op)), (6, 67, .pointer (some ⟨b36, 0, none⟩)), (7, 68, .pointer (some ⟨b36, 0, none⟩)), (8, 69, .pointer (some ⟨b36, 0, none⟩)), (9, 70, v32), (10, 71, .pointer (some ⟨b53, 0, none⟩)), (11, 72, .int .i64 ((nth es.l i).op)), (12, 73, .pointer (some (padr v32 1 (((nth es.l i).op).toNat) 0))), (13, 74, (nth M (((nth es.l i).op).toNat)).v), (14, 75, .agg #[.int .i64 ((nth es.l i).op), .int .i64 ((nth es.l i).a), .int .i64 ((nth es.l i).b), .int .i64 ((nth es.l i).c)]), (15, 76, v7015), (16, 77, v284), (17, 78, .pointer (some (padr v32 1 (((nth es.l i).op).toNat) 0)))] a := hfr.more (by
      intro k j d v hk hS
      rcases k with _ | _ | _ | _ | _ | _ | _ | _ | _ | _ | _ | _ | _ | _ | _ | _ | _ | _ | k
      ·obtain ⟨rfl, rfl, rfl⟩ : _ = j ∧ _ = d ∧ _ = v := by simpa using hk
       exact hfr.at_ 0 _ _ _ rfl hS
      ·obtain ⟨rfl, rfl, rfl⟩ : _ = j ∧ _ = d ∧ _ = v := by simpa using hk
       exact hfr.at_ 1 _ _ _ rfl hS
      ·obtain ⟨rfl, rfl, rfl⟩ : _ = j ∧ _ = d ∧ _ = v := by simpa using hk
       exact hfr.at_ 2 _ _ _ rfl hS
      ·obtain ⟨rfl, rfl, rfl⟩ : _ = j ∧ _ = d ∧ _ = v := by simpa using hk
       exact hfr.at_ 3 _ _ _ rfl hS
      ·obtain ⟨rfl, rfl, rfl⟩ : _ = j ∧ _ = d ∧ _ = v := by simpa using hk
       exact hfr.at_ 4 _ _ _ rfl hS
      ·obtain ⟨rfl, rfl, rfl⟩ : _ = j ∧ _ = d ∧ _ = v := by simpa using hk
       exact hfr.at_ 5 _ _ _ rfl hS
      ·obtain ⟨rfl, rfl, rfl⟩ : _ = j ∧ _ = d ∧ _ = v := by simpa using hk
       exact hfr.at_ 6 _ _ _ rfl hS
      ·obtain ⟨rfl, rfl, rfl⟩ : _ = j ∧ _ = d ∧ _ = v := by simpa using hk
       exact hfr.at_ 7 _ _ _ rfl hS
      ·obtain ⟨rfl, rfl, rfl⟩ : _ = j ∧ _ = d ∧ _ = v := by simpa using hk
       exact hfr.at_ 8 _ _ _ rfl hS
      ·obtain ⟨rfl, rfl, rfl⟩ : _ = j ∧ _ = d ∧ _ = v := by simpa using hk
       exact hfr.at_ 9 _ _ _ rfl hS
      ·obtain ⟨rfl, rfl, rfl⟩ : _ = j ∧ _ = d ∧ _ = v := by simpa using hk
       exact hfr.at_ 10 _ _ _ rfl hS
      ·obtain ⟨rfl, rfl, rfl⟩ : _ = j ∧ _ = d ∧ _ = v := by simpa using hk
       exact hfr.at_ 11 _ _ _ rfl hS
      ·obtain ⟨rfl, rfl, rfl⟩ : _ = j ∧ _ = d ∧ _ = v := by simpa using hk
       exact hfr.at_ 12 _ _ _ rfl hS
      ·obtain ⟨rfl, rfl, rfl⟩ : _ = j ∧ _ = d ∧ _ = v := by simpa using hk
       exact hfr.at_ 13 _ _ _ rfl hS
      ·obtain ⟨rfl, rfl, rfl⟩ : _ = j ∧ _ = d ∧ _ = v := by simpa using hk
       exact hfr.at_ 14 _ _ _ rfl hS
      ·obtain ⟨rfl, rfl, rfl⟩ : _ = j ∧ _ = d ∧ _ = v := by simpa using hk
       exact hfr.at_ 15 _ _ _ rfl hS
      ·obtain ⟨rfl, rfl, rfl⟩ : _ = j ∧ _ = d ∧ _ = v := by simpa using hk
       exact no_way hS hSi
      ·obtain ⟨rfl, rfl, rfl⟩ : _ = j ∧ _ = d ∧ _ = v := by simpa using hk
       exact no_way (cA hcl 17 16 rfl hS) hSi
      · simp at hk)
     exact Or.inr (Or.inr (Or.inl (⟨un rfl hw15, upd_self _ _, un rfl hw18, v7015, v284, hm284.step ht284 h284.fr.defers (h284.fr.at_ 77 _ rfl) 16 rfl rfl rfl rfl, (h284.sh.sel (L' := [.own 36 (⟨v284, (nth M (((nth es.l i).op).toNat)).l ++ ([(nth es.l i)])⟩ : Ls Ins), .own 36 (⟨v7015, [(nth es.l i)]⟩ : Ls Ins), .blk b53 36 [.int .i64 ((nth es.l i).op), .int .i64 ((nth es.l i).a), .int .i64 ((nth es.l i).b), .int .i64 ((nth es.l i).c)], .blk b36 90 [v32, .map (some g33)], .big (seenX 24 g33 ([] : List (List Nat × Ls (Ls Int)))), .big (holeX (.own 36) 37 v32 M (((nth es.l i).op).toNat)), .blk b4 31 [.int .i64 0, .int .i64 0, .int .i64 0], .at_ ws, .at_ es]) [0, 1, 2, 3, 4, 5, 6, 7, 8] (by decide) ⟨rfl, rfl, rfl, rfl, rfl, rfl, rfl, rfl, rfl, trivial⟩)⟩)))
    ·
     exact no_way hw16 hSi
    ·
     exact no_way hw16 hSi
   ·
    obtain rfl : _ = o := Option.some.inj ho
    have hd3 : S 3 = true := depAt hdep 0 rfl rfl
    have hd5 : S 5 = true := depAt hdep 1 rfl rfl
    have hd15 : S 15 = true := depAt hdep 17 rfl rfl
    have hd16 : S 16 = true := depAt hdep 18 rfl rfl
    rcases hI with ⟨hw15, hw16, hw18, hfr, hsh⟩ | ⟨hw15, hw16, hw18, v7015, hfr, hsh⟩ | ⟨hw15, hw16, hw18, v7015, v7016, hfr, hsh⟩ | ⟨hw15, hw16, hw18, v7015, v7016, hfr, hsh⟩
    ·
     exact no_way hd15 hw15
    ·
     exact no_way hd16 hw16
    ·
     exact sq hfr (Fr.cons (Fr.cons hfr.fr0 (hfr.at_ 3 3 64 _ rfl hd3)) (hfr.at_ 5 5 66 _ rfl hd5)) hsh (r_ixI (s := (⟨v32, rvs M⟩ : Ls RV)) (q := (nth es.l i).op) sl_87 ti_37 rfl rfl rfl (fun w h => (h.holeAt 5 rfl)) (by rw [rvs_len]; exact (show 0 ≤ (nth es.l i).op ∧ (nth es.l i).op < M.length from (by omega)))) 17 rfl rfl rfl rfl rfl rfl fun a hg => Or.inr (Or.inr (Or.inl (⟨un rfl hw15, un rfl hw16, un rfl hw18, v7015, v7016, hg, hsh⟩)))
    ·
     exact no_way (cA hcl 18 17 rfl hw18) hSi
   ·
    obtain rfl : _ = o := Option.some.inj ho
    have hd17 : S 17 = true := depAt hdep 0 rfl rfl
    have hd16 : S 16 = true := depAt hdep 1 rfl rfl
    have hd15 : S 15 = true := depAt hdep 18 rfl rfl
    rcases hI with ⟨hw15, hw16, hw18, hfr, hsh⟩ | ⟨hw15, hw16, hw18, v7015, hfr, hsh⟩ | ⟨hw15, hw16, hw18, v7015, v7016, hfr, hsh⟩ | ⟨hw15, hw16, hw18, v7015, v7016, hfr, hsh⟩
    ·
     exact no_way hd15 hw15
    ·
     exact no_way hd16 hw16
    ·
     have hs := St.mk (Fr.cons (Fr.cons hfr.fr0 (hfr.at_ 16 16 77 _ rfl hd16)) (hfr.at_ 17 17 78 _ rfl hd17)) hsh
     refine step_ex (x_stHole (i := ((nth es.l i).op).toNat) (r := 4) (s := (⟨v7016, (nth M (((nth es.l i).op).toNat)).l ++ ([(nth es.l i)])⟩ : Ls Ins)) hs ti_37 rfl rfl rfl rfl rfl (show ((nth es.l i).op).toNat < M.length from (by omega)) (hs.sh.own 0 rfl)) (wanted_none rfl _) ?_
     rintro a286 w286 h286 ⟨v0, ht286⟩
     have hm286 : FrI 86 S [(0, ws.v), (5, .pointer (some ⟨b4, 0, none⟩)), (6, .pointer (some ⟨b36, 0, none⟩)), (7, .int .i64 ((i : Nat) : Int)), (8, .pointer (some ⟨b53, 0, none⟩)), (22, es.v), (23, .int .i64 ((es.l.length : Nat) : Int)), (24, .int .i64 ((i : Nat) : Int)), (58, .bool false)] [(0, 61, .pointer (some ⟨b36, 0, none⟩)), (1, 62, .pointer (some ⟨b36, 0, none⟩)), (2, 63, .pointer (some ⟨b36, 0, none⟩)), (3, 64, v32), (4, 65, .pointer (some ⟨b53, 0, none⟩)), (5, 66, .int .i64 ((nth es.l i).op)), (6, 67, .pointer (some ⟨b36, 0, none⟩)), (7, 68, .pointer (some ⟨b36, 0, none⟩)), (8, 69, .pointer (some ⟨b36, 0, none⟩)), (9, 70, v32), (10, 71, .pointer (some ⟨b53, 0, none⟩)), (11, 72, .int .i64 ((nth es.l i).op)), (12, 73, .pointer (some (padr v32 1 (((nth es.l i).op).toNat) 0))), (13, 74, (nth M (((nth es.l i).op).toNat)).v), (14, 75, .agg #[.int .i64 ((nth es.l i).op), .int .i64 ((nth es.l i).a), .int .i64 ((nth es.l i).b), .int .i64 ((nth es.l i).c)]), (15, 76, v7015), (16, 77, v7016), (17, 78, .pointer (some (padr v32 1 (((nth es.l i).op).toNat) 0)))] a := hfr.more (by
      intro k j d v hk hS
      rcases k with _ | _ | _ | _ | _ | _ | _ | _ | _ | _ | _ | _ | _ | _ | _ | _ | _ | _ | k
      ·obtain ⟨rfl, rfl, rfl⟩ : _ = j ∧ _ = d ∧ _ = v := by simpa using hk
       exact hfr.at_ 0 _ _ _ rfl hS
      ·obtain ⟨rfl, rfl, rfl⟩ : _ = j ∧ _ = d ∧ _ = v := by simpa using hk
       exact hfr.at_ 1 _ _ _ rfl hS
      ·obtain ⟨rfl, rfl, rfl⟩ : _ = j ∧ _ = d ∧ _ = v := by simpa using hk
       exact hfr.at_ 2 _ _ _ rfl hS
      ·obtain ⟨rfl, rfl, rfl⟩ : _ = j ∧ _ = d ∧ _ = v := by simpa using hk
       exact hfr.at_ 3 _ _ _ rfl hS
      ·obtain ⟨rfl, rfl, rfl⟩ : _ = j ∧ _ = d ∧ _ = v := by simpa using hk
       exact hfr.at_ 4 _ _ _ rfl hS
      ·obtain ⟨rfl, rfl, rfl⟩ : _ = j ∧ _ = d ∧ _ = v := by simpa using hk
       exact hfr.at_ 5 _ _ _ rfl hS
      ·obtain ⟨rfl, rfl, rfl⟩ : _ = j ∧ _ = d ∧ _ = v := by simpa using hk
       exact hfr.at_ 6 _ _ _ rfl hS
      ·obtain ⟨rfl, rfl, rfl⟩ : _ = j ∧ _ = d ∧ _ = v := by simpa using hk
       exact hfr.at_ 7 _ _ _ rfl hS
      ·obtain ⟨rfl, rfl, rfl⟩ : _ = j ∧ _ = d ∧ _ = v := by simpa using hk
       exact hfr.at_ 8 _ _ _ rfl hS
      ·obtain ⟨rfl, rfl, rfl⟩ : _ = j ∧ _ = d ∧ _ = v := by simpa using hk
       exact hfr.at_ 9 _ _ _ rfl hS
      ·obtain ⟨rfl, rfl, rfl⟩ : _ = j ∧ _ = d ∧ _ = v := by simpa using hk
       exact hfr.at_ 10 _ _ _ rfl hS
      ·obtain ⟨rfl, rfl, rfl⟩ : _ = j ∧ _ = d ∧ _ = v := by simpa using hk
       exact hfr.at_ 11 _ _ _ rfl hS
      ·obtain ⟨rfl, rfl, rfl⟩ : _ = j ∧ _ = d ∧ _ = v := by simpa using hk
       exact hfr.at_ 12 _ _ _ rfl hS
      ·obtain ⟨rfl, rfl, rfl⟩ : _ = j ∧ _ = d ∧ _ = v := by simpa using hk
       exact hfr.at_ 13 _ _ _ rfl hS
      ·obtain ⟨rfl, rfl, rfl⟩ : _ = j ∧ _ = d ∧ _ = v := by simpa using hk
       exact hfr.at_ 14 _ _ _ rfl hS
      ·obtain ⟨rfl, rfl, rfl⟩ : _ = j ∧ _ = d ∧ _ = v := by simpa using hk
       exact hfr.at_ 15 _ _ _ rfl hS
      ·obtain ⟨rfl, rfl, rfl⟩ : _ = j ∧ _ = d ∧ _ = v := by simpa using hk
       exact hfr.at_ 16 _ _ _ rfl hS
      ·obtain ⟨rfl, rfl, rfl⟩ : _ = j ∧ _ = d ∧ _ = v := by simpa using hk
       exact hfr.at_ 17 _ _ _ rfl hS
      · simp at hk)
     exact Or.inr (Or.inr (Or.inr (⟨un rfl hw15, un rfl hw16, upd_self _ _, v7015, v7016, hm286.none ht286 h286.fr.defers rfl, (h286.sh.sel (L' := [.own 36 (⟨v7015, [(nth es.l i)]⟩ : Ls Ins), .blk b53 36 [.int .i64 ((nth es.l i).op), .int .i64 ((nth es.l i).a), .int .i64 ((nth es.l i).b), .int .i64 ((nth es.l i).c)], .blk b36 90 [v32, .map (some g33)], .big (seenX 24 g33 ([] : List (List Nat × Ls (Ls Int)))), .big (matX (.own 36) 37 v32 (M.set (((nth es.l i).op).toNat) (⟨v7016, (nth M (((nth es.l i).op).toNat)).l ++ ([(nth es.l i)])⟩ : Ls Ins))), .blk b4 31 [.int .i64 0, .int .i64 0, .int .i64 0], .at_ ws, .at_ es]) [0, 1, 2, 3, 4, 5, 6, 7] (by decide) ⟨rfl, rfl, rfl, rfl, rfl, rfl, rfl, rfl, trivial⟩)⟩)))
    ·
     exact no_way hw18 hSi
   · simp at ho
  intro S hall a w hI
  clear h246
  rcases hI with ⟨hw15, hw16, hw18, hfr, hsh⟩ | ⟨hw15, hw16, hw18, v7015, hfr, hsh⟩ | ⟨hw15, hw16, hw18, v7015, v7016, hfr, hsh⟩ | ⟨hw15, hw16, hw18, v7015, v7016, hfr, hsh⟩
  · exact no_way (hall 15 (by decide)) hw15
  · exact no_way (hall 16 (by decide)) hw16
  · exact no_way (hall 18 (by decide)) hw18
  have h287 : St 86 (fun _ => False) W a w _ [.own 36 (⟨v7015, [(nth es.l i)]⟩ : Ls Ins), .blk b53 36 [.int .i64 ((nth es.l i).op), .int .i64 ((nth es.l i).a), .int .i64 ((nth es.l i).b), .int .i64 ((nth es.l i).c)], .blk b36 90 [v32, .map (some g33)], .big (seenX 24 g33 ([] : List (List Nat × Ls (Ls Int)))), .big (matX (.own 36) 37 v32 (M.set (((nth es.l i).op).toNat) (⟨v7016, (nth M (((nth es.l i).op).toNat)).l ++ ([(nth es.l i)])⟩ : Ls Ins))), .blk b4 31 [.int .i64 0, .int .i64 0, .int .i64 0], .at_ ws, .at_ es] := ⟨hfr.fr0, hsh⟩
  clear hall hfr hsh hw15 hw16 hw18
  refine hK48 _ _ ?_
  refine wp_region_lit ?_
  refine wv h287 (r_addN (p := i) (q := 1) rfl rfl rfl (show i + 1 < 9223372036854775808 from (by omega))) rfl rfl fun a288 h288 => ?_; clear h287
  refine wms 1 h288 rfl fun a289 h289 => ?_; clear h288
  refine wpList_nil ?_
  refine x_again ⟨_, ?_, i + 1, M.set (((nth es.l i).op).toNat) (⟨v7016, (nth M (((nth es.l i).op).toNat)).l ++ ([(nth es.l i)])⟩ : Ls Ins), ?_, ?_, ?_, ?_, h289.nrm ⟨rfl, rfl, rfl, rfl, rfl, rfl, trivial⟩ [2, 3, 4, 5, 6, 7] (by decide) ⟨rfl, rfl, rfl, rfl, rfl, rfl, trivial⟩, rfl⟩
  · rw [hm43]; first | omega | (simp only [lens9]; omega)
  · omega
  · rw [List.length_set]; exact hM
  · exact lens_next (by omega) hlen0
  · intro j hj; rcases Nat.lt_or_ge j i with h9 | h9; exact hgood j h9; obtain rfl : j = i := (by omega); exact ⟨by omega, by omega, by omega, by omega, by omega⟩
 have hp47 : ¬ (i < es.l.length) := of_decide_eq_false hb47
 exact absurd (show OkH ws.l es.l from ⟨by omega, by omega, fun j hj => hgood j (by omega)⟩) hbad

end Go.Proofs.Ytanhbpofhebbaaa
