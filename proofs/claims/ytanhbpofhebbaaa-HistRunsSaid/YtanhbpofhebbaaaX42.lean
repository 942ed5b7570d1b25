/-
  Contracts of functions of this program and of the references, each walked once.
-/
import Derived.Test.YtanhbpofhebbaaaX41
namespace Go.Proofs.Ytanhbpofhebbaaa
open Go.RowKit
set_option linter.unusedSimpArgs false
set_option linter.unusedVariables false


theorem Sh.holeAt {K : Nat → Prop} {W w : World} {L : List Asn} {α : Type} {R : Ls α → Asn} {E : TypeId} {v : Value} {M : List (Ls α)} {q : Nat} (h : Sh K W w L) (i : Nat) (hi : L[i]? = some (.big (holeX R E v M q))) : (⟨v, rvs M⟩ : Ls RV).At w :=
  own_at (E := E) ((h.ok _ (List.mem_of_getElem? hi)).1 _ (List.mem_cons_self ..))
/-- May an event be? -/
def EvOk (n : Nat) (e : Ins) : Prop := 0 ≤ e.op ∧ e.op < 4 ∧ 0 ≤ e.a ∧ e.a < n ∧ (e.b = 1 ∨ e.b = 2)
structure OkH (ws : List Int) (es : List Ins) : Prop where
  words : ws.length ≤ 64
  evs : es.length ≤ 12
  ok : ∀ i, i < es.length → EvOk ws.length (nth es i)
def rowE (es : List Ins) (t : Nat) : List Ins := es.filter fun e => decide (e.op = (t : Int))
def thrE (es : List Ins) : List (List Ins) := (List.range 4).map (rowE es)
def mayB (ws : List Int) (es : List Ins) : Bool := can (thrE es) [0, 0, 0, 0] ws
theorem take_stepE {es : List Ins} {i : Nat} (h : i < es.length) : es.take (i + 1) = es.take i ++ [nth es i] := by
  rw [List.take_add_one, List.getElem?_eq_getElem h, nth_lt _ _ h]; rfl
theorem rowE_step {es : List Ins} {i t : Nat} (h : i < es.length) : rowE (es.take (i + 1)) t = rowE (es.take i) t ++ if (nth es i).op = (t : Int) then [nth es i] else [] := by
  unfold rowE
  rw [take_stepE h, List.filter_append]
  congr 1
  by_cases e : (nth es i).op = (t : Int)
  · simp [e]
  · simp [e]
theorem rows_next {es : List Ins} {i : Nat} {M : List (Ls Ins)} {u : Value} (hM : M.length = 4) (hi : i < es.length) (h0 : 0 ≤ (nth es i).op ∧ (nth es i).op < 4) (h : ∀ t, t < 4 → (nth M t).l = rowE (es.take i) t) :
    ∀ t, t < 4 → (nth (M.set (nth es i).op.toNat ⟨u, (nth M (nth es i).op.toNat).l ++ [nth es i]⟩) t).l = rowE (es.take (i + 1)) t := by
  intro t ht
  rw [rowE_step hi, nth_set]
  split
  · rename_i e; obtain ⟨rfl, _⟩ := e
    rw [if_pos (by omega)]
    show (nth M _).l ++ _ = _
    rw [h _ ht]
  · rename_i e
    rw [if_neg (fun e2 => e ⟨by omega, by omega⟩), List.append_nil]
    exact h t ht
theorem lens_next {i : Nat} {M : List (Ls Ins)} {u : Value} {e : Ins} (h0 : 0 ≤ e.op ∧ e.op < 4) (h : ∀ t, t < 4 → (nth M t).l.length ≤ i) : ∀ t, t < 4 → (nth (M.set e.op.toNat ⟨u, (nth M e.op.toNat).l ++ [e]⟩) t).l.length ≤ i + 1 := by
  intro t ht
  rw [nth_set]
  split
  · have := h e.op.toNat (by omega)
    simp only [List.length_append, List.length_singleton]
    omega
  · have := h t ht
    omega
theorem rowE_mem {es : List Ins} {t : Nat} {e : Ins} (h : e ∈ rowE es t) : e ∈ es := (List.mem_filter.1 h).1
theorem rowE_sum : ∀ es : List Ins, (rowE es 0).length + (rowE es 1).length + (rowE es 2).length + (rowE es 3).length ≤ es.length
  | [] => by simp [rowE]
  | e :: es => by
    have ih := rowE_sum es
    have key : ∀ t : Nat, (rowE (e :: es) t).length = (rowE es t).length + if e.op = (t : Int) then 1 else 0 := fun t => by
      unfold rowE
      rw [List.filter_cons]
      by_cases h : e.op = (t : Int)
      · rw [if_pos h, decide_eq_true h, if_pos rfl, List.length_cons]
      · rw [if_neg h, decide_eq_false h, if_neg (by decide)]; rfl
    rw [key, key, key, key, List.length_cons]
    have : (if e.op = ((0 : Nat) : Int) then 1 else 0) + (if e.op = ((1 : Nat) : Int) then 1 else 0) + (if e.op = ((2 : Nat) : Int) then 1 else 0) + (if e.op = ((3 : Nat) : Int) then 1 else 0) ≤ 1 := by
      repeat' split
      all_goals omega
    omega
theorem bnd_mono : ∀ {a b : Nat}, a ≤ b → bnd a ≤ bnd b
  | 0, 0, _ => Nat.le_refl _
  | 0, b + 1, _ => by rw [bnd, bnd]; omega
  | a + 1, 0, h => by omega
  | a + 1, b + 1, h => by have := bnd_mono (a := a) (b := b) (by omega); rw [bnd, bnd]; omega
section
variable {es : List Ins} {ws : List Int} {M : List (Ls Ins)} {v : Value}
theorem hok_of (h : OkH ws es) (hM : M.length = 4) (hr : ∀ t, t < 4 → (nth M t).l = rowE es t) : HOk ⟨v, M⟩ ws.length := by
  have hs := rowE_sum es
  have he := h.evs
  refine ⟨hM, fun t ht i hi => ?_, fun t ht => ?_, by have := h.words; omega⟩
  · show (0 ≤ (nth (nth M t).l i).a ∧ _) ∧ _
    have hi : i < (nth M t).l.length := hi
    have hm := nth_mem _ _ hi
    rw [hr t ht] at hm ⊢
    obtain ⟨j, hj, e⟩ := List.mem_iff_getElem.1 (rowE_mem hm)
    have := h.ok j hj
    rw [nth_lt _ _ hj, e] at this
    obtain ⟨_, _, h1, h2, h3⟩ := this
    exact ⟨⟨h1, h2⟩, h3⟩
  · show (nth M t).l.length ≤ 100
    rw [hr t ht]
    rcases (by omega : t = 0 ∨ t = 1 ∨ t = 2 ∨ t = 3) with rfl | rfl | rfl | rfl <;> omega
theorem pok_zero (hM : M.length = 4) : POk ⟨v, M⟩ [0, 0, 0, 0] := ⟨rfl, fun t ht => by rcases (by omega : t = 0 ∨ t = 1 ∨ t = 2 ∨ t = 3) with rfl | rfl | rfl | rfl <;> exact Nat.zero_le _⟩
theorem thr_of (hM : M.length = 4) (hr : ∀ t, t < 4 → (nth M t).l = rowE es t) : thr ⟨v, M⟩ = thrE es := by
  unfold thr thrE
  apply List.ext_getElem (by simp [hM])
  intro i h1 h2
  have h4 : i < 4 := by simpa using h2
  have := hr i h4
  rw [nth_lt _ _ (by omega)] at this
  simpa using this
theorem rest_few (h : OkH ws es) : restN (thrE es) [0, 0, 0, 0] ≤ 12 := by
  have hs := rowE_sum es
  have he := h.evs
  have : restN (thrE es) [0, 0, 0, 0] = (rowE es 0).length + (rowE es 1).length + (rowE es 2).length + (rowE es 3).length := by
    simp [restN, thrE, sumTo, nth, List.range_succ]
  omega
theorem room_zero (h : OkH ws es) (hM : M.length = 4) (hr : ∀ t, t < 4 → (nth M t).l = rowE es t) : cntM [] + bnd (restN (thr ⟨v, M⟩) [0, 0, 0, 0]) ≤ 1099511627776 := by
  rw [thr_of hM hr]
  have := bnd_mono (rest_few h)
  have e : bnd 12 = 22369621 := by decide +kernel
  have e2 : cntM [] = 0 := rfl
  omega
end
theorem seen_zero (T : List (List Ins)) (d : Nat) : SeenOK T [] d := fun k l ⟨x, hx, _⟩ => by cases hx
theorem keys_zero : KeysOK [] := fun x hx => by cases hx

set_option maxRecDepth 100000 in
set_option maxHeartbeats 8000000 in
theorem may_k (ws : Ls Int) (es : Ls Ins) (W : World) (hw : ws.At W) (he : es.At W) (hok : OkH ws.l es.l) :
    Rets Try.prog 21 [ws.v, es.v] W (fun v w' => v = .tuple #[.bool (mayB ws.l es.l), .agg #[.int .i64 0, .int .i64 0, .int .i64 0]] ∧ Sh0 W w' []) := by
 have hk1 := hok.words
 have hk2 := hok.evs
 refine x_enter (N := 86) Try.func21 rfl Try.ntmps21 (Nat.le_of_ble_eq_true rfl) fun a1 hf1 => ?_
 have h1 : St 86 (fun _ => False) W a1 W [(0, ws.v), (1, es.v)] [.at_ ws, .at_ es] := ⟨hf1.sub ⟨rfl, rfl, trivial⟩, Sh0.ext2 hw he⟩
 clear hf1
 refine wp_seq_k fun K2 hK2 => wp_region_lit ?_
 refine wms 1 h1 rfl fun a3 h3 => ?_; clear h1
 refine wl_ex (x_alloc h3 ti_31 rfl rfl rfl) (wanted_none rfl _) ?_
 rintro a4 w4 ⟨b4, h4⟩; clear h3
 refine wpList_nil (hK2 _ _ ?_)
 refine wp_seq_k fun K5 hK5 => ?_
 refine wp_seq_k fun K6 hK6 => wp_region_lit ?_
 refine wms 1 h4 rfl fun a7 h7 => ?_; clear h4
 have hl8 : ws.l.length ≤ 140737488355328 := (h7.sh.at 1 rfl).len
 refine wv h7 (r_len (s := ws) (n := ws.l.length) sl_24 rfl rfl (fun w h => (h.at 1 rfl)) rfl) rfl rfl fun a9 h9 => ?_; clear h7
 refine wv h9 (r_gtrN (p := ws.l.length) (q := 64) rfl rfl rfl) rfl rfl fun a10 h10 => ?_; clear h9
 refine wms 1 h10 rfl fun a11 h11 => ?_; clear h10
 refine wl_val h11 (r_move rfl rfl) (wanted_yes h11.fr rfl rfl rfl rfl (decide_eq_false (by omega))) rfl rfl fun a12 h12 => ?_; clear h11
 have hl13 : es.l.length ≤ 140737488355328 := (h12.sh.at 2 rfl).len
 refine wl_val h12 (r_len (s := es) (n := es.l.length) sl_37 rfl rfl (fun w h => (h.at 2 rfl)) rfl) (wanted_yes h12.fr rfl rfl rfl rfl (decide_eq_false (by omega))) rfl rfl fun a14 h14 => ?_; clear h12
 refine wl_val h14 (r_gtrN (p := es.l.length) (q := 12) rfl rfl rfl) (wanted_yes h14.fr rfl rfl rfl rfl (decide_eq_false (by omega))) rfl rfl fun a15 h15 => ?_; clear h14
 refine wv h15 (r_pickF rfl rfl (decide_eq_false (by omega)) rfl) rfl rfl fun a16 h16 => ?_; clear h15
 refine wpList_nil (hK6 _ _ ?_)
 refine x_condF h16 rfl (decide_eq_false (by omega)) ?_
 refine wp_skip ?_
 refine hK5 _ _ ?_
 refine wp_seq_k fun K17 hK17 => wp_region_lit ?_
 refine wl_ex (x_makeMat (n := 4) h16 sl_87 ti_37 rfl rfl rfl (show 24 * 4 ≤ 140737488355328 ∧ 4 ≤ 140737488355328 from (by omega)) rfl rfl 36 Ins) (wanted_none rfl _) ?_
 rintro a18 w18 ⟨v18, h18⟩; clear h16
 refine wl_ex (x_makeMapB h18 mp_88.map rfl rfl rfl 24 (Ls Int)) (wanted_none rfl _) ?_
 rintro a19 w19 ⟨g19, h19⟩; clear h18
 refine wv h19 (r_build (cs := [v18, .map (some g19)]) rfl rfl (by obtain ⟨A20, n20, c20, (e20 : v18 = _)⟩ := ((h19.sh.matAt 1 rfl)).form; rw [e20]; kernel_rfl)) rfl rfl fun a21 h21 => ?_; clear h19
 refine wl_ex (x_box (cs := [v18, .map (some g19)]) h21 rfl rfl rfl rfl rfl) (wanted_none rfl _) ?_
 rintro a22 w22 ⟨b22, h22⟩; clear h21
 refine wms 1 h22 rfl fun a23 h23 => ?_; clear h22
 refine wpList_nil (hK17 _ _ ?_)
 refine wp_seq_k fun K24 hK24 => ?_
 refine wp_seq_k fun K25 hK25 => wp_region_lit ?_
 refine wms 1 h23 rfl fun a26 h26 => ?_; clear h23
 refine wv h26 (r_len (s := es) (n := es.l.length) sl_37 rfl rfl (fun w h => (h.at 5 rfl)) rfl) rfl rfl fun a27 h27 => ?_; clear h26
 refine wms 1 h27 rfl fun a28 h28 => ?_; clear h27
 refine wpList_nil (hK25 _ _ ?_)
 refine wp_block ?_
 refine x_loop (fun m a w => ∃ (i : Nat) (M : List (Ls Ins)), (i ≤ es.l.length) ∧ (M.length = 4) ∧ (∀ t, t < 4 → (nth M t).l = rowE (es.l.take i) t) ∧ (∀ t, t < 4 → (nth M t).l.length ≤ i) ∧ St 86 (fun _ => False) W a w [(0, ws.v), (5, .pointer (some ⟨b4, 0, none⟩)), (6, .pointer (some ⟨b22, 0, none⟩)), (22, es.v), (23, .int .i64 ((es.l.length : Nat) : Int)), (24, .int .i64 ((i : Nat) : Int))] [.blk b22 90 [v18, .map (some g19)], .big (seenX 24 g19 ([] : List (List Nat × Ls (Ls Int)))), .big (matX (.own 36) 37 v18 M), .blk b4 31 [.int .i64 0, .int .i64 0, .int .i64 0], .at_ ws, .at_ es] ∧ m = es.l.length - i) ⟨_, 0, List.replicate 4 ⟨.slice none 0 0, []⟩, (by omega), (rfl), (fun t ht => by rcases (by omega : t = 0 ∨ t = 1 ∨ t = 2 ∨ t = 3) with rfl | rfl | rfl | rfl <;> rfl), (fun t ht => by rcases (by omega : t = 0 ∨ t = 1 ∨ t = 2 ∨ t = 3) with rfl | rfl | rfl | rfl <;> exact Nat.le_refl _), h28.nrm ⟨rfl, rfl, rfl, rfl, rfl, rfl, trivial⟩ [0, 1, 2, 3, 4, 5] (by decide) ⟨rfl, rfl, rfl, rfl, rfl, rfl, trivial⟩, rfl⟩ ?_
 clear h28
 rintro m29 a29 w29 ⟨i, M, hi, hM, hrows0, hlen0, h29, hm29⟩
 refine wp_seq_k fun K30 hK30 => wp_region_lit ?_
 refine wv h29 (r_lssN (p := i) (q := es.l.length) rfl rfl rfl) rfl rfl fun a31 h31 => ?_; clear h29
 refine wpList_nil (hK30 _ _ ?_)
 refine wp_seq_k fun K32 hK32 => ?_
 refine x_cond h31 rfl (fun hb33 => ?_) (fun hb33 => ?_)
 ·
  have hp33 : i < es.l.length := of_decide_eq_true hb33
  refine wp_skip ?_
  refine hK32 _ _ ?_
  refine wp_seq_k fun K34 hK34 => ?_
  refine wp_block ?_
  refine wp_seq_k fun K35 hK35 => wp_region_lit ?_
  refine wms 1 h31 rfl fun a36 h36 => ?_; clear h31
  refine wv h36 (r_ixN (s := es) (q := i) sl_37 ti_36 rfl rfl rfl (fun w h => (h.at 5 rfl)) (show i < es.l.length from (by omega))) rfl rfl fun a37 h37 => ?_; clear h36
  refine wv h37 (r_ldew (s := es) (i := i) (vs := [.int .i64 ((nth es.l i).op), .int .i64 ((nth es.l i).a), .int .i64 ((nth es.l i).b), .int .i64 ((nth es.l i).c)]) ti_36 rfl rfl rfl (fun w h => (h.at 5 rfl)) (show i < es.l.length from (by omega)) (Nat.le_of_ble_eq_true rfl) rfl) rfl rfl fun a38 h38 => ?_; clear h37
  refine wl_ex (x_alloc h38 ti_36 rfl rfl rfl) (wanted_none rfl _) ?_
  rintro a39 w39 ⟨b39, h39⟩; clear h38
  refine wms 1 h39 rfl fun a40 h40 => ?_; clear h39
  refine wl_ex (x_stb (i := 0) (vs := [.int .i64 ((nth es.l i).op), .int .i64 ((nth es.l i).a), .int .i64 ((nth es.l i).b), .int .i64 ((nth es.l i).c)]) (cs' := [.int .i64 ((nth es.l i).op), .int .i64 ((nth es.l i).a), .int .i64 ((nth es.l i).b), .int .i64 ((nth es.l i).c)]) h40 ti_36 rfl rfl rfl rfl rfl rfl rfl (allOne_cons rfl (allOne_cons rfl (allOne_cons rfl (allOne_cons rfl allOne_nil)))) (Nat.le_of_ble_eq_true rfl) rfl) (wanted_none rfl _) ?_
  rintro a41 w41 h41
  clear h40
  refine wpList_nil (hK35 _ _ ?_)
  obtain ⟨he1, he2, he3, he4, he5⟩ := hok.ok i (by omega)
  refine wp_seq_k fun K42 hK42 => ?_
  refine wp_seq_k fun K43 hK43 => wp_region_lit ?_
  refine wv h41 (r_fieldB (r := 0) fl_36_0 rfl rfl rfl) rfl rfl fun a44 h44 => ?_; clear h41
  refine wv h44 (r_ldb (i := 0) ti_3 rfl rfl rfl rfl) rfl rfl fun a45 h45 => ?_; clear h44
  refine wv h45 (r_lssI (p := (nth es.l i).op) (q := 0) rfl rfl rfl) rfl rfl fun a46 h46 => ?_; clear h45
  refine wms 1 h46 rfl fun a47 h47 => ?_; clear h46
  refine wl_val h47 (r_fieldB (r := 0) fl_36_0 rfl rfl rfl) (wanted_yes h47.fr rfl rfl rfl rfl (decide_eq_false (by omega))) rfl rfl fun a48 h48 => ?_; clear h47
  refine wl_val h48 (r_ldb (i := 0) ti_3 rfl rfl rfl rfl) (wanted_yes h48.fr rfl rfl rfl rfl (decide_eq_false (by omega))) rfl rfl fun a49 h49 => ?_; clear h48
  refine wl_val h49 (r_geqI (p := (nth es.l i).op) (q := 4) rfl rfl rfl) (wanted_yes h49.fr rfl rfl rfl rfl (decide_eq_false (by omega))) rfl rfl fun a50 h50 => ?_; clear h49
  refine wv h50 (r_pickF rfl rfl (decide_eq_false (by omega)) rfl) rfl rfl fun a51 h51 => ?_; clear h50
  refine wms 1 h51 rfl fun a52 h52 => ?_; clear h51
  refine wl_val h52 (r_fieldB (r := 1) fl_36_1 rfl rfl rfl) (wanted_yes h52.fr rfl rfl rfl rfl (decide_eq_false (by omega))) rfl rfl fun a53 h53 => ?_; clear h52
  refine wl_val h53 (r_ldb (i := 0) ti_3 rfl rfl rfl rfl) (wanted_yes h53.fr rfl rfl rfl rfl (decide_eq_false (by omega))) rfl rfl fun a54 h54 => ?_; clear h53
  refine wl_val h54 (r_lssI (p := (nth es.l i).a) (q := 0) rfl rfl rfl) (wanted_yes h54.fr rfl rfl rfl rfl (decide_eq_false (by omega))) rfl rfl fun a55 h55 => ?_; clear h54
  refine wv h55 (r_pickF rfl rfl (decide_eq_false (by omega)) rfl) rfl rfl fun a56 h56 => ?_; clear h55
  refine wms 1 h56 rfl fun a57 h57 => ?_; clear h56
  refine wl_val h57 (r_fieldB (r := 1) fl_36_1 rfl rfl rfl) (wanted_yes h57.fr rfl rfl rfl rfl (decide_eq_false (by omega))) rfl rfl fun a58 h58 => ?_; clear h57
  refine wl_val h58 (r_ldb (i := 0) ti_3 rfl rfl rfl rfl) (wanted_yes h58.fr rfl rfl rfl rfl (decide_eq_false (by omega))) rfl rfl fun a59 h59 => ?_; clear h58
  refine wl_val h59 (r_move rfl rfl) (wanted_yes h59.fr rfl rfl rfl rfl (decide_eq_false (by omega))) rfl rfl fun a60 h60 => ?_; clear h59
  refine wl_val h60 (r_len (s := ws) (n := ws.l.length) sl_24 rfl rfl (fun w h => (h.at 5 rfl)) rfl) (wanted_yes h60.fr rfl rfl rfl rfl (decide_eq_false (by omega))) rfl rfl fun a61 h61 => ?_; clear h60
  refine wl_val h61 (r_geqI (p := (nth es.l i).a) (q := ((ws.l.length : Nat) : Int)) rfl rfl rfl) (wanted_yes h61.fr rfl rfl rfl rfl (decide_eq_false (by omega))) rfl rfl fun a62 h62 => ?_; clear h61
  refine wv h62 (r_pickF rfl rfl (decide_eq_false (by omega)) rfl) rfl rfl fun a63 h63 => ?_; clear h62
  refine wms 1 h63 rfl fun a64 h64 => ?_; clear h63
  refine wl_val h64 (r_fieldB (r := 2) fl_36_2 rfl rfl rfl) (wanted_yes h64.fr rfl rfl rfl rfl (decide_eq_false (by omega))) rfl rfl fun a65 h65 => ?_; clear h64
  refine wl_val h65 (r_ldb (i := 0) ti_3 rfl rfl rfl rfl) (wanted_yes h65.fr rfl rfl rfl rfl (decide_eq_false (by omega))) rfl rfl fun a66 h66 => ?_; clear h65
  refine wl_val h66 (r_neqI (p := (nth es.l i).b) (q := 1) rfl rfl rfl) (wanted_yes h66.fr rfl rfl rfl rfl (decide_eq_false (by omega))) rfl rfl fun a67 h67 => ?_; clear h66
  refine wl_val h67 (r_move rfl rfl) (wanted_yes h67.fr rfl rfl rfl rfl (decide_eq_false (by omega))) rfl rfl fun a68 h68 => ?_; clear h67
  rcases Bool.eq_false_or_eq_true (decide ((nth es.l i).b ≠ 1)) with hb69 | hb69
  ·
   have hp69 : (nth es.l i).b ≠ 1 := of_decide_eq_true hb69
   refine wl_val h68 (r_fieldB (r := 2) fl_36_2 rfl rfl rfl) (wanted_yes h68.fr rfl rfl rfl rfl hb69) rfl rfl fun a70 h70 => ?_; clear h68
   refine wl_val h70 (r_ldb (i := 0) ti_3 rfl rfl rfl rfl) (wanted_yes h70.fr rfl rfl rfl rfl hb69) rfl rfl fun a71 h71 => ?_; clear h70
   refine wl_val h71 (r_neqI (p := (nth es.l i).b) (q := 2) rfl rfl rfl) (wanted_yes h71.fr rfl rfl rfl rfl hb69) rfl rfl fun a72 h72 => ?_; clear h71
   refine wl_val h72 (r_pickT rfl rfl hb69 rfl) (wanted_yes h72.fr rfl rfl rfl rfl (decide_eq_false (by omega))) rfl rfl fun a73 h73 => ?_; clear h72
   refine wv h73 (r_pickF rfl rfl (decide_eq_false (by omega)) rfl) rfl rfl fun a74 h74 => ?_; clear h73
   refine wpList_nil (hK43 _ _ ?_)
   have h75 : St 86 (fun _ => False) W a74 w41 [(0, ws.v), (5, .pointer (some ⟨b4, 0, none⟩)), (6, .pointer (some ⟨b22, 0, none⟩)), (7, .int .i64 ((i : Nat) : Int)), (8, .pointer (some ⟨b39, 0, none⟩)), (22, es.v), (23, .int .i64 ((es.l.length : Nat) : Int)), (24, .int .i64 ((i : Nat) : Int)), (58, .bool (decide ((nth es.l i).b ≠ 2)))] [.blk b39 36 [.int .i64 ((nth es.l i).op), .int .i64 ((nth es.l i).a), .int .i64 ((nth es.l i).b), .int .i64 ((nth es.l i).c)], .blk b22 90 [v18, .map (some g19)], .big (seenX 24 g19 ([] : List (List Nat × Ls (Ls Int)))), .big (matX (.own 36) 37 v18 M), .blk b4 31 [.int .i64 0, .int .i64 0, .int .i64 0], .at_ ws, .at_ es] := h74.nrm ⟨rfl, rfl, rfl, rfl, rfl, rfl, rfl, rfl, rfl, trivial⟩ [0, 1, 2, 3, 4, 5, 6] (by decide) ⟨rfl, rfl, rfl, rfl, rfl, rfl, rfl, trivial⟩
   clear h74
   refine x_condF h75 rfl (decide_eq_false (by omega)) ?_
   refine wp_skip ?_
   refine hK42 _ _ ?_
   have hlq := hlen0 (nth es.l i).op.toNat (by omega)
   have h76 : St 86 (fun _ => False) W a74 w41 [(0, ws.v), (5, .pointer (some ⟨b4, 0, none⟩)), (6, .pointer (some ⟨b22, 0, none⟩)), (7, .int .i64 ((i : Nat) : Int)), (8, .pointer (some ⟨b39, 0, none⟩)), (22, es.v), (23, .int .i64 ((es.l.length : Nat) : Int)), (24, .int .i64 ((i : Nat) : Int)), (58, .bool (decide ((nth es.l i).b ≠ 2)))] [.blk b39 36 [.int .i64 ((nth es.l i).op), .int .i64 ((nth es.l i).a), .int .i64 ((nth es.l i).b), .int .i64 ((nth es.l i).c)], .blk b22 90 [v18, .map (some g19)], .big (seenX 24 g19 ([] : List (List Nat × Ls (Ls Int)))), .big (matX (.own 36) 37 v18 M), .blk b4 31 [.int .i64 0, .int .i64 0, .int .i64 0], .at_ ws, .at_ es] := h75.nrm ⟨rfl, rfl, rfl, rfl, rfl, rfl, rfl, rfl, rfl, trivial⟩ [0, 1, 2, 3, 4, 5, 6] (by decide) ⟨rfl, rfl, rfl, rfl, rfl, rfl, rfl, trivial⟩
   clear h75
   refine x_any (fun S a w => (S 15 = false ∧ S 16 = false ∧ S 18 = false ∧ FrI 86 S [(0, ws.v), (5, .pointer (some ⟨b4, 0, none⟩)), (6, .pointer (some ⟨b22, 0, none⟩)), (7, .int .i64 ((i : Nat) : Int)), (8, .pointer (some ⟨b39, 0, none⟩)), (22, es.v), (23, .int .i64 ((es.l.length : Nat) : Int)), (24, .int .i64 ((i : Nat) : Int)), (58, .bool (decide ((nth es.l i).b ≠ 2)))] [(0, 61, .pointer (some ⟨b22, 0, none⟩)), (1, 62, .pointer (some ⟨b22, 0, none⟩)), (2, 63, .pointer (some ⟨b22, 0, none⟩)), (3, 64, v18), (4, 65, .pointer (some ⟨b39, 0, none⟩)), (5, 66, .int .i64 ((nth es.l i).op)), (6, 67, .pointer (some ⟨b22, 0, none⟩)), (7, 68, .pointer (some ⟨b22, 0, none⟩)), (8, 69, .pointer (some ⟨b22, 0, none⟩)), (9, 70, v18), (10, 71, .pointer (some ⟨b39, 0, none⟩)), (11, 72, .int .i64 ((nth es.l i).op)), (12, 73, .pointer (some (padr v18 1 (((nth es.l i).op).toNat) 0))), (13, 74, (nth M (((nth es.l i).op).toNat)).v), (14, 75, .agg #[.int .i64 ((nth es.l i).op), .int .i64 ((nth es.l i).a), .int .i64 ((nth es.l i).b), .int .i64 ((nth es.l i).c)])] a ∧ Sh (fun _ => False) W w [.blk b39 36 [.int .i64 ((nth es.l i).op), .int .i64 ((nth es.l i).a), .int .i64 ((nth es.l i).b), .int .i64 ((nth es.l i).c)], .blk b22 90 [v18, .map (some g19)], .big (seenX 24 g19 ([] : List (List Nat × Ls (Ls Int)))), .big (matX (.own 36) 37 v18 M), .blk b4 31 [.int .i64 0, .int .i64 0, .int .i64 0], .at_ ws, .at_ es]) ∨ (S 15 = true ∧ S 16 = false ∧ S 18 = false ∧ ∃ (v7015 : Value), FrI 86 S [(0, ws.v), (5, .pointer (some ⟨b4, 0, none⟩)), (6, .pointer (some ⟨b22, 0, none⟩)), (7, .int .i64 ((i : Nat) : Int)), (8, .pointer (some ⟨b39, 0, none⟩)), (22, es.v), (23, .int .i64 ((es.l.length : Nat) : Int)), (24, .int .i64 ((i : Nat) : Int)), (58, .bool (decide ((nth es.l i).b ≠ 2)))] [(0, 61, .pointer (some ⟨b22, 0, none⟩)), (1, 62, .pointer (some ⟨b22, 0, none⟩)), (2, 63, .pointer (some ⟨b22, 0, none⟩)), (3, 64, v18), (4, 65, .pointer (some ⟨b39, 0, none⟩)), (5, 66, .int .i64 ((nth es.l i).op)), (6, 67, .pointer (some ⟨b22, 0, none⟩)), (7, 68, .pointer (some ⟨b22, 0, none⟩)), (8, 69, .pointer (some ⟨b22, 0, none⟩)), (9, 70, v18), (10, 71, .pointer (some ⟨b39, 0, none⟩)), (11, 72, .int .i64 ((nth es.l i).op)), (12, 73, .pointer (some (padr v18 1 (((nth es.l i).op).toNat) 0))), (13, 74, (nth M (((nth es.l i).op).toNat)).v), (14, 75, .agg #[.int .i64 ((nth es.l i).op), .int .i64 ((nth es.l i).a), .int .i64 ((nth es.l i).b), .int .i64 ((nth es.l i).c)]), (15, 76, v7015)] a ∧ Sh (fun _ => False) W w [.own 36 (⟨v7015, [(nth es.l i)]⟩ : Ls Ins), .blk b39 36 [.int .i64 ((nth es.l i).op), .int .i64 ((nth es.l i).a), .int .i64 ((nth es.l i).b), .int .i64 ((nth es.l i).c)], .blk b22 90 [v18, .map (some g19)], .big (seenX 24 g19 ([] : List (List Nat × Ls (Ls Int)))), .big (matX (.own 36) 37 v18 M), .blk b4 31 [.int .i64 0, .int .i64 0, .int .i64 0], .at_ ws, .at_ es]) ∨ (S 15 = true ∧ S 16 = true ∧ S 18 = false ∧ ∃ (v7015 : Value) (v7016 : Value), FrI 86 S [(0, ws.v), (5, .pointer (some ⟨b4, 0, none⟩)), (6, .pointer (some ⟨b22, 0, none⟩)), (7, .int .i64 ((i : Nat) : Int)), (8, .pointer (some ⟨b39, 0, none⟩)), (22, es.v), (23, .int .i64 ((es.l.length : Nat) : Int)), (24, .int .i64 ((i : Nat) : Int)), (58, .bool (decide ((nth es.l i).b ≠ 2)))] [(0, 61, .pointer (some ⟨b22, 0, none⟩)), (1, 62, .pointer (some ⟨b22, 0, none⟩)), (2, 63, .pointer (some ⟨b22, 0, none⟩)), (3, 64, v18), (4, 65, .pointer (some ⟨b39, 0, none⟩)), (5, 66, .int .i64 ((nth es.l i).op)), (6, 67, .pointer (some ⟨b22, 0, none⟩)), (7, 68, .pointer (some ⟨b22, 0, none⟩)), (8, 69, .pointer (some ⟨b22, 0, none⟩)), (9, 70, v18), (10, 71, .pointer (some ⟨b39, 0, none⟩)), (11, 72, .int .i64 ((nth es.l i).op)), (12, 73, .pointer (some (padr v18 1 (((nth es.l i).op).toNat) 0))), (13, 74, (nth M (((nth es.l i).op).toNat)).v), (14, 75, .agg #[.int .i64 ((nth es.l i).op), .int .i64 ((nth es.l i).a), .int .i64 ((nth es.l i).b), .int .i64 ((nth es.l i).c)]), (15, 76, v7015), (16, 77, v7016), (17, 78, .pointer (some (padr v18 1 (((nth es.l i).op).toNat) 0)))] a ∧ Sh (fun _ => False) W w [.own 36 (⟨v7016, (nth M (((nth es.l i).op).toNat)).l ++ ([(nth es.l i)])⟩ : Ls Ins), .own 36 (⟨v7015, [(nth es.l i)]⟩ : Ls Ins), .blk b39 36 [.int .i64 ((nth es.l i).op), .int .i64 ((nth es.l i).a), .int .i64 ((nth es.l i).b), .int .i64 ((nth es.l i).c)], .blk b22 90 [v18, .map (some g19)], .big (seenX 24 g19 ([] : List (List Nat × Ls (Ls Int)))), .big (holeX (.own 36) 37 v18 M (((nth es.l i).op).toNat)), .blk b4 31 [.int .i64 0, .int .i64 0, .int .i64 0], .at_ ws, .at_ es]) ∨ (S 15 = true ∧ S 16 = true ∧ S 18 = true ∧ ∃ (v7015 : Value) (v7016 : Value), FrI 86 S [(0, ws.v), (5, .pointer (some ⟨b4, 0, none⟩)), (6, .pointer (some ⟨b22, 0, none⟩)), (7, .int .i64 ((i : Nat) : Int)), (8, .pointer (some ⟨b39, 0, none⟩)), (22, es.v), (23, .int .i64 ((es.l.length : Nat) : Int)), (24, .int .i64 ((i : Nat) : Int)), (58, .bool (decide ((nth es.l i).b ≠ 2)))] [(0, 61, .pointer (some ⟨b22, 0, none⟩)), (1, 62, .pointer (some ⟨b22, 0, none⟩)), (2, 63, .pointer (some ⟨b22, 0, none⟩)), (3, 64, v18), (4, 65, .pointer (some ⟨b39, 0, none⟩)), (5, 66, .int .i64 ((nth es.l i).op)), (6, 67, .pointer (some ⟨b22, 0, none⟩)), (7, 68, .pointer (some ⟨b22, 0, none⟩)), (8, 69, .pointer (some ⟨b22, 0, none⟩)), (9, 70, v18), (10, 71, .pointer (some ⟨b39, 0, none⟩)), (11, 72, .int .i64 ((nth es.l i).op)), (12, 73, .pointer (some (padr v18 1 (((nth es.l i).op).toNat) 0))), (13, 74, (nth M (((nth es.l i).op).toNat)).v), (14, 75, .agg #[.int .i64 ((nth es.l i).op), .int .i64 ((nth es.l i).a), .int .i64 ((nth es.l i).b), .int .i64 ((nth es.l i).c)]), (15, 76, v7015), (16, 77, v7016), (17, 78, .pointer (some (padr v18 1 (((nth es.l i).op).toNat) 0)))] a ∧ Sh (fun _ => False) W w [.own 36 (⟨v7015, [(nth es.l i)]⟩ : Ls Ins), .blk b39 36 [.int .i64 ((nth es.l i).op), .int .i64 ((nth es.l i).a), .int .i64 ((nth es.l i).b), .int .i64 ((nth es.l i).c)], .blk b22 90 [v18, .map (some g19)], .big (seenX 24 g19 ([] : List (List Nat × Ls (Ls Int)))), .big (matX (.own 36) 37 v18 (M.set (((nth es.l i).op).toNat) (⟨v7016, (nth M (((nth es.l i).op).toNat)).l ++ ([(nth es.l i)])⟩ : Ls Ins))), .blk b4 31 [.int .i64 0, .int .i64 0, .int .i64 0], .at_ ws, .at_ es])) (by kernel_rfl) (by kernel_rfl) (Or.inl (⟨rfl, rfl, rfl, FrI.start h76.fr, h76.sh.drew⟩)) ?_ ?_
   ·intro S i o ho hSi hcl hdep a w hI
    clear h76
    rcases i with _ | _ | _ | _ | _ | _ | _ | _ | _ | _ | _ | _ | _ | _ | _ | _ | _ | _ | _ | i
    ·
     obtain rfl : _ = o := Option.some.inj ho
     rcases hI with ⟨hw15, hw16, hw18, hfr, hsh⟩ | ⟨hw15, hw16, hw18, v7015, hfr, hsh⟩ | ⟨hw15, hw16, hw18, v7015, v7016, hfr, hsh⟩ | ⟨hw15, hw16, hw18, v7015, v7016, hfr, hsh⟩
     ·
      exact sq hfr hfr.fr0 hsh (r_move rfl rfl) 0 rfl rfl rfl rfl rfl rfl fun a hg => Or.inl (⟨un rfl hw15, un rfl hw16, un rfl hw18, hg, hsh⟩)
     ·
      exact sq hfr hfr.fr0 hsh (r_move rfl rfl) 0 rfl rfl rfl rfl rfl rfl fun a hg => Or.inr (Or.inl (⟨un rfl hw15, un rfl hw16, un rfl hw18, v7015, hg, hsh⟩))
     ·
      exact sq hfr hfr.fr0 hsh (r_move rfl rfl) 0 rfl rfl rfl rfl rfl rfl fun a hg => Or.inr (Or.inr (Or.inl (⟨un rfl hw15, un rfl hw16, un rfl hw18, v7015, v7016, hg, hsh⟩)))
     ·
      exact no_way (cA hcl 18 0 rfl hw18) hSi
    ·
     obtain rfl : _ = o := Option.some.inj ho
     have hd0 : S 0 = true := depAt hdep 0 rfl rfl
     rcases hI with ⟨hw15, hw16, hw18, hfr, hsh⟩ | ⟨hw15, hw16, hw18, v7015, hfr, hsh⟩ | ⟨hw15, hw16, hw18, v7015, v7016, hfr, hsh⟩ | ⟨hw15, hw16, hw18, v7015, v7016, hfr, hsh⟩
     ·
      exact sq hfr (Fr.cons hfr.fr0 (hfr.at_ 0 0 61 _ rfl hd0)) hsh (r_nil rfl rfl) 1 rfl rfl rfl rfl rfl rfl fun a hg => Or.inl (⟨un rfl hw15, un rfl hw16, un rfl hw18, hg, hsh⟩)
     ·
      exact sq hfr (Fr.cons hfr.fr0 (hfr.at_ 0 0 61 _ rfl hd0)) hsh (r_nil rfl rfl) 1 rfl rfl rfl rfl rfl rfl fun a hg => Or.inr (Or.inl (⟨un rfl hw15, un rfl hw16, un rfl hw18, v7015, hg, hsh⟩))
     ·
      exact sq hfr (Fr.cons hfr.fr0 (hfr.at_ 0 0 61 _ rfl hd0)) hsh (r_nil rfl rfl) 1 rfl rfl rfl rfl rfl rfl fun a hg => Or.inr (Or.inr (Or.inl (⟨un rfl hw15, un rfl hw16, un rfl hw18, v7015, v7016, hg, hsh⟩)))
     ·
      exact no_way (cA hcl 18 1 rfl hw18) hSi
    ·
     obtain rfl : _ = o := Option.some.inj ho
     have hd1 : S 1 = true := depAt hdep 0 rfl rfl
     rcases hI with ⟨hw15, hw16, hw18, hfr, hsh⟩ | ⟨hw15, hw16, hw18, v7015, hfr, hsh⟩ | ⟨hw15, hw16, hw18, v7015, v7016, hfr, hsh⟩ | ⟨hw15, hw16, hw18, v7015, v7016, hfr, hsh⟩
     ·
      exact sq hfr (Fr.cons hfr.fr0 (hfr.at_ 1 1 62 _ rfl hd1)) hsh (r_fieldB (r := 0) fl_90_0 rfl rfl rfl) 2 rfl rfl rfl rfl rfl rfl fun a hg => Or.inl (⟨un rfl hw15, un rfl hw16, un rfl hw18, hg, hsh⟩)
     ·
      exact sq hfr (Fr.cons hfr.fr0 (hfr.at_ 1 1 62 _ rfl hd1)) hsh (r_fieldB (r := 0) fl_90_0 rfl rfl rfl) 2 rfl rfl rfl rfl rfl rfl fun a hg => Or.inr (Or.inl (⟨un rfl hw15, un rfl hw16, un rfl hw18, v7015, hg, hsh⟩))
     ·
      exact sq hfr (Fr.cons hfr.fr0 (hfr.at_ 1 1 62 _ rfl hd1)) hsh (r_fieldB (r := 0) fl_90_0 rfl rfl rfl) 2 rfl rfl rfl rfl rfl rfl fun a hg => Or.inr (Or.inr (Or.inl (⟨un rfl hw15, un rfl hw16, un rfl hw18, v7015, v7016, hg, hsh⟩)))
     ·
      exact no_way (cA hcl 18 2 rfl hw18) hSi
    ·
     obtain rfl : _ = o := Option.some.inj ho
     have hd2 : S 2 = true := depAt hdep 0 rfl rfl
     rcases hI with ⟨hw15, hw16, hw18, hfr, hsh⟩ | ⟨hw15, hw16, hw18, v7015, hfr, hsh⟩ | ⟨hw15, hw16, hw18, v7015, v7016, hfr, hsh⟩ | ⟨hw15, hw16, hw18, v7015, v7016, hfr, hsh⟩
     ·
      exact sq hfr (Fr.cons hfr.fr0 (hfr.at_ 2 2 63 _ rfl hd2)) hsh (r_ldb (i := 1) ti_87 rfl rfl rfl rfl) 3 rfl rfl rfl rfl rfl rfl fun a hg => Or.inl (⟨un rfl hw15, un rfl hw16, un rfl hw18, hg, hsh⟩)
     ·
      exact sq hfr (Fr.cons hfr.fr0 (hfr.at_ 2 2 63 _ rfl hd2)) hsh (r_ldb (i := 2) ti_87 rfl rfl rfl rfl) 3 rfl rfl rfl rfl rfl rfl fun a hg => Or.inr (Or.inl (⟨un rfl hw15, un rfl hw16, un rfl hw18, v7015, hg, hsh⟩))
     ·
      exact sq hfr (Fr.cons hfr.fr0 (hfr.at_ 2 2 63 _ rfl hd2)) hsh (r_ldb (i := 3) ti_87 rfl rfl rfl rfl) 3 rfl rfl rfl rfl rfl rfl fun a hg => Or.inr (Or.inr (Or.inl (⟨un rfl hw15, un rfl hw16, un rfl hw18, v7015, v7016, hg, hsh⟩)))
     ·
      exact no_way (cA hcl 18 3 rfl hw18) hSi
    ·
     obtain rfl : _ = o := Option.some.inj ho
     rcases hI with ⟨hw15, hw16, hw18, hfr, hsh⟩ | ⟨hw15, hw16, hw18, v7015, hfr, hsh⟩ | ⟨hw15, hw16, hw18, v7015, v7016, hfr, hsh⟩ | ⟨hw15, hw16, hw18, v7015, v7016, hfr, hsh⟩
     ·
      exact sq hfr hfr.fr0 hsh (r_fieldB (r := 0) fl_36_0 rfl rfl rfl) 4 rfl rfl rfl rfl rfl rfl fun a hg => Or.inl (⟨un rfl hw15, un rfl hw16, un rfl hw18, hg, hsh⟩)
     ·
      exact sq hfr hfr.fr0 hsh (r_fieldB (r := 0) fl_36_0 rfl rfl rfl) 4 rfl rfl rfl rfl rfl rfl fun a hg => Or.inr (Or.inl (⟨un rfl hw15, un rfl hw16, un rfl hw18, v7015, hg, hsh⟩))
     ·
      exact sq hfr hfr.fr0 hsh (r_fieldB (r := 0) fl_36_0 rfl rfl rfl) 4 rfl rfl rfl rfl rfl rfl fun a hg => Or.inr (Or.inr (Or.inl (⟨un rfl hw15, un rfl hw16, un rfl hw18, v7015, v7016, hg, hsh⟩)))
     ·
      exact no_way (cA hcl 18 4 rfl hw18) hSi
    ·
     obtain rfl : _ = o := Option.some.inj ho
     have hd4 : S 4 = true := depAt hdep 0 rfl rfl
     rcases hI with ⟨hw15, hw16, hw18, hfr, hsh⟩ | ⟨hw15, hw16, hw18, v7015, hfr, hsh⟩ | ⟨hw15, hw16, hw18, v7015, v7016, hfr, hsh⟩ | ⟨hw15, hw16, hw18, v7015, v7016, hfr, hsh⟩
     ·
      exact sq hfr (Fr.cons hfr.fr0 (hfr.at_ 4 4 65 _ rfl hd4)) hsh (r_ldb (i := 0) ti_3 rfl rfl rfl rfl) 5 rfl rfl rfl rfl rfl rfl fun a hg => Or.inl (⟨un rfl hw15, un rfl hw16, un rfl hw18, hg, hsh⟩)
     ·
      exact sq hfr (Fr.cons hfr.fr0 (hfr.at_ 4 4 65 _ rfl hd4)) hsh (r_ldb (i := 1) ti_3 rfl rfl rfl rfl) 5 rfl rfl rfl rfl rfl rfl fun a hg => Or.inr (Or.inl (⟨un rfl hw15, un rfl hw16, un rfl hw18, v7015, hg, hsh⟩))
     ·
      exact sq hfr (Fr.cons hfr.fr0 (hfr.at_ 4 4 65 _ rfl hd4)) hsh (r_ldb (i := 2) ti_3 rfl rfl rfl rfl) 5 rfl rfl rfl rfl rfl rfl fun a hg => Or.inr (Or.inr (Or.inl (⟨un rfl hw15, un rfl hw16, un rfl hw18, v7015, v7016, hg, hsh⟩)))
     ·
      exact no_way (cA hcl 18 5 rfl hw18) hSi
    ·
     obtain rfl : _ = o := Option.some.inj ho
     rcases hI with ⟨hw15, hw16, hw18, hfr, hsh⟩ | ⟨hw15, hw16, hw18, v7015, hfr, hsh⟩ | ⟨hw15, hw16, hw18, v7015, v7016, hfr, hsh⟩ | ⟨hw15, hw16, hw18, v7015, v7016, hfr, hsh⟩
     ·
      exact sq hfr hfr.fr0 hsh (r_move rfl rfl) 6 rfl rfl rfl rfl rfl rfl fun a hg => Or.inl (⟨un rfl hw15, un rfl hw16, un rfl hw18, hg, hsh⟩)
     ·
      exact sq hfr hfr.fr0 hsh (r_move rfl rfl) 6 rfl rfl rfl rfl rfl rfl fun a hg => Or.inr (Or.inl (⟨un rfl hw15, un rfl hw16, un rfl hw18, v7015, hg, hsh⟩))
     ·
      exact no_way (cA hcl 16 6 rfl hw16) hSi
     ·
      exact no_way (cA hcl 16 6 rfl hw16) hSi
    ·
     obtain rfl : _ = o := Option.some.inj ho
     have hd6 : S 6 = true := depAt hdep 0 rfl rfl
     rcases hI with ⟨hw15, hw16, hw18, hfr, hsh⟩ | ⟨hw15, hw16, hw18, v7015, hfr, hsh⟩ | ⟨hw15, hw16, hw18, v7015, v7016, hfr, hsh⟩ | ⟨hw15, hw16, hw18, v7015, v7016, hfr, hsh⟩
     ·
      exact sq hfr (Fr.cons hfr.fr0 (hfr.at_ 6 6 67 _ rfl hd6)) hsh (r_nil rfl rfl) 7 rfl rfl rfl rfl rfl rfl fun a hg => Or.inl (⟨un rfl hw15, un rfl hw16, un rfl hw18, hg, hsh⟩)
     ·
      exact sq hfr (Fr.cons hfr.fr0 (hfr.at_ 6 6 67 _ rfl hd6)) hsh (r_nil rfl rfl) 7 rfl rfl rfl rfl rfl rfl fun a hg => Or.inr (Or.inl (⟨un rfl hw15, un rfl hw16, un rfl hw18, v7015, hg, hsh⟩))
     ·
      exact no_way (cA hcl 16 7 rfl hw16) hSi
     ·
      exact no_way (cA hcl 16 7 rfl hw16) hSi
    ·
     obtain rfl : _ = o := Option.some.inj ho
     have hd7 : S 7 = true := depAt hdep 0 rfl rfl
     rcases hI with ⟨hw15, hw16, hw18, hfr, hsh⟩ | ⟨hw15, hw16, hw18, v7015, hfr, hsh⟩ | ⟨hw15, hw16, hw18, v7015, v7016, hfr, hsh⟩ | ⟨hw15, hw16, hw18, v7015, v7016, hfr, hsh⟩
     ·
      exact sq hfr (Fr.cons hfr.fr0 (hfr.at_ 7 7 68 _ rfl hd7)) hsh (r_fieldB (r := 0) fl_90_0 rfl rfl rfl) 8 rfl rfl rfl rfl rfl rfl fun a hg => Or.inl (⟨un rfl hw15, un rfl hw16, un rfl hw18, hg, hsh⟩)
     ·
      exact sq hfr (Fr.cons hfr.fr0 (hfr.at_ 7 7 68 _ rfl hd7)) hsh (r_fieldB (r := 0) fl_90_0 rfl rfl rfl) 8 rfl rfl rfl rfl rfl rfl fun a hg => Or.inr (Or.inl (⟨un rfl hw15, un rfl hw16, un rfl hw18, v7015, hg, hsh⟩))
     ·
      exact no_way (cA hcl 16 8 rfl hw16) hSi
     ·
      exact no_way (cA hcl 16 8 rfl hw16) hSi
    ·
     obtain rfl : _ = o := Option.some.inj ho
     have hd8 : S 8 = true := depAt hdep 0 rfl rfl
     rcases hI with ⟨hw15, hw16, hw18, hfr, hsh⟩ | ⟨hw15, hw16, hw18, v7015, hfr, hsh⟩ | ⟨hw15, hw16, hw18, v7015, v7016, hfr, hsh⟩ | ⟨hw15, hw16, hw18, v7015, v7016, hfr, hsh⟩
     ·
      exact sq hfr (Fr.cons hfr.fr0 (hfr.at_ 8 8 69 _ rfl hd8)) hsh (r_ldb (i := 1) ti_87 rfl rfl rfl rfl) 9 rfl rfl rfl rfl rfl rfl fun a hg => Or.inl (⟨un rfl hw15, un rfl hw16, un rfl hw18, hg, hsh⟩)
     ·
      exact sq hfr (Fr.cons hfr.fr0 (hfr.at_ 8 8 69 _ rfl hd8)) hsh (r_ldb (i := 2) ti_87 rfl rfl rfl rfl) 9 rfl rfl rfl rfl rfl rfl fun a hg => Or.inr (Or.inl (⟨un rfl hw15, un rfl hw16, un rfl hw18, v7015, hg, hsh⟩))
     ·
      exact no_way (cA hcl 16 9 rfl hw16) hSi
     ·
      exact no_way (cA hcl 16 9 rfl hw16) hSi
    ·
     obtain rfl : _ = o := Option.some.inj ho
     rcases hI with ⟨hw15, hw16, hw18, hfr, hsh⟩ | ⟨hw15, hw16, hw18, v7015, hfr, hsh⟩ | ⟨hw15, hw16, hw18, v7015, v7016, hfr, hsh⟩ | ⟨hw15, hw16, hw18, v7015, v7016, hfr, hsh⟩
     ·
      exact sq hfr hfr.fr0 hsh (r_fieldB (r := 0) fl_36_0 rfl rfl rfl) 10 rfl rfl rfl rfl rfl rfl fun a hg => Or.inl (⟨un rfl hw15, un rfl hw16, un rfl hw18, hg, hsh⟩)
     ·
      exact sq hfr hfr.fr0 hsh (r_fieldB (r := 0) fl_36_0 rfl rfl rfl) 10 rfl rfl rfl rfl rfl rfl fun a hg => Or.inr (Or.inl (⟨un rfl hw15, un rfl hw16, un rfl hw18, v7015, hg, hsh⟩))
     ·
      exact no_way (cA hcl 16 10 rfl hw16) hSi
     ·
      exact no_way (cA hcl 16 10 rfl hw16) hSi
    ·
     obtain rfl : _ = o := Option.some.inj ho
     have hd10 : S 10 = true := depAt hdep 0 rfl rfl
     rcases hI with ⟨hw15, hw16, hw18, hfr, hsh⟩ | ⟨hw15, hw16, hw18, v7015, hfr, hsh⟩ | ⟨hw15, hw16, hw18, v7015, v7016, hfr, hsh⟩ | ⟨hw15, hw16, hw18, v7015, v7016, hfr, hsh⟩
     ·
      exact sq hfr (Fr.cons hfr.fr0 (hfr.at_ 10 10 71 _ rfl hd10)) hsh (r_ldb (i := 0) ti_3 rfl rfl rfl rfl) 11 rfl rfl rfl rfl rfl rfl fun a hg => Or.inl (⟨un rfl hw15, un rfl hw16, un rfl hw18, hg, hsh⟩)
     ·
      exact sq hfr (Fr.cons hfr.fr0 (hfr.at_ 10 10 71 _ rfl hd10)) hsh (r_ldb (i := 1) ti_3 rfl rfl rfl rfl) 11 rfl rfl rfl rfl rfl rfl fun a hg => Or.inr (Or.inl (⟨un rfl hw15, un rfl hw16, un rfl hw18, v7015, hg, hsh⟩))
     ·
      exact no_way (cA hcl 16 11 rfl hw16) hSi
     ·
      exact no_way (cA hcl 16 11 rfl hw16) hSi
    ·
     obtain rfl : _ = o := Option.some.inj ho
     have hd9 : S 9 = true := depAt hdep 0 rfl rfl
     have hd11 : S 11 = true := depAt hdep 1 rfl rfl
     rcases hI with ⟨hw15, hw16, hw18, hfr, hsh⟩ | ⟨hw15, hw16, hw18, v7015, hfr, hsh⟩ | ⟨hw15, hw16, hw18, v7015, v7016, hfr, hsh⟩ | ⟨hw15, hw16, hw18, v7015, v7016, hfr, hsh⟩
     ·
      exact sq hfr (Fr.cons (Fr.cons hfr.fr0 (hfr.at_ 9 9 70 _ rfl hd9)) (hfr.at_ 11 11 72 _ rfl hd11)) hsh (r_ixI (s := (⟨v18, rvs M⟩ : Ls RV)) (q := (nth es.l i).op) sl_87 ti_37 rfl rfl rfl (fun w h => (h.matAt 3 rfl)) (by rw [rvs_len]; exact (show 0 ≤ (nth es.l i).op ∧ (nth es.l i).op < M.length from (by omega)))) 12 rfl rfl rfl rfl rfl rfl fun a hg => Or.inl (⟨un rfl hw15, un rfl hw16, un rfl hw18, hg, hsh⟩)
     ·
      exact sq hfr (Fr.cons (Fr.cons hfr.fr0 (hfr.at_ 9 9 70 _ rfl hd9)) (hfr.at_ 11 11 72 _ rfl hd11)) hsh (r_ixI (s := (⟨v18, rvs M⟩ : Ls RV)) (q := (nth es.l i).op) sl_87 ti_37 rfl rfl rfl (fun w h => (h.matAt 4 rfl)) (by rw [rvs_len]; exact (show 0 ≤ (nth es.l i).op ∧ (nth es.l i).op < M.length from (by omega)))) 12 rfl rfl rfl rfl rfl rfl fun a hg => Or.inr (Or.inl (⟨un rfl hw15, un rfl hw16, un rfl hw18, v7015, hg, hsh⟩))
     ·
      exact no_way (cA hcl 16 12 rfl hw16) hSi
     ·
      exact no_way (cA hcl 16 12 rfl hw16) hSi
    ·
     obtain rfl : _ = o := Option.some.inj ho
     have hd12 : S 12 = true := depAt hdep 0 rfl rfl
     rcases hI with ⟨hw15, hw16, hw18, hfr, hsh⟩ | ⟨hw15, hw16, hw18, v7015, hfr, hsh⟩ | ⟨hw15, hw16, hw18, v7015, v7016, hfr, hsh⟩ | ⟨hw15, hw16, hw18, v7015, v7016, hfr, hsh⟩
     ·
      exact sq hfr (Fr.cons hfr.fr0 (hfr.at_ 12 12 73 _ rfl hd12)) hsh (Rn.same (r_lde (s := (⟨v18, rvs M⟩ : Ls RV)) (i := ((nth es.l i).op).toNat) (v := (nth (rvs M) (((nth es.l i).op).toNat)).v) ti_37 rfl rfl rfl (fun w h => h.matAt 3 rfl) (by rw [rvs_len]; exact (show ((nth es.l i).op).toNat < M.length from (by omega))) (Nat.le_of_ble_eq_true rfl) rfl) (nth_rvs M (((nth es.l i).op).toNat))) 13 rfl rfl rfl rfl rfl rfl fun a hg => Or.inl (⟨un rfl hw15, un rfl hw16, un rfl hw18, hg, hsh⟩)
     ·
      exact sq hfr (Fr.cons hfr.fr0 (hfr.at_ 12 12 73 _ rfl hd12)) hsh (Rn.same (r_lde (s := (⟨v18, rvs M⟩ : Ls RV)) (i := ((nth es.l i).op).toNat) (v := (nth (rvs M) (((nth es.l i).op).toNat)).v) ti_37 rfl rfl rfl (fun w h => h.matAt 4 rfl) (by rw [rvs_len]; exact (show ((nth es.l i).op).toNat < M.length from (by omega))) (Nat.le_of_ble_eq_true rfl) rfl) (nth_rvs M (((nth es.l i).op).toNat))) 13 rfl rfl rfl rfl rfl rfl fun a hg => Or.inr (Or.inl (⟨un rfl hw15, un rfl hw16, un rfl hw18, v7015, hg, hsh⟩))
     ·
      exact no_way (cA hcl 16 13 rfl hw16) hSi
     ·
      exact no_way (cA hcl 16 13 rfl hw16) hSi
    ·
     obtain rfl : _ = o := Option.some.inj ho
     rcases hI with ⟨hw15, hw16, hw18, hfr, hsh⟩ | ⟨hw15, hw16, hw18, v7015, hfr, hsh⟩ | ⟨hw15, hw16, hw18, v7015, v7016, hfr, hsh⟩ | ⟨hw15, hw16, hw18, v7015, v7016, hfr, hsh⟩
     ·
      exact sq hfr hfr.fr0 hsh (r_ldbw (i := 0) (vs := [.int .i64 ((nth es.l i).op), .int .i64 ((nth es.l i).a), .int .i64 ((nth es.l i).b), .int .i64 ((nth es.l i).c)]) ti_36 rfl rfl rfl rfl rfl) 14 rfl rfl rfl rfl rfl rfl fun a hg => Or.inl (⟨un rfl hw15, un rfl hw16, un rfl hw18, hg, hsh⟩)
     ·
      exact no_way (cA hcl 15 14 rfl hw15) hSi
     ·
      exact no_way (cA hcl 15 14 rfl hw15) hSi
     ·
      exact no_way (cA hcl 15 14 rfl hw15) hSi
    ·
     obtain rfl : _ = o := Option.some.inj ho
     have hd14 : S 14 = true := depAt hdep 0 rfl rfl
     rcases hI with ⟨hw15, hw16, hw18, hfr, hsh⟩ | ⟨hw15, hw16, hw18, v7015, hfr, hsh⟩ | ⟨hw15, hw16, hw18, v7015, v7016, hfr, hsh⟩ | ⟨hw15, hw16, hw18, v7015, v7016, hfr, hsh⟩
     ·
      have hs := St.mk (Fr.cons hfr.fr0 (hfr.at_ 14 14 75 _ rfl hd14)) hsh
      refine step_ex (x_lit (n := 1) (cs := [.int .i64 ((nth es.l i).op), .int .i64 ((nth es.l i).a), .int .i64 ((nth es.l i).b), .int .i64 ((nth es.l i).c)]) ([(nth es.l i)] : List Ins) hs sl_37 ti_36 rfl rfl rfl (by decide) rfl (by kernel_rfl) rfl (fun q hq w h => Flat.inner _ _) (fun q hq b hb => (Flat.on _ _ hb).elim) rfl rfl) (wanted_none rfl _) ?_
      rintro a113 w113 ⟨v113, h113⟩ ⟨v0, ht113⟩
      have hm113 : FrI 86 S [(0, ws.v), (5, .pointer (some ⟨b4, 0, none⟩)), (6, .pointer (some ⟨b22, 0, none⟩)), (7, .int .i64 ((i : Nat) : Int)), (8, .pointer (some ⟨b39, 0, none⟩)), (22, es.v), (23, .int .i64 ((es.l.length : Nat) : Int)), (24, .int .i64 ((i : Nat) : Int)), (58, .bool (decide ((nth es.l i).b ≠ 2)))] [(0, 61, .pointer (some ⟨b22, 0, none⟩)), (1, 62, .pointer (some ⟨b22, 0, none⟩)), (2, 63, .pointer (some ⟨b22, 0, none⟩)), (3, 64, v18), (4, 65, .pointer (some ⟨b39, 0, none⟩)), (5, 66, .int .i64 ((nth es.l i).op)), (6, 67, .pointer (some ⟨b22, 0, none⟩)), (7, 68, .pointer (some ⟨b22, 0, none⟩)), (8, 69, .pointer (some ⟨b22, 0, none⟩)), (9, 70, v18), (10, 71, .pointer (some ⟨b39, 0, none⟩)), (11, 72, .int .i64 ((nth es.l i).op)), (12, 73, .pointer (some (padr v18 1 (((nth es.l i).op).toNat) 0))), (13, 74, (nth M (((nth es.l i).op).toNat)).v), (14, 75, .agg #[.int .i64 ((nth es.l i).op), .int .i64 ((nth es.l i).a), .int .i64 ((nth es.l i).b), .int .i64 ((nth es.l i).c)]), (15, 76, v113)] a := hfr.more (by
       intro k j d v hk hS
       rcases k with _ | _ | _ | _ | _ | _ | _ | _ | _ | _ | _ | _ | _ | _ | _ | _ | k
       ·obtain ⟨rfl, rfl, rfl⟩ : _ = j ∧ _ = d ∧ _ = v := by simpa using hk
        exact hfr.at_ 0 _ _ _ rfl hS
       ·obtain ⟨rfl, rfl, rfl⟩ : _ = j ∧ _ = d ∧ _ = v := by simpa using hk
        exact hfr.at_ 1 _ _ _ rfl hS
       ·obtain ⟨rfl, rfl, rfl⟩ : _ = j ∧ _ = d ∧ _ = v := by simpa using hk
        exact hfr.at_ 2 _ _ _ rfl hS
       ·obtain ⟨rfl, rfl, rfl⟩ : _ = j ∧ _ = d ∧ _ = v := by simpa using hk
        exact hfr.at_ 3 _ _ _ rfl hS
       ·obtain ⟨rfl, rfl, rfl⟩ : _ = j ∧ _ = d ∧ _ = v := by simpa using hk
        exact hfr.at_ 4 _ _ _ rfl hS
       ·obtain ⟨rfl, rfl, rfl⟩ : _ = j ∧ _ = d ∧ _ = v := by simpa using hk
        exact hfr.at_ 5 _ _ _ rfl hS
       ·obtain ⟨rfl, rfl, rfl⟩ : _ = j ∧ _ = d ∧ _ = v := by simpa using hk
        exact hfr.at_ 6 _ _ _ rfl hS
       ·obtain ⟨rfl, rfl, rfl⟩ : _ = j ∧ _ = d ∧ _ = v := by simpa using hk
        exact hfr.at_ 7 _ _ _ rfl hS
       ·obtain ⟨rfl, rfl, rfl⟩ : _ = j ∧ _ = d ∧ _ = v := by simpa using hk
        exact hfr.at_ 8 _ _ _ rfl hS
       ·obtain ⟨rfl, rfl, rfl⟩ : _ = j ∧ _ = d ∧ _ = v := by simpa using hk
        exact hfr.at_ 9 _ _ _ rfl hS
       ·obtain ⟨rfl, rfl, rfl⟩ : _ = j ∧ _ = d ∧ _ = v := by simpa using hk
        exact hfr.at_ 10 _ _ _ rfl hS
       ·obtain ⟨rfl, rfl, rfl⟩ : _ = j ∧ _ = d ∧ _ = v := by simpa using hk
        exact hfr.at_ 11 _ _ _ rfl hS
       ·obtain ⟨rfl, rfl, rfl⟩ : _ = j ∧ _ = d ∧ _ = v := by simpa using hk
        exact hfr.at_ 12 _ _ _ rfl hS
       ·obtain ⟨rfl, rfl, rfl⟩ : _ = j ∧ _ = d ∧ _ = v := by simpa using hk
        exact hfr.at_ 13 _ _ _ rfl hS
       ·obtain ⟨rfl, rfl, rfl⟩ : _ = j ∧ _ = d ∧ _ = v := by simpa using hk
        exact hfr.at_ 14 _ _ _ rfl hS
       ·obtain ⟨rfl, rfl, rfl⟩ : _ = j ∧ _ = d ∧ _ = v := by simpa using hk
        exact no_way hS hSi
       · simp at hk)
      exact Or.inr (Or.inl (⟨upd_self _ _, un rfl hw16, un rfl hw18, v113, hm113.step ht113 h113.fr.defers (h113.fr.at_ 76 _ rfl) 15 rfl rfl rfl rfl, (h113.sh.sel (L' := [.own 36 (⟨v113, [(nth es.l i)]⟩ : Ls Ins), .blk b39 36 [.int .i64 ((nth es.l i).op), .int .i64 ((nth es.l i).a), .int .i64 ((nth es.l i).b), .int .i64 ((nth es.l i).c)], .blk b22 90 [v18, .map (some g19)], .big (seenX 24 g19 ([] : List (List Nat × Ls (Ls Int)))), .big (matX (.own 36) 37 v18 M), .blk b4 31 [.int .i64 0, .int .i64 0, .int .i64 0], .at_ ws, .at_ es]) [0, 1, 2, 3, 4, 5, 6, 7] (by decide) ⟨rfl, rfl, rfl, rfl, rfl, rfl, rfl, rfl, trivial⟩)⟩))
     ·
      exact no_way hw15 hSi
     ·
      exact no_way hw15 hSi
     ·
      exact no_way hw15 hSi
    ·
     obtain rfl : _ = o := Option.some.inj ho
     have hd13 : S 13 = true := depAt hdep 0 rfl rfl
     have hd15 : S 15 = true := depAt hdep 1 rfl rfl
     rcases hI with ⟨hw15, hw16, hw18, hfr, hsh⟩ | ⟨hw15, hw16, hw18, v7015, hfr, hsh⟩ | ⟨hw15, hw16, hw18, v7015, v7016, hfr, hsh⟩ | ⟨hw15, hw16, hw18, v7015, v7016, hfr, hsh⟩
     ·
      exact no_way hd15 hw15
     ·
      have hs := St.mk (Fr.cons (Fr.cons hfr.fr0 (hfr.at_ 13 13 74 _ rfl hd13)) (hfr.at_ 15 15 76 _ rfl hd15)) hsh
      refine step_ex (x_appMat (i := (((nth es.l i).op).toNat)) (r := 4) (rm := 0) (m := (⟨v7015, [(nth es.l i)]⟩ : Ls Ins)) hs sl_37 ti_36 rfl rfl rfl rfl (show ((nth es.l i).op).toNat < M.length from (by omega)) rfl rfl rfl (fun w h => (h.own 0 rfl)) (fun b hb => own_on (hs.sh.ok _ (List.mem_of_getElem? (i := 0) rfl)) hb) rfl rfl rfl inferInstance (show (((nth M (((nth es.l i).op).toNat)).l).length + ([(nth es.l i)]).length) * 32 ≤ 140737488355328 ∧ ((nth M (((nth es.l i).op).toNat)).l).length + ([(nth es.l i)]).length ≤ 140737488355328 from (by first | omega | (simp only [lens9]; omega))) rfl rfl) (wanted_none rfl _) ?_
      rintro a114 w114 ⟨v114, h114⟩ ⟨v0, ht114⟩
      have hm114 : FrI 86 S [(0, ws.v), (5, .pointer (some ⟨b4, 0, none⟩)), (6, .pointer (some ⟨b22, 0, none⟩)), (7, .int .i64 ((i : Nat) : Int)), (8, .pointer (some ⟨b39, 0, none⟩)), (22, es.v), (23, .int .i64 ((es.l.length : Nat) : Int)), (24, .int .i64 ((i : Nat) : Int)), (58, .bool (decide ((nth es.l i).b ≠ 2)))] [(0, 61, .pointer (some ⟨b22, 0, none⟩)), (1, 62, .pointer (some ⟨b22, 0, none⟩)), (2, 63, .pointer (some ⟨b22, 0, none⟩)), (3, 64, v18), (4, 65, .pointer (some ⟨b39, 0, none⟩)), (5, 66, .int .i64 ((nth es.l i).op)), (6, 67, .pointer (some ⟨b22, 0, none⟩)), (7, 68, .pointer (some ⟨b22, 0, none⟩)), (8, 69, .pointer (some ⟨b22, 0, none⟩)), (9, 70, v18), (10, 71, .pointer (some ⟨b39, 0, none⟩)), (11, 72, .int .i64 ((nth es.l i).op)), (12, 73, .pointer (some (padr v18 1 (((nth es.l i).op).toNat) 0))), (13, 74, (nth M (((nth es.l i).op).toNat)).v), (14, 75, .agg #[.int .i64 ((nth es.l i).op), .int .i64 ((nth es.l i).a), .int .i64 ((nth es.l i).b), .int .i64 ((nth es.l i).c)]), (15, 76, v7015), (16, 77, v114), (17, 78, .pointer (some (padr v18 1 (((nth es.l i).op).toNat) 0)))] a := hfr.more (by
       intro k j d v hk hS
       rcases k with _ | _ | _ | _ | _ | _ | _ | _ | _ | _ | _ | _ | _ | _ | _ | _ | _ | _ | k
       ·obtain ⟨rfl, rfl, rfl⟩ : _ = j ∧ _ = d ∧ _ = v := by simpa using hk
        exact hfr.at_ 0 _ _ _ rfl hS
       ·obtain ⟨rfl, rfl, rfl⟩ : _ = j ∧ _ = d ∧ _ = v := by simpa using hk
        exact hfr.at_ 1 _ _ _ rfl hS
       ·obtain ⟨rfl, rfl, rfl⟩ : _ = j ∧ _ = d ∧ _ = v := by simpa using hk
        exact hfr.at_ 2 _ _ _ rfl hS
       ·obtain ⟨rfl, rfl, rfl⟩ : _ = j ∧ _ = d ∧ _ = v := by simpa using hk
        exact hfr.at_ 3 _ _ _ rfl hS
       ·obtain ⟨rfl, rfl, rfl⟩ : _ = j ∧ _ = d ∧ _ = v := by simpa using hk
        exact hfr.at_ 4 _ _ _ rfl hS
       ·obtain ⟨rfl, rfl, rfl⟩ : _ = j ∧ _ = d ∧ _ = v := by simpa using hk
        exact hfr.at_ 5 _ _ _ rfl hS
       ·obtain ⟨rfl, rfl, rfl⟩ : _ = j ∧ _ = d ∧ _ = v := by simpa using hk
        exact hfr.at_ 6 _ _ _ rfl hS
       ·obtain ⟨rfl, rfl, rfl⟩ : _ = j ∧ _ = d ∧ _ = v := by simpa using hk
        exact hfr.at_ 7 _ _ _ rfl hS
       ·obtain ⟨rfl, rfl, rfl⟩ : _ = j ∧ _ = d ∧ _ = v := by simpa using hk
        exact hfr.at_ 8 _ _ _ rfl hS
       ·obtain ⟨rfl, rfl, rfl⟩ : _ = j ∧ _ = d ∧ _ = v := by simpa using hk
        exact hfr.at_ 9 _ _ _ rfl hS
       ·obtain ⟨rfl, rfl, rfl⟩ : _ = j ∧ _ = d ∧ _ = v := by simpa using hk
        exact hfr.at_ 10 _ _ _ rfl hS
       ·obtain ⟨rfl, rfl, rfl⟩ : _ = j ∧ _ = d ∧ _ = v := by simpa using hk
        exact hfr.at_ 11 _ _ _ rfl hS
       ·obtain ⟨rfl, rfl, rfl⟩ : _ = j ∧ _ = d ∧ _ = v := by simpa using hk
        exact hfr.at_ 12 _ _ _ rfl hS
       ·obtain ⟨rfl, rfl, rfl⟩ : _ = j ∧ _ = d ∧ _ = v := by simpa using hk
        exact hfr.at_ 13 _ _ _ rfl hS
       ·obtain ⟨rfl, rfl, rfl⟩ : _ = j ∧ _ = d ∧ _ = v := by simpa using hk
        exact hfr.at_ 14 _ _ _ rfl hS
       ·obtain ⟨rfl, rfl, rfl⟩ : _ = j ∧ _ = d ∧ _ = v := by simpa using hk
        exact hfr.at_ 15 _ _ _ rfl hS
       ·obtain ⟨rfl, rfl, rfl⟩ : _ = j ∧ _ = d ∧ _ = v := by simpa using hk
        exact no_way hS hSi
       ·obtain ⟨rfl, rfl, rfl⟩ : _ = j ∧ _ = d ∧ _ = v := by simpa using hk
        exact no_way (cA hcl 17 16 rfl hS) hSi
       · simp at hk)
      exact Or.inr (Or.inr (Or.inl (⟨un rfl hw15, upd_self _ _, un rfl hw18, v7015, v114, hm114.step ht114 h114.fr.defers (h114.fr.at_ 77 _ rfl) 16 rfl rfl rfl rfl, (h114.sh.sel (L' := [.own 36 (⟨v114, (nth M (((nth es.l i).op).toNat)).l ++ ([(nth es.l i)])⟩ : Ls Ins), .own 36 (⟨v7015, [(nth es.l i)]⟩ : Ls Ins), .blk b39 36 [.int .i64 ((nth es.l i).op), .int .i64 ((nth es.l i).a), .int .i64 ((nth es.l i).b), .int .i64 ((nth es.l i).c)], .blk b22 90 [v18, .map (some g19)], .big (seenX 24 g19 ([] : List (List Nat × Ls (Ls Int)))), .big (holeX (.own 36) 37 v18 M (((nth es.l i).op).toNat)), .blk b4 31 [.int .i64 0, .int .i64 0, .int .i64 0], .at_ ws, .at_ es]) [0, 1, 2, 3, 4, 5, 6, 7, 8] (by decide) ⟨rfl, rfl, rfl, rfl, rfl, rfl, rfl, rfl, rfl, trivial⟩)⟩)))
     ·
      exact no_way hw16 hSi
     ·
      exact no_way hw16 hSi
    ·
     obtain rfl : _ = o := Option.some.inj ho
     have hd3 : S 3 = true := depAt hdep 0 rfl rfl
     have hd5 : S 5 = true := depAt hdep 1 rfl rfl
     have hd15 : S 15 = true := depAt hdep 17 rfl rfl
     have hd16 : S 16 = true := depAt hdep 18 rfl rfl
     rcases hI with ⟨hw15, hw16, hw18, hfr, hsh⟩ | ⟨hw15, hw16, hw18, v7015, hfr, hsh⟩ | ⟨hw15, hw16, hw18, v7015, v7016, hfr, hsh⟩ | ⟨hw15, hw16, hw18, v7015, v7016, hfr, hsh⟩
     ·
      exact no_way hd15 hw15
     ·
      exact no_way hd16 hw16
     ·
      exact sq hfr (Fr.cons (Fr.cons hfr.fr0 (hfr.at_ 3 3 64 _ rfl hd3)) (hfr.at_ 5 5 66 _ rfl hd5)) hsh (r_ixI (s := (⟨v18, rvs M⟩ : Ls RV)) (q := (nth es.l i).op) sl_87 ti_37 rfl rfl rfl (fun w h => (h.holeAt 5 rfl)) (by rw [rvs_len]; exact (show 0 ≤ (nth es.l i).op ∧ (nth es.l i).op < M.length from (by omega)))) 17 rfl rfl rfl rfl rfl rfl fun a hg => Or.inr (Or.inr (Or.inl (⟨un rfl hw15, un rfl hw16, un rfl hw18, v7015, v7016, hg, hsh⟩)))
     ·
      exact no_way (cA hcl 18 17 rfl hw18) hSi
    ·
     obtain rfl : _ = o := Option.some.inj ho
     have hd17 : S 17 = true := depAt hdep 0 rfl rfl
     have hd16 : S 16 = true := depAt hdep 1 rfl rfl
     have hd15 : S 15 = true := depAt hdep 18 rfl rfl
     rcases hI with ⟨hw15, hw16, hw18, hfr, hsh⟩ | ⟨hw15, hw16, hw18, v7015, hfr, hsh⟩ | ⟨hw15, hw16, hw18, v7015, v7016, hfr, hsh⟩ | ⟨hw15, hw16, hw18, v7015, v7016, hfr, hsh⟩
     ·
      exact no_way hd15 hw15
     ·
      exact no_way hd16 hw16
     ·
      have hs := St.mk (Fr.cons (Fr.cons hfr.fr0 (hfr.at_ 16 16 77 _ rfl hd16)) (hfr.at_ 17 17 78 _ rfl hd17)) hsh
      refine step_ex (x_stHole (i := ((nth es.l i).op).toNat) (r := 4) (s := (⟨v7016, (nth M (((nth es.l i).op).toNat)).l ++ ([(nth es.l i)])⟩ : Ls Ins)) hs ti_37 rfl rfl rfl rfl rfl (show ((nth es.l i).op).toNat < M.length from (by omega)) (hs.sh.own 0 rfl)) (wanted_none rfl _) ?_
      rintro a116 w116 h116 ⟨v0, ht116⟩
      have hm116 : FrI 86 S [(0, ws.v), (5, .pointer (some ⟨b4, 0, none⟩)), (6, .pointer (some ⟨b22, 0, none⟩)), (7, .int .i64 ((i : Nat) : Int)), (8, .pointer (some ⟨b39, 0, none⟩)), (22, es.v), (23, .int .i64 ((es.l.length : Nat) : Int)), (24, .int .i64 ((i : Nat) : Int)), (58, .bool (decide ((nth es.l i).b ≠ 2)))] [(0, 61, .pointer (some ⟨b22, 0, none⟩)), (1, 62, .pointer (some ⟨b22, 0, none⟩)), (2, 63, .pointer (some ⟨b22, 0, none⟩)), (3, 64, v18), (4, 65, .pointer (some ⟨b39, 0, none⟩)), (5, 66, .int .i64 ((nth es.l i).op)), (6, 67, .pointer (some ⟨b22, 0, none⟩)), (7, 68, .pointer (some ⟨b22, 0, none⟩)), (8, 69, .pointer (some ⟨b22, 0, none⟩)), (9, 70, v18), (10, 71, .pointer (some ⟨b39, 0, none⟩)), (11, 72, .int .i64 ((nth es.l i).op)), (12, 73, .pointer (some (padr v18 1 (((nth es.l i).op).toNat) 0))), (13, 74, (nth M (((nth es.l i).op).toNat)).v), (14, 75, .agg #[.int .i64 ((nth es.l i).op), .int .i64 ((nth es.l i).a), .int .i64 ((nth es.l i).b), .int .i64 ((nth es.l i).c)]), (15, 76, v7015), (16, 77, v7016), (17, 78, .pointer (some (padr v18 1 (((nth es.l i).op).toNat) 0)))] a := hfr.more (by
       intro k j d v hk hS
       rcases k with _ | _ | _ | _ | _ | _ | _ | _ | _ | _ | _ | _ | _ | _ | _ | _ | _ | _ | k
       ·obtain ⟨rfl, rfl, rfl⟩ : _ = j ∧ _ = d ∧ _ = v := by simpa using hk
        exact hfr.at_ 0 _ _ _ rfl hS
       ·obtain ⟨rfl, rfl, rfl⟩ : _ = j ∧ _ = d ∧ _ = v := by simpa using hk
        exact hfr.at_ 1 _ _ _ rfl hS
       ·obtain ⟨rfl, rfl, rfl⟩ : _ = j ∧ _ = d ∧ _ = v := by simpa using hk
        exact hfr.at_ 2 _ _ _ rfl hS
       ·obtain ⟨rfl, rfl, rfl⟩ : _ = j ∧ _ = d ∧ _ = v := by simpa using hk
        exact hfr.at_ 3 _ _ _ rfl hS
       ·obtain ⟨rfl, rfl, rfl⟩ : _ = j ∧ _ = d ∧ _ = v := by simpa using hk
        exact hfr.at_ 4 _ _ _ rfl hS
       ·obtain ⟨rfl, rfl, rfl⟩ : _ = j ∧ _ = d ∧ _ = v := by simpa using hk
        exact hfr.at_ 5 _ _ _ rfl hS
       ·obtain ⟨rfl, rfl, rfl⟩ : _ = j ∧ _ = d ∧ _ = v := by simpa using hk
        exact hfr.at_ 6 _ _ _ rfl hS
       ·obtain ⟨rfl, rfl, rfl⟩ : _ = j ∧ _ = d ∧ _ = v := by simpa using hk
        exact hfr.at_ 7 _ _ _ rfl hS
       ·obtain ⟨rfl, rfl, rfl⟩ : _ = j ∧ _ = d ∧ _ = v := by simpa using hk
        exact hfr.at_ 8 _ _ _ rfl hS
       ·obtain ⟨rfl, rfl, rfl⟩ : _ = j ∧ _ = d ∧ _ = v := by simpa using hk
        exact hfr.at_ 9 _ _ _ rfl hS
       ·obtain ⟨rfl, rfl, rfl⟩ : _ = j ∧ _ = d ∧ _ = v := by simpa using hk
        exact hfr.at_ 10 _ _ _ rfl hS
       ·obtain ⟨rfl, rfl, rfl⟩ : _ = j ∧ _ = d ∧ _ = v := by simpa using hk
        exact hfr.at_ 11 _ _ _ rfl hS
       ·obtain ⟨rfl, rfl, rfl⟩ : _ = j ∧ _ = d ∧ _ = v := by simpa using hk
        exact hfr.at_ 12 _ _ _ rfl hS
       ·obtain ⟨rfl, rfl, rfl⟩ : _ = j ∧ _ = d ∧ _ = v := by simpa using hk
        exact hfr.at_ 13 _ _ _ rfl hS
       ·obtain ⟨rfl, rfl, rfl⟩ : _ = j ∧ _ = d ∧ _ = v := by simpa using hk
        exact hfr.at_ 14 _ _ _ rfl hS
       ·obtain ⟨rfl, rfl, rfl⟩ : _ = j ∧ _ = d ∧ _ = v := by simpa using hk
        exact hfr.at_ 15 _ _ _ rfl hS
       ·obtain ⟨rfl, rfl, rfl⟩ : _ = j ∧ _ = d ∧ _ = v := by simpa using hk
        exact hfr.at_ 16 _ _ _ rfl hS
       ·obtain ⟨rfl, rfl, rfl⟩ : _ = j ∧ _ = d ∧ _ = v := by simpa using hk
        exact hfr.at_ 17 _ _ _ rfl hS
       · simp at hk)
      exact Or.inr (Or.inr (Or.inr (⟨un rfl hw15, un rfl hw16, upd_self _ _, v7015, v7016, hm116.none ht116 h116.fr.defers rfl, (h116.sh.sel (L' := [.own 36 (⟨v7015, [(nth es.l i)]⟩ : Ls Ins), .blk b39 36 [.int .i64 ((nth es.l i).op), .int .i64 ((nth es.l i).a), .int .i64 ((nth es.l i).b), .int .i64 ((nth es.l i).c)], .blk b22 90 [v18, .map (some g19)], .big (seenX 24 g19 ([] : List (List Nat × Ls (Ls Int)))), .big (matX (.own 36) 37 v18 (M.set (((nth es.l i).op).toNat) (⟨v7016, (nth M (((nth es.l i).op).toNat)).l ++ ([(nth es.l i)])⟩ : Ls Ins))), .blk b4 31 [.int .i64 0, .int .i64 0, .int .i64 0], .at_ ws, .at_ es]) [0, 1, 2, 3, 4, 5, 6, 7] (by decide) ⟨rfl, rfl, rfl, rfl, rfl, rfl, rfl, rfl, trivial⟩)⟩)))
     ·
      exact no_way hw18 hSi
    · simp at ho
   intro S hall a w hI
   clear h76
   rcases hI with ⟨hw15, hw16, hw18, hfr, hsh⟩ | ⟨hw15, hw16, hw18, v7015, hfr, hsh⟩ | ⟨hw15, hw16, hw18, v7015, v7016, hfr, hsh⟩ | ⟨hw15, hw16, hw18, v7015, v7016, hfr, hsh⟩
   · exact no_way (hall 15 (by decide)) hw15
   · exact no_way (hall 16 (by decide)) hw16
   · exact no_way (hall 18 (by decide)) hw18
   have h117 : St 86 (fun _ => False) W a w _ [.own 36 (⟨v7015, [(nth es.l i)]⟩ : Ls Ins), .blk b39 36 [.int .i64 ((nth es.l i).op), .int .i64 ((nth es.l i).a), .int .i64 ((nth es.l i).b), .int .i64 ((nth es.l i).c)], .blk b22 90 [v18, .map (some g19)], .big (seenX 24 g19 ([] : List (List Nat × Ls (Ls Int)))), .big (matX (.own 36) 37 v18 (M.set (((nth es.l i).op).toNat) (⟨v7016, (nth M (((nth es.l i).op).toNat)).l ++ ([(nth es.l i)])⟩ : Ls Ins))), .blk b4 31 [.int .i64 0, .int .i64 0, .int .i64 0], .at_ ws, .at_ es] := ⟨hfr.fr0, hsh⟩
   clear hall hfr hsh hw15 hw16 hw18
   refine hK34 _ _ ?_
   refine wp_region_lit ?_
   refine wv h117 (r_addN (p := i) (q := 1) rfl rfl rfl (show i + 1 < 9223372036854775808 from (by omega))) rfl rfl fun a118 h118 => ?_; clear h117
   refine wms 1 h118 rfl fun a119 h119 => ?_; clear h118
   refine wpList_nil ?_
   refine x_again ⟨_, ?_, i + 1, M.set (((nth es.l i).op).toNat) (⟨v7016, (nth M (((nth es.l i).op).toNat)).l ++ ([(nth es.l i)])⟩ : Ls Ins), ?_, ?_, ?_, ?_, h119.nrm ⟨rfl, rfl, rfl, rfl, rfl, rfl, trivial⟩ [2, 3, 4, 5, 6, 7] (by decide) ⟨rfl, rfl, rfl, rfl, rfl, rfl, trivial⟩, rfl⟩
   · rw [hm29]; first | omega | (simp only [lens9]; omega)
   · omega
   · rw [List.length_set]; exact hM
   · exact rows_next hM (by omega) (by omega) hrows0
   · exact lens_next (by omega) hlen0
  have hp69 : ¬ ((nth es.l i).b ≠ 1) := of_decide_eq_false hb69
  refine wl_skip h68 (wanted_no h68.fr rfl rfl rfl rfl hb69) rfl rfl fun a120 h120 => ?_; clear h68
  refine wl_skip h120 (wanted_no h120.fr rfl rfl rfl rfl hb69) rfl rfl fun a121 h121 => ?_; clear h120
  refine wl_skip h121 (wanted_no h121.fr rfl rfl rfl rfl hb69) rfl rfl fun a122 h122 => ?_; clear h121
  refine wl_val h122 (r_pickF rfl rfl hb69 rfl) (wanted_yes h122.fr rfl rfl rfl rfl (decide_eq_false (by omega))) rfl rfl fun a123 h123 => ?_; clear h122
  refine wv h123 (r_pickF rfl rfl (decide_eq_false (by omega)) rfl) rfl rfl fun a124 h124 => ?_; clear h123
  refine wpList_nil (hK43 _ _ ?_)
  have h125 : St 86 (fun _ => False) W a124 w41 [(0, ws.v), (5, .pointer (some ⟨b4, 0, none⟩)), (6, .pointer (some ⟨b22, 0, none⟩)), (7, .int .i64 ((i : Nat) : Int)), (8, .pointer (some ⟨b39, 0, none⟩)), (22, es.v), (23, .int .i64 ((es.l.length : Nat) : Int)), (24, .int .i64 ((i : Nat) : Int)), (58, .bool false)] [.blk b39 36 [.int .i64 ((nth es.l i).op), .int .i64 ((nth es.l i).a), .int .i64 ((nth es.l i).b), .int .i64 ((nth es.l i).c)], .blk b22 90 [v18, .map (some g19)], .big (seenX 24 g19 ([] : List (List Nat × Ls (Ls Int)))), .big (matX (.own 36) 37 v18 M), .blk b4 31 [.int .i64 0, .int .i64 0, .int .i64 0], .at_ ws, .at_ es] := h124.nrm ⟨rfl, rfl, rfl, rfl, rfl, rfl, rfl, rfl, rfl, trivial⟩ [0, 1, 2, 3, 4, 5, 6] (by decide) ⟨rfl, rfl, rfl, rfl, rfl, rfl, rfl, trivial⟩
  clear h124
  refine x_condF h125 rfl rfl ?_
  refine wp_skip ?_
  refine hK42 _ _ ?_
  have hlq := hlen0 (nth es.l i).op.toNat (by omega)
  have h126 : St 86 (fun _ => False) W a124 w41 [(0, ws.v), (5, .pointer (some ⟨b4, 0, none⟩)), (6, .pointer (some ⟨b22, 0, none⟩)), (7, .int .i64 ((i : Nat) : Int)), (8, .pointer (some ⟨b39, 0, none⟩)), (22, es.v), (23, .int .i64 ((es.l.length : Nat) : Int)), (24, .int .i64 ((i : Nat) : Int)), (58, .bool false)] [.blk b39 36 [.int .i64 ((nth es.l i).op), .int .i64 ((nth es.l i).a), .int .i64 ((nth es.l i).b), .int .i64 ((nth es.l i).c)], .blk b22 90 [v18, .map (some g19)], .big (seenX 24 g19 ([] : List (List Nat × Ls (Ls Int)))), .big (matX (.own 36) 37 v18 M), .blk b4 31 [.int .i64 0, .int .i64 0, .int .i64 0], .at_ ws, .at_ es] := h125.nrm ⟨rfl, rfl, rfl, rfl, rfl, rfl, rfl, rfl, rfl, trivial⟩ [0, 1, 2, 3, 4, 5, 6] (by decide) ⟨rfl, rfl, rfl, rfl, rfl, rfl, rfl, trivial⟩
  clear h125
  refine x_any (fun S a w => (S 15 = false ∧ S 16 = false ∧ S 18 = false ∧ FrI 86 S [(0, ws.v), (5, .pointer (some ⟨b4, 0, none⟩)), (6, .pointer (some ⟨b22, 0, none⟩)), (7, .int .i64 ((i : Nat) : Int)), (8, .pointer (some ⟨b39, 0, none⟩)), (22, es.v), (23, .int .i64 ((es.l.length : Nat) : Int)), (24, .int .i64 ((i : Nat) : Int)), (58, .bool false)] [(0, 61, .pointer (some ⟨b22, 0, none⟩)), (1, 62, .pointer (some ⟨b22, 0, none⟩)), (2, 63, .pointer (some ⟨b22, 0, none⟩)), (3, 64, v18), (4, 65, .pointer (some ⟨b39, 0, none⟩)), (5, 66, .int .i64 ((nth es.l i).op)), (6, 67, .pointer (some ⟨b22, 0, none⟩)), (7, 68, .pointer (some ⟨b22, 0, none⟩)), (8, 69, .pointer (some ⟨b22, 0, none⟩)), (9, 70, v18), (10, 71, .pointer (some ⟨b39, 0, none⟩)), (11, 72, .int .i64 ((nth es.l i).op)), (12, 73, .pointer (some (padr v18 1 (((nth es.l i).op).toNat) 0))), (13, 74, (nth M (((nth es.l i).op).toNat)).v), (14, 75, .agg #[.int .i64 ((nth es.l i).op), .int .i64 ((nth es.l i).a), .int .i64 ((nth es.l i).b), .int .i64 ((nth es.l i).c)])] a ∧ Sh (fun _ => False) W w [.blk b39 36 [.int .i64 ((nth es.l i).op), .int .i64 ((nth es.l i).a), .int .i64 ((nth es.l i).b), .int .i64 ((nth es.l i).c)], .blk b22 90 [v18, .map (some g19)], .big (seenX 24 g19 ([] : List (List Nat × Ls (Ls Int)))), .big (matX (.own 36) 37 v18 M), .blk b4 31 [.int .i64 0, .int .i64 0, .int .i64 0], .at_ ws, .at_ es]) ∨ (S 15 = true ∧ S 16 = false ∧ S 18 = false ∧ ∃ (v7015 : Value), FrI 86 S [(0, ws.v), (5, .pointer (some ⟨b4, 0, none⟩)), (6, .pointer (some ⟨b22, 0, none⟩)), (7, .int .i64 ((i : Nat) : Int)), (8, .pointer (some ⟨b39, 0, none⟩)), (22, es.v), (23, .int .i64 ((es.l.length : Nat) : Int)), (24, .int .i64 ((i : Nat) : Int)), (58, .bool false)] [(0, 61, .pointer (some ⟨b22, 0, none⟩)), (1, 62, .pointer (some ⟨b22, 0, none⟩)), (2, 63, .pointer (some ⟨b22, 0, none⟩)), (3, 64, v18), (4, 65, .pointer (some ⟨b39, 0, none⟩)), (5, 66, .int .i64 ((nth es.l i).op)), (6, 67, .pointer (some ⟨b22, 0, none⟩)), (7, 68, .pointer (some ⟨b22, 0, none⟩)), (8, 69, .pointer (some ⟨b22, 0, none⟩)), (9, 70, v18), (10, 71, .pointer (some ⟨b39, 0, none⟩)), (11, 72, .int .i64 ((nth es.l i).op)), (12, 73, .pointer (some (padr v18 1 (((nth es.l i).op).toNat) 0))), (13, 74, (nth M (((nth es.l i).op).toNat)).v), (14, 75, .agg #[.int .i64 ((nth es.l i).op), .int .i64 ((nth es.l i).a), .int .i64 ((nth es.l i).b), .int .i64 ((nth es.l i).c)]), (15, 76, v7015)] a ∧ Sh (fun _ => False) W w [.own 36 (⟨v7015, [(nth es.l i)]⟩ : Ls Ins), .blk b39 36 [.int .i64 ((nth es.l i).op), .int .i64 ((nth es.l i).a), .int .i64 ((nth es.l i).b), .int .i64 ((nth es.l i).c)], .blk b22 90 [v18, .map (some g19)], .big (seenX 24 g19 ([] : List (List Nat × Ls (Ls Int)))), .big (matX (.own 36) 37 v18 M), .blk b4 31 [.int .i64 0, .int .i64 0, .int .i64 0], .at_ ws, .at_ es]) ∨ (S 15 = true ∧ S 16 = true ∧ S 18 = false ∧ ∃ (v7015 : Value) (v7016 : Value), FrI 86 S [(0, ws.v), (5, .pointer (some ⟨b4, 0, none⟩)), (6, .pointer (some ⟨b22, 0, none⟩)), (7, .int .i64 ((i : Nat) : Int)), (8, .pointer (some ⟨b39, 0, none⟩)), (22, es.v), (23, .int .i64 ((es.l.length : Nat) : Int)), (24, .int .i64 ((i : Nat) : Int)), (58, .bool false)] [(0, 61, .pointer (some ⟨b22, 0, none⟩)), (1, 62, .pointer (some ⟨b22, 0, none⟩)), (2, 63, .pointer (some ⟨b22, 0, none⟩)), (3, 64, v18), (4, 65, .pointer (some ⟨b39, 0, none⟩)), (5, 66, .int .i64 ((nth es.l i).op)), (6, 67, .pointer (some ⟨b22, 0, none⟩)), (7, 68, .pointer (some ⟨b22, 0, none⟩)), (8, 69, .pointer (some ⟨b22, 0, none⟩)), (9, 70, v18), (10, 71, .pointer (some ⟨b39, 0, none⟩)), (11, 72, .int .i64 ((nth es.l i).op)), (12, 73, .pointer (some (padr v18 1 (((nth es.l i).op).toNat) 0))), (13, 74, (nth M (((nth es.l i).op).toNat)).v), (14, 75, .agg #[.int .i64 ((nth es.l i).op), .int .i64 ((nth es.l i).a), .int .i64 ((nth es.l i).b), .int .i64 ((nth es.l i).c)]), (15, 76, v7015), (16, 77, v7016), (17, 78, .pointer (some (padr v18 1 (((nth es.l i).op).toNat) 0)))] a ∧ Sh (fun _ => False) W w [.own 36 (⟨v7016, (nth M (((nth es.l i).op).toNat)).l ++ ([(nth es.l i)])⟩ : Ls Ins), .own 36 (⟨v7015, [(nth es.l i)]⟩ : Ls Ins), .blk b39 36 [.int .i64 ((nth es.l i).op), .int .i64 ((nth es.l i).a), .int .i64 ((nth es.l i).b), .int .i64 ((nth es.l i).c)], .blk b22 90 [v18, .map (some g19)], .big (seenX 24 g19 ([] : List (List Nat × Ls (Ls Int)))), .big (holeX (.own 36) 37 v18 M (((nth es.l i).op).toNat)), .blk b4 31 [.int .i64 0, .int .i64 0, .int .i64 0], .at_ ws, .at_ es]) ∨ (S 15 = true ∧ S 16 = true ∧ S 18 = true ∧ ∃ (v7015 : Value) (v7016 : Value), FrI 86 S [(0, ws.v), (5, .pointer (some ⟨b4, 0, none⟩)), (6, .pointer (some ⟨b22, 0, none⟩)), (7, .int .i64 ((i : Nat) : Int)), (8, .pointer (some ⟨b39, 0, none⟩)), (22, es.v), (23, .int .i64 ((es.l.length : Nat) : Int)), (24, .int .i64 ((i : Nat) : Int)), (58, .bool false)] [(0, 61, .pointer (some ⟨b22, 0, none⟩)), (1, 62, .pointer (some ⟨b22, 0, none⟩)), (2, 63, .pointer (some ⟨b22, 0, none⟩)), (3, 64, v18), (4, 65, .pointer (some ⟨b39, 0, none⟩)), (5, 66, .int .i64 ((nth es.l i).op)), (6, 67, .pointer (some ⟨b22, 0, none⟩)), (7, 68, .pointer (some ⟨b22, 0, none⟩)), (8, 69, .pointer (some ⟨b22, 0, none⟩)), (9, 70, v18), (10, 71, .pointer (some ⟨b39, 0, none⟩)), (11, 72, .int .i64 ((nth es.l i).op)), (12, 73, .pointer (some (padr v18 1 (((nth es.l i).op).toNat) 0))), (13, 74, (nth M (((nth es.l i).op).toNat)).v), (14, 75, .agg #[.int .i64 ((nth es.l i).op), .int .i64 ((nth es.l i).a), .int .i64 ((nth es.l i).b), .int .i64 ((nth es.l i).c)]), (15, 76, v7015), (16, 77, v7016), (17, 78, .pointer (some (padr v18 1 (((nth es.l i).op).toNat) 0)))] a ∧ Sh (fun _ => False) W w [.own 36 (⟨v7015, [(nth es.l i)]⟩ : Ls Ins), .blk b39 36 [.int .i64 ((nth es.l i).op), .int .i64 ((nth es.l i).a), .int .i64 ((nth es.l i).b), .int .i64 ((nth es.l i).c)], .blk b22 90 [v18, .map (some g19)], .big (seenX 24 g19 ([] : List (List Nat × Ls (Ls Int)))), .big (matX (.own 36) 37 v18 (M.set (((nth es.l i).op).toNat) (⟨v7016, (nth M (((nth es.l i).op).toNat)).l ++ ([(nth es.l i)])⟩ : Ls Ins))), .blk b4 31 [.int .i64 0, .int .i64 0, .int .i64 0], .at_ ws, .at_ es])) (by kernel_rfl) (by kernel_rfl) (Or.inl (⟨rfl, rfl, rfl, FrI.start h126.fr, h126.sh.drew⟩)) ?_ ?_
  ·intro S i o ho hSi hcl hdep a w hI
   clear h126
   rcases i with _ | _ | _ | _ | _ | _ | _ | _ | _ | _ | _ | _ | _ | _ | _ | _ | _ | _ | _ | i
   ·
    obtain rfl : _ = o := Option.some.inj ho
    rcases hI with ⟨hw15, hw16, hw18, hfr, hsh⟩ | ⟨hw15, hw16, hw18, v7015, hfr, hsh⟩ | ⟨hw15, hw16, hw18, v7015, v7016, hfr, hsh⟩ | ⟨hw15, hw16, hw18, v7015, v7016, hfr, hsh⟩
    ·
     exact sq hfr hfr.fr0 hsh (r_move rfl rfl) 0 rfl rfl rfl rfl rfl rfl fun a hg => Or.inl (⟨un rfl hw15, un rfl hw16, un rfl hw18, hg, hsh⟩)
    ·
     exact sq hfr hfr.fr0 hsh (r_move rfl rfl) 0 rfl rfl rfl rfl rfl rfl fun a hg => Or.inr (Or.inl (⟨un rfl hw15, un rfl hw16, un rfl hw18, v7015, hg, hsh⟩))
    ·
     exact sq hfr hfr.fr0 hsh (r_move rfl rfl) 0 rfl rfl rfl rfl rfl rfl fun a hg => Or.inr (Or.inr (Or.inl (⟨un rfl hw15, un rfl hw16, un rfl hw18, v7015, v7016, hg, hsh⟩)))
    ·
     exact no_way (cA hcl 18 0 rfl hw18) hSi
   ·
    obtain rfl : _ = o := Option.some.inj ho
    have hd0 : S 0 = true := depAt hdep 0 rfl rfl
    rcases hI with ⟨hw15, hw16, hw18, hfr, hsh⟩ | ⟨hw15, hw16, hw18, v7015, hfr, hsh⟩ | ⟨hw15, hw16, hw18, v7015, v7016, hfr, hsh⟩ | ⟨hw15, hw16, hw18, v7015, v7016, hfr, hsh⟩
    ·
     exact sq hfr (Fr.cons hfr.fr0 (hfr.at_ 0 0 61 _ rfl hd0)) hsh (r_nil rfl rfl) 1 rfl rfl rfl rfl rfl rfl fun a hg => Or.inl (⟨un rfl hw15, un rfl hw16, un rfl hw18, hg, hsh⟩)
    ·
     exact sq hfr (Fr.cons hfr.fr0 (hfr.at_ 0 0 61 _ rfl hd0)) hsh (r_nil rfl rfl) 1 rfl rfl rfl rfl rfl rfl fun a hg => Or.inr (Or.inl (⟨un rfl hw15, un rfl hw16, un rfl hw18, v7015, hg, hsh⟩))
    ·
     exact sq hfr (Fr.cons hfr.fr0 (hfr.at_ 0 0 61 _ rfl hd0)) hsh (r_nil rfl rfl) 1 rfl rfl rfl rfl rfl rfl fun a hg => Or.inr (Or.inr (Or.inl (⟨un rfl hw15, un rfl hw16, un rfl hw18, v7015, v7016, hg, hsh⟩)))
    ·
     exact no_way (cA hcl 18 1 rfl hw18) hSi
   ·
    obtain rfl : _ = o := Option.some.inj ho
    have hd1 : S 1 = true := depAt hdep 0 rfl rfl
    rcases hI with ⟨hw15, hw16, hw18, hfr, hsh⟩ | ⟨hw15, hw16, hw18, v7015, hfr, hsh⟩ | ⟨hw15, hw16, hw18, v7015, v7016, hfr, hsh⟩ | ⟨hw15, hw16, hw18, v7015, v7016, hfr, hsh⟩
    ·
     exact sq hfr (Fr.cons hfr.fr0 (hfr.at_ 1 1 62 _ rfl hd1)) hsh (r_fieldB (r := 0) fl_90_0 rfl rfl rfl) 2 rfl rfl rfl rfl rfl rfl fun a hg => Or.inl (⟨un rfl hw15, un rfl hw16, un rfl hw18, hg, hsh⟩)
    ·
     exact sq hfr (Fr.cons hfr.fr0 (hfr.at_ 1 1 62 _ rfl hd1)) hsh (r_fieldB (r := 0) fl_90_0 rfl rfl rfl) 2 rfl rfl rfl rfl rfl rfl fun a hg => Or.inr (Or.inl (⟨un rfl hw15, un rfl hw16, un rfl hw18, v7015, hg, hsh⟩))
    ·
     exact sq hfr (Fr.cons hfr.fr0 (hfr.at_ 1 1 62 _ rfl hd1)) hsh (r_fieldB (r := 0) fl_90_0 rfl rfl rfl) 2 rfl rfl rfl rfl rfl rfl fun a hg => Or.inr (Or.inr (Or.inl (⟨un rfl hw15, un rfl hw16, un rfl hw18, v7015, v7016, hg, hsh⟩)))
    ·
     exact no_way (cA hcl 18 2 rfl hw18) hSi
   ·
    obtain rfl : _ = o := Option.some.inj ho
    have hd2 : S 2 = true := depAt hdep 0 rfl rfl
    rcases hI with ⟨hw15, hw16, hw18, hfr, hsh⟩ | ⟨hw15, hw16, hw18, v7015, hfr, hsh⟩ | ⟨hw15, hw16, hw18, v7015, v7016, hfr, hsh⟩ | ⟨hw15, hw16, hw18, v7015, v7016, hfr, hsh⟩
    ·
     exact sq hfr (Fr.cons hfr.fr0 (hfr.at_ 2 2 63 _ rfl hd2)) hsh (r_ldb (i := 1) ti_87 rfl rfl rfl rfl) 3 rfl rfl rfl rfl rfl rfl fun a hg => Or.inl (⟨un rfl hw15, un rfl hw16, un rfl hw18, hg, hsh⟩)
    ·
     exact sq hfr (Fr.cons hfr.fr0 (hfr.at_ 2 2 63 _ rfl hd2)) hsh (r_ldb (i := 2) ti_87 rfl rfl rfl rfl) 3 rfl rfl rfl rfl rfl rfl fun a hg => Or.inr (Or.inl (⟨un rfl hw15, un rfl hw16, un rfl hw18, v7015, hg, hsh⟩))
    ·
     exact sq hfr (Fr.cons hfr.fr0 (hfr.at_ 2 2 63 _ rfl hd2)) hsh (r_ldb (i := 3) ti_87 rfl rfl rfl rfl) 3 rfl rfl rfl rfl rfl rfl fun a hg => Or.inr (Or.inr (Or.inl (⟨un rfl hw15, un rfl hw16, un rfl hw18, v7015, v7016, hg, hsh⟩)))
    ·
     exact no_way (cA hcl 18 3 rfl hw18) hSi
   ·
    obtain rfl : _ = o := Option.some.inj ho
    rcases hI with ⟨hw15, hw16, hw18, hfr, hsh⟩ | ⟨hw15, hw16, hw18, v7015, hfr, hsh⟩ | ⟨hw15, hw16, hw18, v7015, v7016, hfr, hsh⟩ | ⟨hw15, hw16, hw18, v7015, v7016, hfr, hsh⟩
    ·
     exact sq hfr hfr.fr0 hsh (r_fieldB (r := 0) fl_36_0 rfl rfl rfl) 4 rfl rfl rfl rfl rfl rfl fun a hg => Or.inl (⟨un rfl hw15, un rfl hw16, un rfl hw18, hg, hsh⟩)
    ·
     exact sq hfr hfr.fr0 hsh (r_fieldB (r := 0) fl_36_0 rfl rfl rfl) 4 rfl rfl rfl rfl rfl rfl fun a hg => Or.inr (Or.inl (⟨un rfl hw15, un rfl hw16, un rfl hw18, v7015, hg, hsh⟩))
    ·
     exact sq hfr hfr.fr0 hsh (r_fieldB (r := 0) fl_36_0 rfl rfl rfl) 4 rfl rfl rfl rfl rfl rfl fun a hg => Or.inr (Or.inr (Or.inl (⟨un rfl hw15, un rfl hw16, un rfl hw18, v7015, v7016, hg, hsh⟩)))
    ·
     exact no_way (cA hcl 18 4 rfl hw18) hSi
   ·
    obtain rfl : _ = o := Option.some.inj ho
    have hd4 : S 4 = true := depAt hdep 0 rfl rfl
    rcases hI with ⟨hw15, hw16, hw18, hfr, hsh⟩ | ⟨hw15, hw16, hw18, v7015, hfr, hsh⟩ | ⟨hw15, hw16, hw18, v7015, v7016, hfr, hsh⟩ | ⟨hw15, hw16, hw18, v7015, v7016, hfr, hsh⟩
    ·
     exact sq hfr (Fr.cons hfr.fr0 (hfr.at_ 4 4 65 _ rfl hd4)) hsh (r_ldb (i := 0) ti_3 rfl rfl rfl rfl) 5 rfl rfl rfl rfl rfl rfl fun a hg => Or.inl (⟨un rfl hw15, un rfl hw16, un rfl hw18, hg, hsh⟩)
    ·
     exact sq hfr (Fr.cons hfr.fr0 (hfr.at_ 4 4 65 _ rfl hd4)) hsh (r_ldb (i := 1) ti_3 rfl rfl rfl rfl) 5 rfl rfl rfl rfl rfl rfl fun a hg => Or.inr (Or.inl (⟨un rfl hw15, un rfl hw16, un rfl hw18, v7015, hg, hsh⟩))
    ·
     exact sq hfr (Fr.cons hfr.fr0 (hfr.at_ 4 4 65 _ rfl hd4)) hsh (r_ldb (i := 2) ti_3 rfl rfl rfl rfl) 5 rfl rfl rfl rfl rfl rfl fun a hg => Or.inr (Or.inr (Or.inl (⟨un rfl hw15, un rfl hw16, un rfl hw18, v7015, v7016, hg, hsh⟩)))
    ·
     exact no_way (cA hcl 18 5 rfl hw18) hSi
   ·
    obtain rfl : _ = o := Option.some.inj ho
    rcases hI with ⟨hw15, hw16, hw18, hfr, hsh⟩ | ⟨hw15, hw16, hw18, v7015, hfr, hsh⟩ | ⟨hw15, hw16, hw18, v7015, v7016, hfr, hsh⟩ | ⟨hw15, hw16, hw18, v7015, v7016, hfr, hsh⟩
    ·
     exact sq hfr hfr.fr0 hsh (r_move rfl rfl) 6 rfl rfl rfl rfl rfl rfl fun a hg => Or.inl (⟨un rfl hw15, un rfl hw16, un rfl hw18, hg, hsh⟩)
    ·
     exact sq hfr hfr.fr0 hsh (r_move rfl rfl) 6 rfl rfl rfl rfl rfl rfl fun a hg => Or.inr (Or.inl (⟨un rfl hw15, un rfl hw16, un rfl hw18, v7015, hg, hsh⟩))
    ·
     exact no_way (cA hcl 16 6 rfl hw16) hSi
    ·
     exact no_way (cA hcl 16 6 rfl hw16) hSi
   ·
    obtain rfl : _ = o := Option.some.inj ho
    have hd6 : S 6 = true := depAt hdep 0 rfl rfl
    rcases hI with ⟨hw15, hw16, hw18, hfr, hsh⟩ | ⟨hw15, hw16, hw18, v7015, hfr, hsh⟩ | ⟨hw15, hw16, hw18, v7015, v7016, hfr, hsh⟩ | ⟨hw15, hw16, hw18, v7015, v7016, hfr, hsh⟩
    ·
     exact sq hfr (Fr.cons hfr.fr0 (hfr.at_ 6 6 67 _ rfl hd6)) hsh (r_nil rfl rfl) 7 rfl rfl rfl rfl rfl rfl fun a hg => Or.inl (⟨un rfl hw15, un rfl hw16, un rfl hw18, hg, hsh⟩)
    ·
     exact sq hfr (Fr.cons hfr.fr0 (hfr.at_ 6 6 67 _ rfl hd6)) hsh (r_nil rfl rfl) 7 rfl rfl rfl rfl rfl rfl fun a hg => Or.inr (Or.inl (⟨un rfl hw15, un rfl hw16, un rfl hw18, v7015, hg, hsh⟩))
    ·
     exact no_way (cA hcl 16 7 rfl hw16) hSi
    ·
     exact no_way (cA hcl 16 7 rfl hw16) hSi
   ·
    obtain rfl : _ = o := Option.some.inj ho
    have hd7 : S 7 = true := depAt hdep 0 rfl rfl
    rcases hI with ⟨hw15, hw16, hw18, hfr, hsh⟩ | ⟨hw15, hw16, hw18, v7015, hfr, hsh⟩ | ⟨hw15, hw16, hw18, v7015, v7016, hfr, hsh⟩ | ⟨hw15, hw16, hw18, v7015, v7016, hfr, hsh⟩
    ·
     exact sq hfr (Fr.cons hfr.fr0 (hfr.at_ 7 7 68 _ rfl hd7)) hsh (r_fieldB (r := 0) fl_90_0 rfl rfl rfl) 8 rfl rfl rfl rfl rfl rfl fun a hg => Or.inl (⟨un rfl hw15, un rfl hw16, un rfl hw18, hg, hsh⟩)
    ·
     exact sq hfr (Fr.cons hfr.fr0 (hfr.at_ 7 7 68 _ rfl hd7)) hsh (r_fieldB (r := 0) fl_90_0 rfl rfl rfl) 8 rfl rfl rfl rfl rfl rfl fun a hg => Or.inr (Or.inl (⟨un rfl hw15, un rfl hw16, un rfl hw18, v7015, hg, hsh⟩))
    ·
     exact no_way (cA hcl 16 8 rfl hw16) hSi
    ·
     exact no_way (cA hcl 16 8 rfl hw16) hSi
   ·
    obtain rfl : _ = o := Option.some.inj ho
    have hd8 : S 8 = true := depAt hdep 0 rfl rfl
    rcases hI with ⟨hw15, hw16, hw18, hfr, hsh⟩ | ⟨hw15, hw16, hw18, v7015, hfr, hsh⟩ | ⟨hw15, hw16, hw18, v7015, v7016, hfr, hsh⟩ | ⟨hw15, hw16, hw18, v7015, v7016, hfr, hsh⟩
    ·
     exact sq hfr (Fr.cons hfr.fr0 (hfr.at_ 8 8 69 _ rfl hd8)) hsh (r_ldb (i := 1) ti_87 rfl rfl rfl rfl) 9 rfl rfl rfl rfl rfl rfl fun a hg => Or.inl (⟨un rfl hw15, un rfl hw16, un rfl hw18, hg, hsh⟩)
    ·
     exact sq hfr (Fr.cons hfr.fr0 (hfr.at_ 8 8 69 _ rfl hd8)) hsh (r_ldb (i := 2) ti_87 rfl rfl rfl rfl) 9 rfl rfl rfl rfl rfl rfl fun a hg => Or.inr (Or.inl (⟨un rfl hw15, un rfl hw16, un rfl hw18, v7015, hg, hsh⟩))
    ·
     exact no_way (cA hcl 16 9 rfl hw16) hSi
    ·
     exact no_way (cA hcl 16 9 rfl hw16) hSi
   ·
    obtain rfl : _ = o := Option.some.inj ho
    rcases hI with ⟨hw15, hw16, hw18, hfr, hsh⟩ | ⟨hw15, hw16, hw18, v7015, hfr, hsh⟩ | ⟨hw15, hw16, hw18, v7015, v7016, hfr, hsh⟩ | ⟨hw15, hw16, hw18, v7015, v7016, hfr, hsh⟩
    ·
     exact sq hfr hfr.fr0 hsh (r_fieldB (r := 0) fl_36_0 rfl rfl rfl) 10 rfl rfl rfl rfl rfl rfl fun a hg => Or.inl (⟨un rfl hw15, un rfl hw16, un rfl hw18, hg, hsh⟩)
    ·
     exact sq hfr hfr.fr0 hsh (r_fieldB (r := 0) fl_36_0 rfl rfl rfl) 10 rfl rfl rfl rfl rfl rfl fun a hg => Or.inr (Or.inl (⟨un rfl hw15, un rfl hw16, un rfl hw18, v7015, hg, hsh⟩))
    ·
     exact no_way (cA hcl 16 10 rfl hw16) hSi
    ·
     exact no_way (cA hcl 16 10 rfl hw16) hSi
   ·
    obtain rfl : _ = o := Option.some.inj ho
    have hd10 : S 10 = true := depAt hdep 0 rfl rfl
    rcases hI with ⟨hw15, hw16, hw18, hfr, hsh⟩ | ⟨hw15, hw16, hw18, v7015, hfr, hsh⟩ | ⟨hw15, hw16, hw18, v7015, v7016, hfr, hsh⟩ | ⟨hw15, hw16, hw18, v7015, v7016, hfr, hsh⟩
    ·
     exact sq hfr (Fr.cons hfr.fr0 (hfr.at_ 10 10 71 _ rfl hd10)) hsh (r_ldb (i := 0) ti_3 rfl rfl rfl rfl) 11 rfl rfl rfl rfl rfl rfl fun a hg => Or.inl (⟨un rfl hw15, un rfl hw16, un rfl hw18, hg, hsh⟩)
    ·
     exact sq hfr (Fr.cons hfr.fr0 (hfr.at_ 10 10 71 _ rfl hd10)) hsh (r_ldb (i := 1) ti_3 rfl rfl rfl rfl) 11 rfl rfl rfl rfl rfl rfl fun a hg => Or.inr (Or.inl (⟨un rfl hw15, un rfl hw16, un rfl hw18, v7015, hg, hsh⟩))
    ·
     exact no_way (cA hcl 16 11 rfl hw16) hSi
    ·
     exact no_way (cA hcl 16 11 rfl hw16) hSi
   ·
    obtain rfl : _ = o := Option.some.inj ho
    have hd9 : S 9 = true := depAt hdep 0 rfl rfl
    have hd11 : S 11 = true := depAt hdep 1 rfl rfl
    rcases hI with ⟨hw15, hw16, hw18, hfr, hsh⟩ | ⟨hw15, hw16, hw18, v7015, hfr, hsh⟩ | ⟨hw15, hw16, hw18, v7015, v7016, hfr, hsh⟩ | ⟨hw15, hw16, hw18, v7015, v7016, hfr, hsh⟩
    ·
     exact sq hfr (Fr.cons (Fr.cons hfr.fr0 (hfr.at_ 9 9 70 _ rfl hd9)) (hfr.at_ 11 11 72 _ rfl hd11)) hsh (r_ixI (s := (⟨v18, rvs M⟩ : Ls RV)) (q := (nth es.l i).op) sl_87 ti_37 rfl rfl rfl (fun w h => (h.matAt 3 rfl)) (by rw [rvs_len]; exact (show 0 ≤ (nth es.l i).op ∧ (nth es.l i).op < M.length from (by omega)))) 12 rfl rfl rfl rfl rfl rfl fun a hg => Or.inl (⟨un rfl hw15, un rfl hw16, un rfl hw18, hg, hsh⟩)
    ·
     exact sq hfr (Fr.cons (Fr.cons hfr.fr0 (hfr.at_ 9 9 70 _ rfl hd9)) (hfr.at_ 11 11 72 _ rfl hd11)) hsh (r_ixI (s := (⟨v18, rvs M⟩ : Ls RV)) (q := (nth es.l i).op) sl_87 ti_37 rfl rfl rfl (fun w h => (h.matAt 4 rfl)) (by rw [rvs_len]; exact (show 0 ≤ (nth es.l i).op ∧ (nth es.l i).op < M.length from (by omega)))) 12 rfl rfl rfl rfl rfl rfl fun a hg => Or.inr (Or.inl (⟨un rfl hw15, un rfl hw16, un rfl hw18, v7015, hg, hsh⟩))
    ·
     exact no_way (cA hcl 16 12 rfl hw16) hSi
    ·
     exact no_way (cA hcl 16 12 rfl hw16) hSi
   ·
    obtain rfl : _ = o := Option.some.inj ho
    have hd12 : S 12 = true := depAt hdep 0 rfl rfl
    rcases hI with ⟨hw15, hw16, hw18, hfr, hsh⟩ | ⟨hw15, hw16, hw18, v7015, hfr, hsh⟩ | ⟨hw15, hw16, hw18, v7015, v7016, hfr, hsh⟩ | ⟨hw15, hw16, hw18, v7015, v7016, hfr, hsh⟩
    ·
     exact sq hfr (Fr.cons hfr.fr0 (hfr.at_ 12 12 73 _ rfl hd12)) hsh (Rn.same (r_lde (s := (⟨v18, rvs M⟩ : Ls RV)) (i := ((nth es.l i).op).toNat) (v := (nth (rvs M) (((nth es.l i).op).toNat)).v) ti_37 rfl rfl rfl (fun w h => h.matAt 3 rfl) (by rw [rvs_len]; exact (show ((nth es.l i).op).toNat < M.length from (by omega))) (Nat.le_of_ble_eq_true rfl) rfl) (nth_rvs M (((nth es.l i).op).toNat))) 13 rfl rfl rfl rfl rfl rfl fun a hg => Or.inl (⟨un rfl hw15, un rfl hw16, un rfl hw18, hg, hsh⟩)
    ·
     exact sq hfr (Fr.cons hfr.fr0 (hfr.at_ 12 12 73 _ rfl hd12)) hsh (Rn.same (r_lde (s := (⟨v18, rvs M⟩ : Ls RV)) (i := ((nth es.l i).op).toNat) (v := (nth (rvs M) (((nth es.l i).op).toNat)).v) ti_37 rfl rfl rfl (fun w h => h.matAt 4 rfl) (by rw [rvs_len]; exact (show ((nth es.l i).op).toNat < M.length from (by omega))) (Nat.le_of_ble_eq_true rfl) rfl) (nth_rvs M (((nth es.l i).op).toNat))) 13 rfl rfl rfl rfl rfl rfl fun a hg => Or.inr (Or.inl (⟨un rfl hw15, un rfl hw16, un rfl hw18, v7015, hg, hsh⟩))
    ·
     exact no_way (cA hcl 16 13 rfl hw16) hSi
    ·
     exact no_way (cA hcl 16 13 rfl hw16) hSi
   ·
    obtain rfl : _ = o := Option.some.inj ho
    rcases hI with ⟨hw15, hw16, hw18, hfr, hsh⟩ | ⟨hw15, hw16, hw18, v7015, hfr, hsh⟩ | ⟨hw15, hw16, hw18, v7015, v7016, hfr, hsh⟩ | ⟨hw15, hw16, hw18, v7015, v7016, hfr, hsh⟩
    ·
     exact sq hfr hfr.fr0 hsh (r_ldbw (i := 0) (vs := [.int .i64 ((nth es.l i).op), .int .i64 ((nth es.l i).a), .int .i64 ((nth es.l i).b), .int .i64 ((nth es.l i).c)]) ti_36 rfl rfl rfl rfl rfl) 14 rfl rfl rfl rfl rfl rfl fun a hg => Or.inl (⟨un rfl hw15, un rfl hw16, un rfl hw18, hg, hsh⟩)
    ·
     exact no_way (cA hcl 15 14 rfl hw15) hSi
    ·
     exact no_way (cA hcl 15 14 rfl hw15) hSi
    ·
     exact no_way (cA hcl 15 14 rfl hw15) hSi
   ·
    obtain rfl : _ = o := Option.some.inj ho
    have hd14 : S 14 = true := depAt hdep 0 rfl rfl
    rcases hI with ⟨hw15, hw16, hw18, hfr, hsh⟩ | ⟨hw15, hw16, hw18, v7015, hfr, hsh⟩ | ⟨hw15, hw16, hw18, v7015, v7016, hfr, hsh⟩ | ⟨hw15, hw16, hw18, v7015, v7016, hfr, hsh⟩
    ·
     have hs := St.mk (Fr.cons hfr.fr0 (hfr.at_ 14 14 75 _ rfl hd14)) hsh
     refine step_ex (x_lit (n := 1) (cs := [.int .i64 ((nth es.l i).op), .int .i64 ((nth es.l i).a), .int .i64 ((nth es.l i).b), .int .i64 ((nth es.l i).c)]) ([(nth es.l i)] : List Ins) hs sl_37 ti_36 rfl rfl rfl (by decide) rfl (by kernel_rfl) rfl (fun q hq w h => Flat.inner _ _) (fun q hq b hb => (Flat.on _ _ hb).elim) rfl rfl) (wanted_none rfl _) ?_
     rintro a163 w163 ⟨v163, h163⟩ ⟨v0, ht163⟩
     have hm163 : FrI 86 S [(0, ws.v), (5, .pointer (some ⟨b4, 0, none⟩)), (6, .pointer (some ⟨b22, 0, none⟩)), (7, .int .i64 ((i : Nat) : Int)), (8, .pointer (some ⟨b39, 0, none⟩)), (22, es.v), (23, .int .i64 ((es.l.length : Nat) : Int)), (24, .int .i64 ((i : Nat) : Int)), (58, .bool false)] [(0, 61, .pointer (some ⟨b22, 0, none⟩)), (1, 62, .pointer (some ⟨b22, 0, none⟩)), (2, 63, .pointer (some ⟨b22, 0, none⟩)), (3, 64, v18), (4, 65, .pointer (some ⟨b39, 0, none⟩)), (5, 66, .int .i64 ((nth es.l i).op)), (6, 67, .pointer (some ⟨b22, 0, none⟩)), (7, 68, .pointer (some ⟨b22, 0, none⟩)), (8, 69, .pointer (some ⟨b22, 0, none⟩)), (9, 70, v18), (10, 71, .pointer (some ⟨b39, 0, none⟩)), (11, 72, .int .i64 ((nth es.l i).op)), (12, 73, .pointer (some (padr v18 1 (((nth es.l i).op).toNat) 0))), (13, 74, (nth M (((nth es.l i).op).toNat)).v), (14, 75, .agg #[.int .i64 ((nth es.l i).op), .int .i64 ((nth es.l i).a), .int .i64 ((nth es.l i).b), .int .i64 ((nth es.l i).c)]), (15, 76, v163)] a := hfr.more (by
      intro k j d v hk hS
      rcases k with _ | _ | _ | _ | _ | _ | _ | _ | _ | _ | _ | _ | _ | _ | _ | _ | k
      ·obtain ⟨rfl, rfl, rfl⟩ : _ = j ∧ _ = d ∧ _ = v := by simpa using hk
       exact hfr.at_ 0 _ _ _ rfl hS
      ·obtain ⟨rfl, rfl, rfl⟩ : _ = j ∧ _ = d ∧ _ = v := by simpa using hk
       exact hfr.at_ 1 _ _ _ rfl hS
      ·obtain ⟨rfl, rfl, rfl⟩ : _ = j ∧ _ = d ∧ _ = v := by simpa using hk
       exact hfr.at_ 2 _ _ _ rfl hS
      ·obtain ⟨rfl, rfl, rfl⟩ : _ = j ∧ _ = d ∧ _ = v := by simpa using hk
       exact hfr.at_ 3 _ _ _ rfl hS
      ·obtain ⟨rfl, rfl, rfl⟩ : _ = j ∧ _ = d ∧ _ = v := by simpa using hk
       exact hfr.at_ 4 _ _ _ rfl hS
      ·obtain ⟨rfl, rfl, rfl⟩ : _ = j ∧ _ = d ∧ _ = v := by simpa using hk
       exact hfr.at_ 5 _ _ _ rfl hS
      ·obtain ⟨rfl, rfl, rfl⟩ : _ = j ∧ _ = d ∧ _ = v := by simpa using hk
       exact hfr.at_ 6 _ _ _ rfl hS
      ·obtain ⟨rfl, rfl, rfl⟩ : _ = j ∧ _ = d ∧ _ = v := by simpa using hk
       exact hfr.at_ 7 _ _ _ rfl hS
      ·obtain ⟨rfl, rfl, rfl⟩ : _ = j ∧ _ = d ∧ _ = v := by simpa using hk
       exact hfr.at_ 8 _ _ _ rfl hS
      ·obtain ⟨rfl, rfl, rfl⟩ : _ = j ∧ _ = d ∧ _ = v := by simpa using hk
       exact hfr.at_ 9 _ _ _ rfl hS
      ·obtain ⟨rfl, rfl, rfl⟩ : _ = j ∧ _ = d ∧ _ = v := by simpa using hk
       exact hfr.at_ 10 _ _ _ rfl hS
      ·obtain ⟨rfl, rfl, rfl⟩ : _ = j ∧ _ = d ∧ _ = v := by simpa using hk
       exact hfr.at_ 11 _ _ _ rfl hS
      ·obtain ⟨rfl, rfl, rfl⟩ : _ = j ∧ _ = d ∧ _ = v := by simpa using hk
       exact hfr.at_ 12 _ _ _ rfl hS
      ·obtain ⟨rfl, rfl, rfl⟩ : _ = j ∧ _ = d ∧ _ = v := by simpa using hk
       exact hfr.at_ 13 _ _ _ rfl hS
      ·obtain ⟨rfl, rfl, rfl⟩ : _ = j ∧ _ = d ∧ _ = v := by simpa using hk
       exact hfr.at_ 14 _ _ _ rfl hS
      ·obtain ⟨rfl, rfl, rfl⟩ : _ = j ∧ _ = d ∧ _ = v := by simpa using hk
       exact no_way hS hSi
      · simp at hk)
     exact Or.inr (Or.inl (⟨upd_self _ _, un rfl hw16, un rfl hw18, v163, hm163.step ht163 h163.fr.defers (h163.fr.at_ 76 _ rfl) 15 rfl rfl rfl rfl, (h163.sh.sel (L' := [.own 36 (⟨v163, [(nth es.l i)]⟩ : Ls Ins), .blk b39 36 [.int .i64 ((nth es.l i).op), .int .i64 ((nth es.l i).a), .int .i64 ((nth es.l i).b), .int .i64 ((nth es.l i).c)], .blk b22 90 [v18, .map (some g19)], .big (seenX 24 g19 ([] : List (List Nat × Ls (Ls Int)))), .big (matX (.own 36) 37 v18 M), .blk b4 31 [.int .i64 0, .int .i64 0, .int .i64 0], .at_ ws, .at_ es]) [0, 1, 2, 3, 4, 5, 6, 7] (by decide) ⟨rfl, rfl, rfl, rfl, rfl, rfl, rfl, rfl, trivial⟩)⟩))
    ·
     exact no_way hw15 hSi
    ·
     exact no_way hw15 hSi
    ·
     exact no_way hw15 hSi
   ·
    obtain rfl : _ = o := Option.some.inj ho
    have hd13 : S 13 = true := depAt hdep 0 rfl rfl
    have hd15 : S 15 = true := depAt hdep 1 rfl rfl
    rcases hI with ⟨hw15, hw16, hw18, hfr, hsh⟩ | ⟨hw15, hw16, hw18, v7015, hfr, hsh⟩ | ⟨hw15, hw16, hw18, v7015, v7016, hfr, hsh⟩ | ⟨hw15, hw16, hw18, v7015, v7016, hfr, hsh⟩
    ·
     exact no_way hd15 hw15
    ·
     have hs := St.mk (Fr.cons (Fr.cons hfr.fr0 (hfr.at_ 13 13 74 _ rfl hd13)) (hfr.at_ 15 15 76 _ rfl hd15)) hsh
     refine step_ex (x_appMat (i := (((nth es.l i).op).toNat)) (r := 4) (rm := 0) (m := (⟨v7015, [(nth es.l i)]⟩ : Ls Ins)) hs sl_37 ti_36 rfl rfl rfl rfl (show ((nth es.l i).op).toNat < M.length from (by omega)) rfl rfl rfl (fun w h => (h.own 0 rfl)) (fun b hb => own_on (hs.sh.ok _ (List.mem_of_getElem? (i := 0) rfl)) hb) rfl rfl rfl inferInstance (show (((nth M (((nth es.l i).op).toNat)).l).length + ([(nth es.l i)]).length) * 32 ≤ 140737488355328 ∧ ((nth M (((nth es.l i).op).toNat)).l).length + ([(nth es.l i)]).length ≤ 140737488355328 from (by first | omega | (simp only [lens9]; omega))) rfl rfl) (wanted_none rfl _) ?_
     rintro a164 w164 ⟨v164, h164⟩ ⟨v0, ht164⟩
     have hm164 : FrI 86 S [(0, ws.v), (5, .pointer (some ⟨b4, 0, none⟩)), (6, .pointer (some ⟨b22, 0, none⟩)), (7, .int .i64 ((i : Nat) : Int)), (8, .pointer (some ⟨b39, 0, none⟩)), (22, es.v), (23, .int .i64 ((es.l.length : Nat) : Int)), (24, .int .i64 ((i : Nat) : Int)), (58, .bool false)] [(0, 61, .pointer (some ⟨b22, 0, none⟩)), (1, 62, .pointer (some ⟨b22, 0, none⟩)), (2, 63, .pointer (some ⟨b22, 0, none⟩)), (3, 64, v18), (4, 65, .pointer (some ⟨b39, 0, none⟩)), (5, 66, .int .i64 ((nth es.l i).op)), (6, 67, .pointer (some ⟨b22, 0, none⟩)), (7, 68, .pointer (some ⟨b22, 0, none⟩)), (8, 69, .pointer (some ⟨b22, 0, none⟩)), (9, 70, v18), (10, 71, .pointer (some ⟨b39, 0, none⟩)), (11, 72, .int .i64 ((nth es.l i).op)), (12, 73, .pointer (some (padr v18 1 (((nth es.l i).op).toNat) 0))), (13, 74, (nth M (((nth es.l i).op).toNat)).v), (14, 75, .agg #[.int .i64 ((nth es.l i).op), .int .i64 ((nth es.l i).a), .int .i64 ((nth es.l i).b), .int .i64 ((nth es.l i).c)]), (15, 76, v7015), (16, 77, v164), (17, 78, .pointer (some (padr v18 1 (((nth es.l i).op).toNat) 0)))] a := hfr.more (by
      intro k j d v hk hS
      rcases k with _ | _ | _ | _ | _ | _ | _ | _ | _ | _ | _ | _ | _ | _ | _ | _ | _ | _ | k
      ·obtain ⟨rfl, rfl, rfl⟩ : _ = j ∧ _ = d ∧ _ = v := by simpa using hk
       exact hfr.at_ 0 _ _ _ rfl hS
      ·obtain ⟨rfl, rfl, rfl⟩ : _ = j ∧ _ = d ∧ _ = v := by simpa using hk
       exact hfr.at_ 1 _ _ _ rfl hS
      ·obtain ⟨rfl, rfl, rfl⟩ : _ = j ∧ _ = d ∧ _ = v := by simpa using hk
       exact hfr.at_ 2 _ _ _ rfl hS
      ·obtain ⟨rfl, rfl, rfl⟩ : _ = j ∧ _ = d ∧ _ = v := by simpa using hk
       exact hfr.at_ 3 _ _ _ rfl hS
      ·obtain ⟨rfl, rfl, rfl⟩ : _ = j ∧ _ = d ∧ _ = v := by simpa using hk
       exact hfr.at_ 4 _ _ _ rfl hS
      ·obtain ⟨rfl, rfl, rfl⟩ : _ = j ∧ _ = d ∧ _ = v := by simpa using hk
       exact hfr.at_ 5 _ _ _ rfl hS
      ·obtain ⟨rfl, rfl, rfl⟩ : _ = j ∧ _ = d ∧ _ = v := by simpa using hk
       exact hfr.at_ 6 _ _ _ rfl hS
      ·obtain ⟨rfl, rfl, rfl⟩ : _ = j ∧ _ = d ∧ _ = v := by simpa using hk
       exact hfr.at_ 7 _ _ _ rfl hS
      ·obtain ⟨rfl, rfl, rfl⟩ : _ = j ∧ _ = d ∧ _ = v := by simpa using hk
       exact hfr.at_ 8 _ _ _ rfl hS
      ·obtain ⟨rfl, rfl, rfl⟩ : _ = j ∧ _ = d ∧ _ = v := by simpa using hk
       exact hfr.at_ 9 _ _ _ rfl hS
      ·obtain ⟨rfl, rfl, rfl⟩ : _ = j ∧ _ = d ∧ _ = v := by simpa using hk
       exact hfr.at_ 10 _ _ _ rfl hS
      ·obtain ⟨rfl, rfl, rfl⟩ : _ = j ∧ _ = d ∧ _ = v := by simpa using hk
       exact hfr.at_ 11 _ _ _ rfl hS
      ·obtain ⟨rfl, rfl, rfl⟩ : _ = j ∧ _ = d ∧ _ = v := by simpa using hk
       exact hfr.at_ 12 _ _ _ rfl hS
      ·obtain ⟨rfl, rfl, rfl⟩ : _ = j ∧ _ = d ∧ _ = v := by simpa using hk
       exact hfr.at_ 13 _ _ _ rfl hS
      ·obtain ⟨rfl, rfl, rfl⟩ : _ = j ∧ _ = d ∧ _ = v := by simpa using hk
       exact hfr.at_ 14 _ _ _ rfl hS
      ·obtain ⟨rfl, rfl, rfl⟩ : _ = j ∧ _ = d ∧ _ = v := by simpa using hk
       exact hfr.at_ 15 _ _ _ rfl hS
      ·obtain ⟨rfl, rfl, rfl⟩ : _ = j ∧ _ = d ∧ _ = v := by simpa using hk
       exact no_way hS hSi
      ·obtain ⟨rfl, rfl, rfl⟩ : _ = j ∧ _ = d ∧ _ = v := by simpa using hk
       exact no_way (cA hcl 17 16 rfl hS) hSi
      · simp at hk)
     exact Or.inr (Or.inr (Or.inl (⟨un rfl hw15, upd_self _ _, un rfl hw18, v7015, v164, hm164.step ht164 h164.fr.defers (h164.fr.at_ 77 _ rfl) 16 rfl rfl rfl rfl, (h164.sh.sel (L' := [.own 36 (⟨v164, (nth M (((nth es.l i).op).toNat)).l ++ ([(nth es.l i)])⟩ : Ls Ins), .own 36 (⟨v7015, [(nth es.l i)]⟩ : Ls Ins), .blk b39 36 [.int .i64 ((nth es.l i).op), .int .i64 ((nth es.l i).a), .int .i64 ((nth es.l i).b), .int .i64 ((nth es.l i).c)], .blk b22 90 [v18, .map (some g19)], .big (seenX 24 g19 ([] : List (List Nat × Ls (Ls Int)))), .big (holeX (.own 36) 37 v18 M (((nth es.l i).op).toNat)), .blk b4 31 [.int .i64 0, .int .i64 0, .int .i64 0], .at_ ws, .at_ es]) [0, 1, 2, 3, 4, 5, 6, 7, 8] (by decide) ⟨rfl, rfl, rfl, rfl, rfl, rfl, rfl, rfl, rfl, trivial⟩)⟩)))
    ·
     exact no_way hw16 hSi
    ·
     exact no_way hw16 hSi
   ·
    obtain rfl : _ = o := Option.some.inj ho
    have hd3 : S 3 = true := depAt hdep 0 rfl rfl
    have hd5 : S 5 = true := depAt hdep 1 rfl rfl
    have hd15 : S 15 = true := depAt hdep 17 rfl rfl
    have hd16 : S 16 = true := depAt hdep 18 rfl rfl
    rcases hI with ⟨hw15, hw16, hw18, hfr, hsh⟩ | ⟨hw15, hw16, hw18, v7015, hfr, hsh⟩ | ⟨hw15, hw16, hw18, v7015, v7016, hfr, hsh⟩ | ⟨hw15, hw16, hw18, v7015, v7016, hfr, hsh⟩
    ·
     exact no_way hd15 hw15
    ·
     exact no_way hd16 hw16
    ·
     exact sq hfr (Fr.cons (Fr.cons hfr.fr0 (hfr.at_ 3 3 64 _ rfl hd3)) (hfr.at_ 5 5 66 _ rfl hd5)) hsh (r_ixI (s := (⟨v18, rvs M⟩ : Ls RV)) (q := (nth es.l i).op) sl_87 ti_37 rfl rfl rfl (fun w h => (h.holeAt 5 rfl)) (by rw [rvs_len]; exact (show 0 ≤ (nth es.l i).op ∧ (nth es.l i).op < M.length from (by omega)))) 17 rfl rfl rfl rfl rfl rfl fun a hg => Or.inr (Or.inr (Or.inl (⟨un rfl hw15, un rfl hw16, un rfl hw18, v7015, v7016, hg, hsh⟩)))
    ·
     exact no_way (cA hcl 18 17 rfl hw18) hSi
   ·
    obtain rfl : _ = o := Option.some.inj ho
    have hd17 : S 17 = true := depAt hdep 0 rfl rfl
    have hd16 : S 16 = true := depAt hdep 1 rfl rfl
    have hd15 : S 15 = true := depAt hdep 18 rfl rfl
    rcases hI with ⟨hw15, hw16, hw18, hfr, hsh⟩ | ⟨hw15, hw16, hw18, v7015, hfr, hsh⟩ | ⟨hw15, hw16, hw18, v7015, v7016, hfr, hsh⟩ | ⟨hw15, hw16, hw18, v7015, v7016, hfr, hsh⟩
    ·
     exact no_way hd15 hw15
    ·
     exact no_way hd16 hw16
    ·
     have hs := St.mk (Fr.cons (Fr.cons hfr.fr0 (hfr.at_ 16 16 77 _ rfl hd16)) (hfr.at_ 17 17 78 _ rfl hd17)) hsh
     refine step_ex (x_stHole (i := ((nth es.l i).op).toNat) (r := 4) (s := (⟨v7016, (nth M (((nth es.l i).op).toNat)).l ++ ([(nth es.l i)])⟩ : Ls Ins)) hs ti_37 rfl rfl rfl rfl rfl (show ((nth es.l i).op).toNat < M.length from (by omega)) (hs.sh.own 0 rfl)) (wanted_none rfl _) ?_
     rintro a166 w166 h166 ⟨v0, ht166⟩
     have hm166 : FrI 86 S [(0, ws.v), (5, .pointer (some ⟨b4, 0, none⟩)), (6, .pointer (some ⟨b22, 0, none⟩)), (7, .int .i64 ((i : Nat) : Int)), (8, .pointer (some ⟨b39, 0, none⟩)), (22, es.v), (23, .int .i64 ((es.l.length : Nat) : Int)), (24, .int .i64 ((i : Nat) : Int)), (58, .bool false)] [(0, 61, .pointer (some ⟨b22, 0, none⟩)), (1, 62, .pointer (some ⟨b22, 0, none⟩)), (2, 63, .pointer (some ⟨b22, 0, none⟩)), (3, 64, v18), (4, 65, .pointer (some ⟨b39, 0, none⟩)), (5, 66, .int .i64 ((nth es.l i).op)), (6, 67, .pointer (some ⟨b22, 0, none⟩)), (7, 68, .pointer (some ⟨b22, 0, none⟩)), (8, 69, .pointer (some ⟨b22, 0, none⟩)), (9, 70, v18), (10, 71, .pointer (some ⟨b39, 0, none⟩)), (11, 72, .int .i64 ((nth es.l i).op)), (12, 73, .pointer (some (padr v18 1 (((nth es.l i).op).toNat) 0))), (13, 74, (nth M (((nth es.l i).op).toNat)).v), (14, 75, .agg #[.int .i64 ((nth es.l i).op), .int .i64 ((nth es.l i).a), .int .i64 ((nth es.l i).b), .int .i64 ((nth es.l i).c)]), (15, 76, v7015), (16, 77, v7016), (17, 78, .pointer (some (padr v18 1 (((nth es.l i).op).toNat) 0)))] a := hfr.more (by
      intro k j d v hk hS
      rcases k with _ | _ | _ | _ | _ | _ | _ | _ | _ | _ | _ | _ | _ | _ | _ | _ | _ | _ | k
      ·obtain ⟨rfl, rfl, rfl⟩ : _ = j ∧ _ = d ∧ _ = v := by simpa using hk
       exact hfr.at_ 0 _ _ _ rfl hS
      ·obtain ⟨rfl, rfl, rfl⟩ : _ = j ∧ _ = d ∧ _ = v := by simpa using hk
       exact hfr.at_ 1 _ _ _ rfl hS
      ·obtain ⟨rfl, rfl, rfl⟩ : _ = j ∧ _ = d ∧ _ = v := by simpa using hk
       exact hfr.at_ 2 _ _ _ rfl hS
      ·obtain ⟨rfl, rfl, rfl⟩ : _ = j ∧ _ = d ∧ _ = v := by simpa using hk
       exact hfr.at_ 3 _ _ _ rfl hS
      ·obtain ⟨rfl, rfl, rfl⟩ : _ = j ∧ _ = d ∧ _ = v := by simpa using hk
       exact hfr.at_ 4 _ _ _ rfl hS
      ·obtain ⟨rfl, rfl, rfl⟩ : _ = j ∧ _ = d ∧ _ = v := by simpa using hk
       exact hfr.at_ 5 _ _ _ rfl hS
      ·obtain ⟨rfl, rfl, rfl⟩ : _ = j ∧ _ = d ∧ _ = v := by simpa using hk
       exact hfr.at_ 6 _ _ _ rfl hS
      ·obtain ⟨rfl, rfl, rfl⟩ : _ = j ∧ _ = d ∧ _ = v := by simpa using hk
       exact hfr.at_ 7 _ _ _ rfl hS
      ·obtain ⟨rfl, rfl, rfl⟩ : _ = j ∧ _ = d ∧ _ = v := by simpa using hk
       exact hfr.at_ 8 _ _ _ rfl hS
      ·obtain ⟨rfl, rfl, rfl⟩ : _ = j ∧ _ = d ∧ _ = v := by simpa using hk
       exact hfr.at_ 9 _ _ _ rfl hS
      ·obtain ⟨rfl, rfl, rfl⟩ : _ = j ∧ _ = d ∧ _ = v := by simpa using hk
       exact hfr.at_ 10 _ _ _ rfl hS
      ·obtain ⟨rfl, rfl, rfl⟩ : _ = j ∧ _ = d ∧ _ = v := by simpa using hk
       exact hfr.at_ 11 _ _ _ rfl hS
      ·obtain ⟨rfl, rfl, rfl⟩ : _ = j ∧ _ = d ∧ _ = v := by simpa using hk
       exact hfr.at_ 12 _ _ _ rfl hS
      ·obtain ⟨rfl, rfl, rfl⟩ : _ = j ∧ _ = d ∧ _ = v := by simpa using hk
       exact hfr.at_ 13 _ _ _ rfl hS
      ·obtain ⟨rfl, rfl, rfl⟩ : _ = j ∧ _ = d ∧ _ = v := by simpa using hk
       exact hfr.at_ 14 _ _ _ rfl hS
      ·obtain ⟨rfl, rfl, rfl⟩ : _ = j ∧ _ = d ∧ _ = v := by simpa using hk
       exact hfr.at_ 15 _ _ _ rfl hS
      ·obtain ⟨rfl, rfl, rfl⟩ : _ = j ∧ _ = d ∧ _ = v := by simpa using hk
       exact hfr.at_ 16 _ _ _ rfl hS
      ·obtain ⟨rfl, rfl, rfl⟩ : _ = j ∧ _ = d ∧ _ = v := by simpa using hk
       exact hfr.at_ 17 _ _ _ rfl hS
      · simp at hk)
     exact Or.inr (Or.inr (Or.inr (⟨un rfl hw15, un rfl hw16, upd_self _ _, v7015, v7016, hm166.none ht166 h166.fr.defers rfl, (h166.sh.sel (L' := [.own 36 (⟨v7015, [(nth es.l i)]⟩ : Ls Ins), .blk b39 36 [.int .i64 ((nth es.l i).op), .int .i64 ((nth es.l i).a), .int .i64 ((nth es.l i).b), .int .i64 ((nth es.l i).c)], .blk b22 90 [v18, .map (some g19)], .big (seenX 24 g19 ([] : List (List Nat × Ls (Ls Int)))), .big (matX (.own 36) 37 v18 (M.set (((nth es.l i).op).toNat) (⟨v7016, (nth M (((nth es.l i).op).toNat)).l ++ ([(nth es.l i)])⟩ : Ls Ins))), .blk b4 31 [.int .i64 0, .int .i64 0, .int .i64 0], .at_ ws, .at_ es]) [0, 1, 2, 3, 4, 5, 6, 7] (by decide) ⟨rfl, rfl, rfl, rfl, rfl, rfl, rfl, rfl, trivial⟩)⟩)))
    ·
     exact no_way hw18 hSi
   · simp at ho
  intro S hall a w hI
  clear h126
  rcases hI with ⟨hw15, hw16, hw18, hfr, hsh⟩ | ⟨hw15, hw16, hw18, v7015, hfr, hsh⟩ | ⟨hw15, hw16, hw18, v7015, v7016, hfr, hsh⟩ | ⟨hw15, hw16, hw18, v7015, v7016, hfr, hsh⟩
  · exact no_way (hall 15 (by decide)) hw15
  · exact no_way (hall 16 (by decide)) hw16
  · exact no_way (hall 18 (by decide)) hw18
  have h167 : St 86 (fun _ => False) W a w _ [.own 36 (⟨v7015, [(nth es.l i)]⟩ : Ls Ins), .blk b39 36 [.int .i64 ((nth es.l i).op), .int .i64 ((nth es.l i).a), .int .i64 ((nth es.l i).b), .int .i64 ((nth es.l i).c)], .blk b22 90 [v18, .map (some g19)], .big (seenX 24 g19 ([] : List (List Nat × Ls (Ls Int)))), .big (matX (.own 36) 37 v18 (M.set (((nth es.l i).op).toNat) (⟨v7016, (nth M (((nth es.l i).op).toNat)).l ++ ([(nth es.l i)])⟩ : Ls Ins))), .blk b4 31 [.int .i64 0, .int .i64 0, .int .i64 0], .at_ ws, .at_ es] := ⟨hfr.fr0, hsh⟩
  clear hall hfr hsh hw15 hw16 hw18
  refine hK34 _ _ ?_
  refine wp_region_lit ?_
  refine wv h167 (r_addN (p := i) (q := 1) rfl rfl rfl (show i + 1 < 9223372036854775808 from (by omega))) rfl rfl fun a168 h168 => ?_; clear h167
  refine wms 1 h168 rfl fun a169 h169 => ?_; clear h168
  refine wpList_nil ?_
  refine x_again ⟨_, ?_, i + 1, M.set (((nth es.l i).op).toNat) (⟨v7016, (nth M (((nth es.l i).op).toNat)).l ++ ([(nth es.l i)])⟩ : Ls Ins), ?_, ?_, ?_, ?_, h169.nrm ⟨rfl, rfl, rfl, rfl, rfl, rfl, trivial⟩ [2, 3, 4, 5, 6, 7] (by decide) ⟨rfl, rfl, rfl, rfl, rfl, rfl, trivial⟩, rfl⟩
  · rw [hm29]; first | omega | (simp only [lens9]; omega)
  · omega
  · rw [List.length_set]; exact hM
  · exact rows_next hM (by omega) (by omega) hrows0
  · exact lens_next (by omega) hlen0
 have hp33 : ¬ (i < es.l.length) := of_decide_eq_false hb33
 refine wp_exit ?_
 refine hK24 _ _ ?_
 have h170 := h31.sel (L' := [.big (matX (.own 36) 37 v18 M), .blk b22 90 [v18, .map (some g19)], .big (seenX 24 g19 ([] : List (List Nat × Ls (Ls Int)))), .blk b4 31 [.int .i64 0, .int .i64 0, .int .i64 0], .at_ ws, .at_ es]) [2, 0, 1, 3, 4, 5] (by decide) ⟨rfl, rfl, rfl, rfl, rfl, rfl, trivial⟩
 have h171 : St 86 (fun _ => False) W a31 w29 _ _ := ⟨h170.fr, (h170.sh.matDeep own_mat).shareDeep 0 rfl⟩
 clear h170
 have hrows : ∀ t, t < 4 → (nth M t).l = rowE es.l t := fun t ht => by rw [hrows0 t ht, List.take_of_length_le (by omega)]
 refine wp_seq_k fun K172 hK172 => wp_region_lit ?_
 refine wms 1 h171 rfl fun a173 h173 => ?_; clear h171
 refine wv h173 (r_build (cs := [.int .i64 0, .int .i64 0, .int .i64 0, .int .i64 0]) rfl rfl (by kernel_rfl)) rfl rfl fun a174 h174 => ?_; clear h173
 refine wms 1 h174 rfl fun a175 h175 => ?_; clear h174
 refine wl_ex (x_call h175 bd_58 rfl rfl rfl rfl rfl (cloneI_c ws _ (h175.sh.at 4 rfl) (by first | omega | (simp only [lens9]; omega)))) (wanted_none rfl _) ?_
 rintro a176 w176 ⟨_, ⟨s176, rfl, hs176⟩, hf176⟩
 have h176 := (⟨hf176, h175.sh.call hs176 (by intro A hA b hb; first | (simp at hA; done) | (simp at hA; subst hA; first | exact Flat.noRd hb | exact (hb : False).elim) | (simp at hA; rcases hA with rfl | rfl <;> first | exact Flat.noRd hb | exact (hb : False).elim))⟩ : St 86 (fun _ => False) W a176 w176 _ _)
 clear hf176 hs176
 clear h175
 have h177 : St 86 (fun _ => False) W a176 w176 _ _ := ⟨h176.fr, h176.sh.share 0 rfl⟩
 clear h176
 have h178 := h177.sel (L' := [.big (seenX 24 g19 ([] : List (List Nat × Ls (Ls Int)))), .blk b22 90 [v18, .map (some g19)], .at_ (⟨s176.v, ws.l⟩ : Ls Int), .at_ (⟨v18, M⟩ : Ls (Ls Ins)), .blk b4 31 [.int .i64 0, .int .i64 0, .int .i64 0], .at_ ws, .at_ es]) [3, 2, 0, 1, 4, 5, 6] (by decide) ⟨rfl, rfl, rfl, rfl, rfl, rfl, rfl, trivial⟩
 have hp179 := h178.sh.passL (Lp := [.big (seenX 24 g19 ([] : List (List Nat × Ls (Ls Int)))), .blk b22 90 [v18, .map (some g19)], .at_ (⟨s176.v, ws.l⟩ : Ls Int), .at_ (⟨v18, M⟩ : Ls (Ls Ins))])
 refine wl_ex (x_call h178 bd_57 rfl rfl rfl rfl rfl (from_c (⟨v18, M⟩ : Ls (Ls Ins)) b22 g19 _ (hok_of hok hM hrows) _ [0, 0, 0, 0] (⟨s176.v, ws.l⟩ : Ls Int) (Nat.le_refl _) _ [] _ (pok_zero hM) rfl keys_zero (room_zero hok hM hrows) (seen_zero _ _) hp179)) (wanted_none rfl _) ?_
 rintro a180 w180 ⟨_, ⟨N180, rfl, hk180, hc180, hi180, ho180, hr180, hs180⟩, hf180⟩
 have h180 : St 86 (fun _ => False) W a180 w180 _ [.big (seenX 24 g19 N180), .blk b22 90 [v18, .map (some g19)], .at_ (⟨s176.v, ws.l⟩ : Ls Int), .at_ (⟨v18, M⟩ : Ls (Ls Ins)), .blk b4 31 [.int .i64 0, .int .i64 0, .int .i64 0], .at_ ws, .at_ es] := ⟨hf180, h178.sh.backL (Lp := [.big (seenX 24 g19 ([] : List (List Nat × Ls (Ls Int)))), .blk b22 90 [v18, .map (some g19)], .at_ (⟨s176.v, ws.l⟩ : Ls Int), .at_ (⟨v18, M⟩ : Ls (Ls Ins))]) hs180 (by intro A hA b hb; simp only [List.mem_cons, List.not_mem_nil, or_false] at hA; rcases hA with rfl | rfl | rfl | rfl <;> first | exact (hb : False).elim | exact Flat.noRd hb | exact .inl ⟨_, List.mem_cons_self .., .inr hb⟩ | exact seen_back hb rfl hr180 | exact .inl ⟨_, by simp, .inr hb⟩)⟩
 clear hf180 hs180
 clear h178
 refine wv h180 (r_build (cs := [.int .i64 0, .int .i64 0, .int .i64 0]) rfl rfl (by kernel_rfl)) rfl rfl fun a181 h181 => ?_; clear h180
 refine wms 1 h181 rfl fun a182 h182 => ?_; clear h181
 refine wl_ex (x_stb (i := 4) (vs := [.int .i64 0, .int .i64 0, .int .i64 0]) (cs' := [.int .i64 0, .int .i64 0, .int .i64 0]) h182 ti_31 rfl rfl rfl rfl rfl rfl rfl (allOne_cons rfl (allOne_cons rfl (allOne_cons rfl allOne_nil))) (Nat.le_of_ble_eq_true rfl) rfl) (wanted_none rfl _) ?_
 rintro a183 w183 h183
 clear h182
 refine wpList_nil (hK172 _ _ ?_)
 refine wp_ret ?_
 try simp only [Exit.then, Exit.inBlock]
 refine x_rettc (fn := Try.f21) (t := 5) (u := 4) (i := 4) ti_31 rfl h183 rfl rfl rfl rfl ?_
 refine ⟨?_, (h183.sh.sel [] (by decide) trivial)⟩
 rw [thr_of hM hrows]; rfl

end Go.Proofs.Ytanhbpofhebbaaa
