/-
  Contracts of functions of this program and of the references, each walked once.
-/
import Derived.Test.YtfpaahkleienoaaX0
import Derived.Test.YtfpaahkleienoaaC1
namespace Go.Proofs.Ytfpaahkleienoaa
open Go.RowKit
set_option linter.unusedSimpArgs false
set_option linter.unusedVariables false


theorem take_succ_nth {α : Type} [Inhabited α] (l : List α) (k : Nat) (h : k < l.length) : l.take (k + 1) = l.take k ++ [nth l k] := by
  rw [List.take_succ_eq_append_getElem h, nth_lt l k h]
theorem ext_nth {α : Type} [Inhabited α] (l m : List α) (hl : l.length = m.length) (h : ∀ i, i < l.length → nth l i = nth m i) : l = m := by
  apply List.ext_getElem hl
  intro i h1 h2
  have := h i h1
  rwa [nth_lt l i h1, nth_lt m i h2] at this

def endF (code : List Ins) : Nat → Nat → Nat
  | 0, at_ => at_
  | n + 1, at_ => if at_ < code.length ∧ (nth code at_).op = 14 then endF code n (nth code at_).a.toNat else at_
theorem endF_stop (code : List Ins) (n at_ : Nat) (h : ¬ (at_ < code.length ∧ (nth code at_).op = 14)) : endF code n at_ = at_ := by
  cases n <;> simp [endF, h]
theorem endF_go (code : List Ins) (n at_ : Nat) (h : at_ < code.length) (h2 : (nth code at_).op = 14) (hn : 0 < n) : endF code n at_ = endF code (n - 1) (nth code at_).a.toNat := by
  obtain ⟨m, rfl⟩ : ∃ m, n = m + 1 := ⟨n - 1, by omega⟩
  simp [endF, h, h2]
/-- Every jump of a thread leads to a place of it. -/
def JumpsOK (code : List Ins) : Prop := ∀ i, i < code.length → ((nth code i).op = 14 → 0 ≤ (nth code i).a ∧ (nth code i).a ≤ code.length) ∧ ((nth code i).op = 15 → 0 ≤ (nth code i).b ∧ (nth code i).b ≤ code.length)

def placeL (become : List (List Ins)) (i : Nat) : Nat := ((become.take i).map List.length).sum
theorem placeL_succ (become : List (List Ins)) (i : Nat) (h : i < become.length) : placeL become (i + 1) = placeL become i + (nth become i).length := by
  unfold placeL
  rw [take_succ_nth _ _ h]
  simp
instance : DecidableEq Pg := fun p q => by
  rcases p with ⟨a, b, c, d⟩; rcases q with ⟨a', b', c', d'⟩
  exact decidable_of_iff (a = a' ∧ b = b' ∧ c = c' ∧ d = d') (by simp)
section
variable {code code2 : Ls (Ls Ins)} {words words2 : Ls Int} {locks regs locks2 regs2 : Int}
end
set_option maxRecDepth 100000 in
set_option maxHeartbeats 1000000 in
theorem jend_c (code : Ls Ins) (at0 : Nat) (W : World) (hc : code.At W) (hj : JumpsOK code.l) (h0 : at0 ≤ code.l.length) :
    Rets Try.prog 49 [code.v, .int .i64 ((at0 : Nat) : Int)] W (fun v w' => v = .int .i64 ((endF code.l code.l.length at0 : Nat) : Int) ∧ Sh0 W w' []) := by
 refine x_enter (N := 28) Try.func49 rfl Try.ntmps49 (Nat.le_of_ble_eq_true rfl) fun a1 hf1 => ?_
 have h1 : St 28 (fun _ => False) W a1 W [(0, code.v), (1, .int .i64 ((at0 : Nat) : Int))] [.at_ code] := ⟨hf1.sub ⟨rfl, rfl, trivial⟩, Sh0.ext1 hc⟩
 clear hf1
 refine wp_seq_k fun K2 hK2 => wp_region_lit ?_
 refine wms 1 h1 rfl fun a3 h3 => ?_; clear h1
 refine wpList_nil (hK2 _ _ ?_)
 refine wp_seq_k fun K4 hK4 => ?_
 refine wp_seq_k fun K5 hK5 => wp_region_lit ?_
 refine wms 1 h3 rfl fun a6 h6 => ?_; clear h3
 have hl7 : code.l.length ≤ 140737488355328 := (h6.sh.at 0 rfl).len
 refine wv h6 (r_len (s := code) (n := code.l.length) sl_33 rfl rfl (fun w h => (h.at 0 rfl)) rfl) rfl rfl fun a8 h8 => ?_; clear h6
 refine wms 1 h8 rfl fun a9 h9 => ?_; clear h8
 refine wpList_nil (hK5 _ _ ?_)
 refine wp_block ?_
 refine x_loop (fun m a w => ∃ (cur k : Nat), (cur ≤ code.l.length) ∧ (k ≤ code.l.length) ∧ (endF code.l (code.l.length - k) cur = endF code.l code.l.length at0) ∧ St 28 (fun _ => False) W a w [(0, code.v), (1, .int .i64 ((cur : Nat) : Int)), (6, .int .i64 ((code.l.length : Nat) : Int)), (7, .int .i64 ((k : Nat) : Int))] [.at_ code] ∧ m = code.l.length - k) ⟨_, at0, 0, (h0), (by omega), (rfl), h9.nrm ⟨rfl, rfl, rfl, rfl, trivial⟩ [0] (by decide) ⟨rfl, trivial⟩, rfl⟩ ?_
 clear h9
 rintro m10 a10 w10 ⟨cur, k, hcur, hk, he, h10, hm10⟩
 refine wp_seq_k fun K11 hK11 => wp_region_lit ?_
 refine wv h10 (r_lssN (p := k) (q := code.l.length) rfl rfl rfl) rfl rfl fun a12 h12 => ?_; clear h10
 refine wpList_nil (hK11 _ _ ?_)
 refine wp_seq_k fun K13 hK13 => ?_
 refine x_cond h12 rfl (fun hb14 => ?_) (fun hb14 => ?_)
 ·
  have hp14 : k < code.l.length := of_decide_eq_true hb14
  refine wp_skip ?_
  refine hK13 _ _ ?_
  refine wp_seq_k fun K15 hK15 => ?_
  refine wp_block ?_
  refine wp_seq_k fun K16 hK16 => ?_
  refine wp_seq_k fun K17 hK17 => wp_region_lit ?_
  refine wms 2 h12 rfl fun a18 h18 => ?_; clear h12
  refine wv h18 (r_len (s := code) (n := code.l.length) sl_33 rfl rfl (fun w h => (h.at 0 rfl)) rfl) rfl rfl fun a19 h19 => ?_; clear h18
  refine wv h19 (r_eqlN (p := cur) (q := code.l.length) rfl rfl rfl) rfl rfl fun a20 h20 => ?_; clear h19
  refine wms 1 h20 rfl fun a21 h21 => ?_; clear h20
  rcases Bool.eq_false_or_eq_true (decide (cur = code.l.length)) with hb22 | hb22
  ·
   have hp22 : cur = code.l.length := of_decide_eq_true hb22
   refine wl_skip h21 (wanted_no h21.fr rfl rfl rfl rfl hb22) rfl rfl fun a23 h23 => ?_; clear h21
   refine wl_skip h23 (wanted_no h23.fr rfl rfl rfl rfl hb22) rfl rfl fun a24 h24 => ?_; clear h23
   refine wl_skip h24 (wanted_no h24.fr rfl rfl rfl rfl hb22) rfl rfl fun a25 h25 => ?_; clear h24
   refine wl_skip h25 (wanted_no h25.fr rfl rfl rfl rfl hb22) rfl rfl fun a26 h26 => ?_; clear h25
   refine wl_skip h26 (wanted_no h26.fr rfl rfl rfl rfl hb22) rfl rfl fun a27 h27 => ?_; clear h26
   refine wl_skip h27 (wanted_no h27.fr rfl rfl rfl rfl hb22) rfl rfl fun a28 h28 => ?_; clear h27
   refine wv h28 (r_pickT rfl rfl hb22 rfl) rfl rfl fun a29 h29 => ?_; clear h28
   refine wpList_nil (hK17 _ _ ?_)
   refine x_condT h29 rfl rfl ?_
   refine wp_exit ?_
   refine hK4 _ _ ?_
   refine wp_seq_k fun K30 hK30 => wp_region_lit ?_
   refine wms 2 h29 rfl fun a31 h31 => ?_; clear h29
   refine wpList_nil (hK30 _ _ ?_)
   refine wp_ret ?_
   try simp only [Exit.then, Exit.inBlock]
   refine x_ret1 (fn := Try.f49) (t := 4) rfl h31 rfl ?_
   refine ⟨?_, (h31.sh.sel [] (by decide) trivial)⟩
   first | rw [← he, show code.l.length - k = 0 by omega]; rfl | rw [← he, endF_stop]; (first | omega | (intro h; simp_all; done) | (intro h; omega))
  have hp22 : ¬ (cur = code.l.length) := of_decide_eq_false hb22
  refine wl_val h21 (r_move rfl rfl) (wanted_yes h21.fr rfl rfl rfl rfl hb22) rfl rfl fun a32 h32 => ?_; clear h21
  refine wl_val h32 (r_move rfl rfl) (wanted_yes h32.fr rfl rfl rfl rfl hb22) rfl rfl fun a33 h33 => ?_; clear h32
  refine wl_val h33 (r_ixN (s := code) (q := cur) sl_33 ti_32 rfl rfl rfl (fun w h => (h.at 0 rfl)) (show cur < code.l.length from (by omega))) (wanted_yes h33.fr rfl rfl rfl rfl hb22) rfl rfl fun a34 h34 => ?_; clear h33
  refine wl_val h34 (r_fieldE (r := 0) fl_32_0 rfl rfl rfl) (wanted_yes h34.fr rfl rfl rfl rfl hb22) rfl rfl fun a35 h35 => ?_; clear h34
  refine wl_val h35 (r_lde (s := code) (i := cur) (v := .int .i64 ((nth code.l cur).op)) ti_3 rfl rfl rfl (fun w h => (h.at 0 rfl)) (show cur < code.l.length from (by omega)) (Nat.le_of_ble_eq_true rfl) rfl) (wanted_yes h35.fr rfl rfl rfl rfl hb22) rfl rfl fun a36 h36 => ?_; clear h35
  refine wl_val h36 (r_neqI (p := (nth code.l cur).op) (q := 14) rfl rfl rfl) (wanted_yes h36.fr rfl rfl rfl rfl hb22) rfl rfl fun a37 h37 => ?_; clear h36
  refine wv h37 (r_pickF rfl rfl hb22 rfl) rfl rfl fun a38 h38 => ?_; clear h37
  refine wpList_nil (hK17 _ _ ?_)
  refine x_cond h38 rfl (fun hb39 => ?_) (fun hb39 => ?_)
  ·
   have hp39 : (nth code.l cur).op ≠ 14 := of_decide_eq_true hb39
   refine wp_exit ?_
   refine hK4 _ _ ?_
   refine wp_seq_k fun K40 hK40 => wp_region_lit ?_
   refine wms 2 h38 rfl fun a41 h41 => ?_; clear h38
   refine wpList_nil (hK40 _ _ ?_)
   refine wp_ret ?_
   try simp only [Exit.then, Exit.inBlock]
   refine x_ret1 (fn := Try.f49) (t := 4) rfl h41 rfl ?_
   refine ⟨?_, (h41.sh.sel [] (by decide) trivial)⟩
   first | rw [← he, show code.l.length - k = 0 by omega]; rfl | rw [← he, endF_stop]; (first | omega | (intro h; simp_all; done) | (intro h; omega))
  have hp39 : ¬ ((nth code.l cur).op ≠ 14) := of_decide_eq_false hb39
  refine wp_skip ?_
  refine hK16 _ _ ?_
  refine wp_region_lit ?_
  refine wms 2 h38 rfl fun a42 h42 => ?_; clear h38
  refine wv h42 (r_ixN (s := code) (q := cur) sl_33 ti_32 rfl rfl rfl (fun w h => (h.at 0 rfl)) (show cur < code.l.length from (by omega))) rfl rfl fun a43 h43 => ?_; clear h42
  refine wv h43 (r_fieldE (r := 1) fl_32_1 rfl rfl rfl) rfl rfl fun a44 h44 => ?_; clear h43
  refine wv h44 (r_lde (s := code) (i := cur) (v := .int .i64 ((nth code.l cur).a)) ti_3 rfl rfl rfl (fun w h => (h.at 0 rfl)) (show cur < code.l.length from (by omega)) (Nat.le_of_ble_eq_true rfl) rfl) rfl rfl fun a45 h45 => ?_; clear h44
  refine wms 1 h45 rfl fun a46 h46 => ?_; clear h45
  refine wpList_nil (hK15 _ _ ?_)
  refine wp_region_lit ?_
  refine wv h46 (r_addN (p := k) (q := 1) rfl rfl rfl (show k + 1 < 9223372036854775808 from (by omega))) rfl rfl fun a47 h47 => ?_; clear h46
  refine wms 1 h47 rfl fun a48 h48 => ?_; clear h47
  refine wpList_nil ?_
  have h49 := h48.cast (d := 1) (e := (nth code.l cur).a) rfl (show 0 ≤ (nth code.l cur).a from ((hj cur (by omega)).1 (by simp_all)).1)
  clear h48
  refine x_again ⟨_, ?_, ((nth code.l cur).a).toNat, k + 1, ?_, ?_, ?_, h49.nrm ⟨rfl, rfl, rfl, rfl, trivial⟩ [0] (by decide) ⟨rfl, trivial⟩, rfl⟩
  · rw [hm10]; first | omega | (simp only [lens9]; omega)
  · have := ((hj cur (by omega)).1 (by simp_all)).2; omega
  · omega
  · rw [← he, endF_go code.l (code.l.length - k) cur (by omega) (by simp_all) (by omega)]; congr 1
 have hp14 : ¬ (k < code.l.length) := of_decide_eq_false hb14
 refine wp_exit ?_
 refine hK4 _ _ ?_
 refine wp_seq_k fun K50 hK50 => wp_region_lit ?_
 refine wms 2 h12 rfl fun a51 h51 => ?_; clear h12
 refine wpList_nil (hK50 _ _ ?_)
 refine wp_ret ?_
 try simp only [Exit.then, Exit.inBlock]
 refine x_ret1 (fn := Try.f49) (t := 4) rfl h51 rfl ?_
 refine ⟨?_, (h51.sh.sel [] (by decide) trivial)⟩
 first | rw [← he, show code.l.length - k = 0 by omega]; rfl | rw [← he, endF_stop]; (first | omega | (intro h; simp_all; done) | (intro h; omega))

theorem jend_cI (code : Ls Ins) (at0 : Int) (W : World) (hc : code.At W) (hj : JumpsOK code.l) (h0 : 0 ≤ at0 ∧ at0 ≤ code.l.length) : Rets Try.prog 49 [code.v, .int .i64 at0] W (fun v w' => v = .int .i64 ((endF code.l code.l.length at0.toNat : Nat) : Int) ∧ Sh0 W w' []) := by
  have := jend_c code at0.toNat W hc hj (by omega)
  rwa [Int.toNat_of_nonneg h0.1] at this
end Go.Proofs.Ytfpaahkleienoaa
