/-
  An order with its registers given. The document.
-/
import Derived.Test.YtfpaahkleienoaaX52
import Derived.Test.YtfpaahkleienoaaX33
import Derived.Test.YtfpaahkleienoaaX76
namespace Go.Proofs.Ytfpaahkleienoaa
open Go.RowKit
set_option linter.unusedSimpArgs false
set_option linter.unusedVariables false


/-- Where a register stands. -/
def colr (cl : List Int) (r d : Int) : Int := if nth cl r.toNat < 0 then d else nth cl r.toNat
def plcF (cl : List Int) (x : Ins) (m : Nat) (j : Nat) : Int := if j < m then colr cl (nth (rdG x) j) ((6 + j : Nat) : Int) else 0
/-- What is put in ahead of an order. -/
def ldK (cl wd : List Int) (x : Ins) (k : Nat) : List Ins := if nth cl (nth (rdG x) k).toNat < 0 then [(⟨8, ((6 + k : Nat) : Int), nth wd (nth (rdG x) k).toNat, 0⟩ : Ins)] else []
def ldL (cl wd : List Int) (x : Ins) (m : Nat) : List Ins := (List.range m).flatMap (ldK cl wd x)
theorem ldL_succ (cl wd : List Int) (x : Ins) (m : Nat) : ldL cl wd x (m + 1) = ldL cl wd x m ++ ldK cl wd x m := by simp [ldL, List.range_succ]
/-- An order's numbers, given anew up to one. -/
def ptS (g : Nat → Int) (wv : Int) (x : Ins) : Nat → Ins × Nat
  | 0 => (x, 0)
  | n + 1 => if kAt (kindsB x.op) n = 114 then (if n = 0 ∧ 0 ≤ wrG x then (putK (ptS g wv x n).1 n wv, (ptS g wv x n).2) else (putK (ptS g wv x n).1 n (g (ptS g wv x n).2), (ptS g wv x n).2 + 1)) else ptS g wv x n
/-- What an order becomes. -/
def paintL (cl wd : List Int) (x : Ins) : List Ins := ldL cl wd x (rdG x).length ++ ((ptS (plcF cl x (rdG x).length) (colr cl (wrG x) 6) x (kindsB x.op).size).1 :: (if 0 ≤ wrG x ∧ nth cl (wrG x).toNat < 0 then [⟨9, nth wd (wrG x).toNat, 6, 0⟩] else []))
section
variable {cl wd pl : List Int} {x y : Ins} {k n k2 : Nat} {ol : List Ins} {g : Nat → Int} {wv : Int}
theorem nth_rep0 (m j : Nat) : nth (List.replicate m (0 : Int)) j = 0 := by
  rcases Nat.lt_or_ge j m with h | h
  · exact nth_replicate _ _ _ h
  · simp [nth, List.getD, h]
theorem nth_set_self {l : List Int} {i : Nat} {v : Int} (h : i < l.length) : nth (l.set i v) i = v := by rw [nth_set, if_pos ⟨rfl, h⟩]
theorem plcF_succ (cl : List Int) (x : Ins) (k j : Nat) : plcF cl x (k + 1) j = if j = k then colr cl (nth (rdG x) k) ((6 + k : Nat) : Int) else plcF cl x k j := by
  unfold plcF
  by_cases h : j = k
  · subst h; rw [if_pos (by omega), if_pos rfl]
  · rw [if_neg h]
    by_cases h2 : j < k
    · rw [if_pos (by omega), if_pos h2]
    · rw [if_neg (by omega), if_neg h2]
theorem pl_no (hp : ∀ j, nth pl j = plcF cl x k j) (hk : k < pl.length) (hc : ¬ nth (pl.set k (nth cl (nth (rdG x) k).toNat)) k < 0) : ∀ j, nth (pl.set k (nth cl (nth (rdG x) k).toNat)) j = plcF cl x (k + 1) j := by
  intro j
  rw [nth_set_self hk] at hc
  rw [plcF_succ, nth_set]
  by_cases h : k = j
  · subst h; rw [if_pos ⟨rfl, hk⟩, if_pos rfl, colr, if_neg hc]
  · rw [if_neg (fun h9 => h h9.1), if_neg (fun h9 => h h9.symm), hp]
theorem pl_yes (hp : ∀ j, nth pl j = plcF cl x k j) (hk : k < pl.length) (hc : nth (pl.set k (nth cl (nth (rdG x) k).toNat)) k < 0) : ∀ j, nth ((pl.set k (nth cl (nth (rdG x) k).toNat)).set k ((6 + k : Nat) : Int)) j = plcF cl x (k + 1) j := by
  intro j
  rw [nth_set_self hk] at hc
  rw [List.set_set, plcF_succ, nth_set]
  by_cases h : k = j
  · subst h; rw [if_pos ⟨rfl, hk⟩, if_pos rfl, colr, if_pos hc]
  · rw [if_neg (fun h9 => h h9.1), if_neg (fun h9 => h h9.symm), hp]
theorem ld_no (h : ol = ldL cl wd x k) (hk : k < pl.length) (hc : ¬ nth (pl.set k (nth cl (nth (rdG x) k).toNat)) k < 0) : ol = ldL cl wd x (k + 1) := by
  rw [nth_set_self hk] at hc
  rw [ldL_succ, ldK, if_neg hc, List.append_nil]; exact h
theorem ld_yes (h : ol = ldL cl wd x k) (hk : k < pl.length) (hc : nth (pl.set k (nth cl (nth (rdG x) k).toNat)) k < 0) : ol ++ [(⟨8, ((6 + k : Nat) : Int), nth wd (nth (rdG x) k).toNat, 0⟩ : Ins)] = ldL cl wd x (k + 1) := by
  rw [nth_set_self hk] at hc
  rw [ldL_succ, ldK, if_pos hc, h]
theorem pt_n (h : ptS g wv x n = (y, k2)) (hk : ¬ kAt (kindsB x.op) n = 114) : ptS g wv x (n + 1) = (y, k2) := by rw [ptS, if_neg hk]; exact h
theorem pt_r (h : ptS g wv x n = (y, k2)) (hk : kAt (kindsB x.op) n = 114) (h1 : ¬ (n = 0 ∧ 0 ≤ wrG x)) : ptS g wv x (n + 1) = (putK y n (g k2), k2 + 1) := by rw [ptS, if_pos hk, if_neg h1, h]
theorem pt_w1 (h : ptS g (colr cl (wrG x) 6) x n = (y, k2)) (hk : kAt (kindsB x.op) n = 114) (h0 : n = 0) (h1 : 0 ≤ wrG x) (hc : nth ([y.a, y.b, y.c].set n (nth cl (wrG x).toNat)) n < 0) : ptS g (colr cl (wrG x) 6) x (n + 1) = (putK y n 6, k2) := by
  rw [nth_set_self (by subst h0; simp)] at hc
  rw [ptS, if_pos hk, if_pos ⟨h0, h1⟩, h, colr, if_pos hc]
theorem pt_w2 (h : ptS g (colr cl (wrG x) 6) x n = (y, k2)) (hk : kAt (kindsB x.op) n = 114) (h0 : n = 0) (h1 : 0 ≤ wrG x) (hc : ¬ nth ([y.a, y.b, y.c].set n (nth cl (wrG x).toNat)) n < 0) : ptS g (colr cl (wrG x) 6) x (n + 1) = (putK y n (nth cl (wrG x).toNat), k2) := by
  rw [nth_set_self (by subst h0; simp)] at hc
  rw [ptS, if_pos hk, if_pos ⟨h0, h1⟩, h, colr, if_neg hc]
theorem ptS_op (g : Nat → Int) (wv : Int) (x : Ins) : ∀ n, (ptS g wv x n).1.op = x.op
  | 0 => rfl
  | n + 1 => by
    rw [ptS]
    split
    · split
      · show (putK _ _ _).op = _; rw [putK_op]; exact ptS_op g wv x n
      · show (putK _ _ _).op = _; rw [putK_op]; exact ptS_op g wv x n
    · exact ptS_op g wv x n
theorem pt_ins (hp : ∀ j, nth pl j = plcF cl x k j) (hk : k = (rdG x).length) (h : ptS (fun j => nth pl j) (colr cl (wrG x) 6) x n = (y, k2)) (hn : n = (kindsB x.op).size) : (⟨x.op, nth [y.a, y.b, y.c] 0, nth [y.a, y.b, y.c] 1, nth [y.a, y.b, y.c] 2⟩ : Ins) = (ptS (plcF cl x (rdG x).length) (colr cl (wrG x) 6) x (kindsB x.op).size).1 := by
  have e : (fun j => nth pl j) = plcF cl x (rdG x).length := by funext j; rw [hp j, hk]
  rw [e, hn] at h
  have ho := ptS_op (plcF cl x (rdG x).length) (colr cl (wrG x) 6) x (kindsB x.op).size
  rw [h] at ho ⊢
  show _ = y
  rw [← show y.op = x.op from ho]
  rfl
theorem paint_1 (hp : ∀ j, nth pl j = plcF cl x k j) (hk : k = (rdG x).length) (h : ptS (fun j => nth pl j) (colr cl (wrG x) 6) x n = (y, k2)) (hn : n = (kindsB x.op).size) (hol : ol = ldL cl wd x k) (h1 : 0 ≤ wrG x) (h2 : nth cl (wrG x).toNat < 0) :
    (ol ++ [(⟨x.op, nth [y.a, y.b, y.c] 0, nth [y.a, y.b, y.c] 1, nth [y.a, y.b, y.c] 2⟩ : Ins)]) ++ [(⟨9, nth wd (wrG x).toNat, 6, 0⟩ : Ins)] = paintL cl wd x := by
  rw [pt_ins hp hk h hn, paintL, if_pos ⟨h1, h2⟩, hol, hk, List.append_assoc]; rfl
theorem paint_2 (hp : ∀ j, nth pl j = plcF cl x k j) (hk : k = (rdG x).length) (h : ptS (fun j => nth pl j) (colr cl (wrG x) 6) x n = (y, k2)) (hn : n = (kindsB x.op).size) (hol : ol = ldL cl wd x k) (h1 : ¬ (0 ≤ wrG x ∧ nth cl (wrG x).toNat < 0)) :
    ol ++ [(⟨x.op, nth [y.a, y.b, y.c] 0, nth [y.a, y.b, y.c] 1, nth [y.a, y.b, y.c] 2⟩ : Ins)] = paintL cl wd x := by
  rw [pt_ins hp hk h hn, paintL, if_neg h1, hol, hk]
end

set_option maxRecDepth 100000 in
set_option maxHeartbeats 8000000 in
theorem painted_c (x : Ins) (cl wd : Ls Int) (W : World) (hop : 1 ≤ x.op ∧ x.op ≤ 18) (hopa : x.op ≤ 8 ∨ x.op = 10 → 0 ≤ x.a) (hcl : cl.At W) (hwd : wd.At W) (hlen : wd.l.length = cl.l.length) (hrd : ∀ j, j < (rdG x).length → 0 ≤ nth (rdG x) j ∧ nth (rdG x) j < (cl.l.length : Int)) (hwr : wrG x < (cl.l.length : Int)) :
    Rets Try.prog 60 [.agg #[.int .i64 x.op, .int .i64 x.a, .int .i64 x.b, .int .i64 x.c], cl.v, wd.v] W (fun v w' => ∃ s : Ls Ins, v = s.v ∧ Sh0 W w' [.own 32 (⟨s.v, paintL cl.l wd.l x⟩ : Ls Ins)]) := by
 refine x_enter (N := 145) Try.func60 rfl Try.ntmps60 (Nat.le_of_ble_eq_true rfl) fun a1 hf1 => ?_
 have h1 : St 145 (fun _ => False) W a1 W [(0, .agg #[.int .i64 x.op, .int .i64 x.a, .int .i64 x.b, .int .i64 x.c]), (1, cl.v), (2, wd.v)] [.at_ cl, .at_ wd] := ⟨hf1.sub ⟨rfl, rfl, rfl, trivial⟩, Sh0.ext2 hcl hwd⟩
 clear hf1
 refine wp_seq_k fun K2 hK2 => wp_region_lit <| wl_ex (x_box (cs := [.int .i64 x.op, .int .i64 x.a, .int .i64 x.b, .int .i64 x.c]) h1 rfl rfl rfl rfl rfl) (wanted_none rfl _) ?_
 rintro a3 w3 ⟨b3, h3⟩; clear h1
 refine wms 1 h3 rfl fun a4 h4 => wpList_nil <| hK2 _ _ <| wp_seq_k fun K5 hK5 => wp_region_lit <| wms 1 h4 rfl fun a6 h6 => wpList_nil <| hK5 _ _ <| wp_seq_k fun K7 hK7 => wp_region_lit <| wv h6 (r_ldbw (i := 0) (vs := [.int .i64 x.op, .int .i64 x.a, .int .i64 x.b, .int .i64 x.c]) ti_32 rfl rfl rfl rfl rfl) rfl rfl fun a8 h8 => wl_ex (x_call h8 bd_109 rfl rfl rfl rfl rfl (reads_ls (rReads_c x _ hop hopa))) (wanted_none rfl _) ?_; clear h3 h4 h6
 rintro a9 w9 ⟨_, ⟨s9, rfl, hs9⟩, hf9⟩
 have h9 := (⟨hf9, h8.sh.call hs9 (by intro A hA b hb; first | (simp at hA; done) | (simp at hA; subst hA; first | exact Flat.noRd hb | exact (hb : False).elim) | (simp at hA; rcases hA with rfl | rfl <;> first | exact Flat.noRd hb | exact (hb : False).elim))⟩ : St 145 (fun _ => False) W a9 w9 _ _)
 clear hf9 hs9
 clear h8
 refine wms 1 h9 rfl fun a10 h10 => wpList_nil <| hK7 _ _ <| wp_seq_k fun K11 hK11 => wp_region_lit <| wl_ex (x_make (n := 3) (0 : Int) h10 sl_23 ti_3 rfl rfl rfl rfl rfl (show 8 * 3 ≤ 140737488355328 ∧ 3 ≤ 140737488355328 from (by omega)) (fun w => Flat.inner _ _) (fun b => Flat.on _ _) rfl rfl) (wanted_none rfl _) ?_; clear h9
 rintro a12 w12 ⟨v12, h12⟩; clear h10
 refine wms 1 h12 rfl fun a13 h13 => wpList_nil <| hK11 _ _ <| wp_seq_k fun K14 hK14 => wp_seq_k fun K15 hK15 => wp_region_lit <| wms 1 h13 rfl fun a16 h16 => wpList_nil <| hK15 _ _ <| wp_block ?_; clear h12 h13
 have h18 := h16.nil (α := Ins) 32
 clear h16
 have hrl := rdG_len x
 refine x_loop (fun m a w => ∃ (k : Nat) (pl : List Int) (ol : List Ins) (vo : Value), (k ≤ (rdG x).length) ∧ (pl.length = 3) ∧ (∀ j, nth pl j = plcF cl.l x k j) ∧ (ol = ldL cl.l wd.l x k) ∧ (ol.length ≤ k) ∧ St 145 (fun _ => False) W a w [(1, cl.v), (2, wd.v), (3, .pointer (some ⟨b3, 0, none⟩)), (7, vo), (8, s9.v), (9, v12), (10, .int .i64 ((k : Nat) : Int))] [.own 3 (⟨v12, pl⟩ : Ls Int), .own 3 (⟨s9.v, rdG x⟩ : Ls Int), .blk b3 32 [.int .i64 x.op, .int .i64 x.a, .int .i64 x.b, .int .i64 x.c], .at_ cl, .at_ wd, .own 32 (⟨vo, ol⟩ : Ls Ins)] ∧ m = (rdG x).length - k) ⟨_, 0, List.replicate 3 0, [], (.slice none 0 0), (by omega), (by simp), (fun j => by rw [nth_rep0]; unfold plcF; rw [if_neg (by omega)]), (rfl), (Nat.le_refl _), h18.nrm ⟨rfl, rfl, rfl, rfl, rfl, rfl, rfl, trivial⟩ [1, 2, 3, 4, 5, 0] (by decide) ⟨rfl, rfl, rfl, rfl, rfl, rfl, trivial⟩, rfl⟩ ?_
 clear h18
 rintro m17 a17 w17 ⟨k, pl, ol, vo, hk, hpl, hpv, hol, hon, h17, hm17⟩
 refine wp_seq_k fun K19 hK19 => wp_seq_k fun K20 hK20 => wp_region_lit <| wms 2 h17 rfl fun a21 h21 => ?_; clear h17
 have hl22 : (rdG x).length ≤ 140737488355328 := (h21.sh.own 1 rfl).len
 refine wv h21 (r_len (s := (⟨s9.v, rdG x⟩ : Ls Int)) (n := (rdG x).length) sl_23 rfl rfl (fun w h => (h.own 1 rfl)) rfl) rfl rfl fun a23 h23 => wv h23 (r_lssN (p := k) (q := (rdG x).length) rfl rfl rfl) rfl rfl fun a24 h24 => wpList_nil <| hK20 _ _ <| x_cond h24 rfl (fun hb25 => ?_) (fun hb25 => ?_); clear h21 h23
 ·have hp25 : k < (rdG x).length := of_decide_eq_true hb25
  refine wp_skip <| hK19 _ _ ?_
  have hr9 := hrd k (by omega)
  refine wp_seq_k fun K26 hK26 => wp_block <| wp_seq_k fun K27 hK27 => wp_region_lit <| wms 5 h24 rfl fun a28 h28 => wv h28 (r_ixN (s := (⟨s9.v, rdG x⟩ : Ls Int)) (q := k) sl_23 ti_3 rfl rfl rfl (fun w h => (h.own 1 rfl)) (show k < (rdG x).length from (by omega))) rfl rfl fun a29 h29 => wv h29 (r_lde (s := (⟨s9.v, rdG x⟩ : Ls Int)) (i := k) (v := .int .i64 (nth (rdG x) k)) ti_3 rfl rfl rfl (fun w h => (h.own 1 rfl)) (show k < (rdG x).length from (by omega)) (Nat.le_of_ble_eq_true rfl) rfl) rfl rfl fun a30 h30 => ?_; clear h24 h28 h29
  have hl31 : cl.l.length ≤ 140737488355328 := (h30.sh.at 3 rfl).len
  refine wv h30 (r_ixI (s := cl) (q := nth (rdG x) k) sl_23 ti_3 rfl rfl rfl (fun w h => (h.at 3 rfl)) (show 0 ≤ nth (rdG x) k ∧ nth (rdG x) k < cl.l.length from (by omega))) rfl rfl fun a32 h32 => wv h32 (r_lde (s := cl) (i := (nth (rdG x) k).toNat) (v := .int .i64 (nth cl.l ((nth (rdG x) k).toNat))) ti_3 rfl rfl rfl (fun w h => (h.at 3 rfl)) (show (nth (rdG x) k).toNat < cl.l.length from (by omega)) (Nat.le_of_ble_eq_true rfl) rfl) rfl rfl fun a33 h33 => ?_; clear h30 h32
  have hl34 : pl.length ≤ 140737488355328 := (h33.sh.own 0 rfl).len
  refine wv h33 (r_ixN (s := (⟨v12, pl⟩ : Ls Int)) (q := k) sl_23 ti_3 rfl rfl rfl (fun w h => (h.own 0 rfl)) (show k < pl.length from (by omega))) rfl rfl fun a35 h35 => wl_ex (x_ste (r := 0) (i := k) (j := 0) (x' := (nth cl.l ((nth (rdG x) k).toNat) : Int)) h35 ti_3 rfl rfl rfl rfl rfl (show k < pl.length from (by omega)) (Nat.le_of_ble_eq_true rfl) rfl rfl rfl (by intro q hq; obtain rfl : q = 0 := (by omega); rfl) (fun w h => Flat.inner _ _) (fun b hb => (Flat.on _ _ hb).elim)) (wanted_none rfl _) ?_; clear h33
  rintro a36 w36 h36
  clear h35
  refine wpList_nil <| hK27 _ _ <| wp_seq_k fun K37 hK37 => wp_region_lit <| wms 2 h36 rfl fun a38 h38 => wv h38 (r_ixN (s := (⟨v12, pl.set k (nth cl.l ((nth (rdG x) k).toNat))⟩ : Ls Int)) (q := k) sl_23 ti_3 rfl rfl rfl (fun w h => (h.own 0 rfl)) (show k < (pl.set k (nth cl.l ((nth (rdG x) k).toNat))).length from (by first | omega | (simp only [lens9]; omega)))) rfl rfl fun a39 h39 => wv h39 (r_lde (s := (⟨v12, pl.set k (nth cl.l ((nth (rdG x) k).toNat))⟩ : Ls Int)) (i := k) (v := .int .i64 (nth (pl.set k (nth cl.l ((nth (rdG x) k).toNat))) k)) ti_3 rfl rfl rfl (fun w h => (h.own 0 rfl)) (show k < (pl.set k (nth cl.l ((nth (rdG x) k).toNat))).length from (by first | omega | (simp only [lens9]; omega))) (Nat.le_of_ble_eq_true rfl) rfl) rfl rfl fun a40 h40 => wv h40 (r_lssI (p := nth (pl.set k (nth cl.l ((nth (rdG x) k).toNat))) k) (q := 0) rfl rfl rfl) rfl rfl fun a41 h41 => wpList_nil <| hK37 _ _ <| x_cond h41 rfl (fun hb42 => ?_) (fun hb42 => ?_); clear h36 h38 h39 h40
  ·have hp42 : nth (pl.set k (nth cl.l ((nth (rdG x) k).toNat))) k < 0 := of_decide_eq_true hb42
   refine wp_seq_k fun K43 hK43 => wp_region_lit <| wms 3 h41 rfl fun a44 h44 => wv h44 (r_addN (p := 6) (q := k) rfl rfl rfl (show 6 + k < 9223372036854775808 from (by omega))) rfl rfl fun a45 h45 => wv h45 (r_ixN (s := (⟨v12, pl.set k (nth cl.l ((nth (rdG x) k).toNat))⟩ : Ls Int)) (q := k) sl_23 ti_3 rfl rfl rfl (fun w h => (h.own 0 rfl)) (show k < (pl.set k (nth cl.l ((nth (rdG x) k).toNat))).length from (by first | omega | (simp only [lens9]; omega)))) rfl rfl fun a46 h46 => wl_ex (x_ste (r := 0) (i := k) (j := 0) (x' := (((6 + k : Nat) : Int) : Int)) h46 ti_3 rfl rfl rfl rfl rfl (show k < (pl.set k (nth cl.l ((nth (rdG x) k).toNat))).length from (by first | omega | (simp only [lens9]; omega))) (Nat.le_of_ble_eq_true rfl) rfl rfl rfl (by intro q hq; obtain rfl : q = 0 := (by omega); rfl) (fun w h => Flat.inner _ _) (fun b hb => (Flat.on _ _ hb).elim)) (wanted_none rfl _) ?_; clear h41 h44 h45
   rintro a47 w47 h47
   clear h46
   refine wpList_nil <| hK43 _ _ ?_
   have h48 : St 145 (fun _ => False) W a47 w47 [(1, cl.v), (2, wd.v), (3, .pointer (some ⟨b3, 0, none⟩)), (7, vo), (8, s9.v), (9, v12), (10, .int .i64 ((k : Nat) : Int))] [.own 3 (⟨v12, (pl.set k (nth cl.l ((nth (rdG x) k).toNat))).set k ((6 + k : Nat) : Int)⟩ : Ls Int), .own 3 (⟨s9.v, rdG x⟩ : Ls Int), .blk b3 32 [.int .i64 x.op, .int .i64 x.a, .int .i64 x.b, .int .i64 x.c], .at_ cl, .at_ wd, .own 32 (⟨vo, ol⟩ : Ls Ins)] := h47.nrm ⟨rfl, rfl, rfl, rfl, rfl, rfl, rfl, trivial⟩ [0, 1, 2, 3, 4, 5] (by decide) ⟨rfl, rfl, rfl, rfl, rfl, rfl, trivial⟩
   clear h47
   refine wp_region_lit <| wms 2 h48 rfl fun a49 h49 => wv h49 (r_addN (p := 6) (q := k) rfl rfl rfl (show 6 + k < 9223372036854775808 from (by omega))) rfl rfl fun a50 h50 => wms 3 h50 rfl fun a51 h51 => wv h51 (r_ixN (s := (⟨s9.v, rdG x⟩ : Ls Int)) (q := k) sl_23 ti_3 rfl rfl rfl (fun w h => (h.own 1 rfl)) (show k < (rdG x).length from (by omega))) rfl rfl fun a52 h52 => wv h52 (r_lde (s := (⟨s9.v, rdG x⟩ : Ls Int)) (i := k) (v := .int .i64 (nth (rdG x) k)) ti_3 rfl rfl rfl (fun w h => (h.own 1 rfl)) (show k < (rdG x).length from (by omega)) (Nat.le_of_ble_eq_true rfl) rfl) rfl rfl fun a53 h53 => ?_; clear h48 h49 h50 h51 h52
   have hl54 : wd.l.length ≤ 140737488355328 := (h53.sh.at 4 rfl).len
   refine wv h53 (r_ixI (s := wd) (q := nth (rdG x) k) sl_23 ti_3 rfl rfl rfl (fun w h => (h.at 4 rfl)) (show 0 ≤ nth (rdG x) k ∧ nth (rdG x) k < wd.l.length from (by omega))) rfl rfl fun a55 h55 => wv h55 (r_lde (s := wd) (i := (nth (rdG x) k).toNat) (v := .int .i64 (nth wd.l ((nth (rdG x) k).toNat))) ti_3 rfl rfl rfl (fun w h => (h.at 4 rfl)) (show (nth (rdG x) k).toNat < wd.l.length from (by omega)) (Nat.le_of_ble_eq_true rfl) rfl) rfl rfl fun a56 h56 => wv h56 (r_build (cs := [.int .i64 8, .int .i64 ((6 + k : Nat) : Int), .int .i64 (nth wd.l ((nth (rdG x) k).toNat)), .int .i64 0]) rfl rfl (by kernel_rfl)) rfl rfl fun a57 h57 => wl_ex (x_lit (n := 1) (cs := [.int .i64 8, .int .i64 ((6 + k : Nat) : Int), .int .i64 (nth wd.l ((nth (rdG x) k).toNat)), .int .i64 0]) ([(⟨8, ((6 + k : Nat) : Int), nth wd.l ((nth (rdG x) k).toNat), 0⟩ : Ins)] : List Ins) h57 sl_33 ti_32 rfl rfl rfl (by decide) rfl (by kernel_rfl) rfl (fun q hq w h => Flat.inner _ _) (fun q hq b hb => (Flat.on _ _ hb).elim) rfl rfl) (wanted_none rfl _) ?_; clear h53 h55 h56
   rintro a58 w58 ⟨v58, h58⟩; clear h57
   refine wl_ex (x_app (r := 6) (rm := 0) (s := (⟨vo, ol⟩ : Ls Ins)) (m := (⟨v58, [(⟨8, ((6 + k : Nat) : Int), nth wd.l ((nth (rdG x) k).toNat), 0⟩ : Ins)]⟩ : Ls Ins)) h58 sl_33 ti_32 rfl rfl rfl rfl rfl rfl rfl (fun w h => (h.own 0 rfl)) (fun b hb => own_on (h58.sh.ok _ (List.mem_of_getElem? (i := 0) rfl)) hb) (fun q hq b hb => ⟨q, hq, hb⟩) rfl rfl rfl inferInstance (show (ol.length + ([(⟨8, ((6 + k : Nat) : Int), nth wd.l ((nth (rdG x) k).toNat), 0⟩ : Ins)]).length) * 32 ≤ 140737488355328 ∧ ol.length + ([(⟨8, ((6 + k : Nat) : Int), nth wd.l ((nth (rdG x) k).toNat), 0⟩ : Ins)]).length ≤ 140737488355328 from (by first | omega | (simp only [lens9]; omega))) rfl rfl) (wanted_none rfl _) ?_
   rintro a59 w59 ⟨v59, h59⟩; clear h58
   refine wms 1 h59 rfl fun a60 h60 => wpList_nil <| hK26 _ _ <| wp_region_lit <| wms 1 h60 rfl fun a61 h61 => wv h61 (r_addN (p := k) (q := 1) rfl rfl rfl (show k + 1 < 9223372036854775808 from (by omega))) rfl rfl fun a62 h62 => wms 1 h62 rfl fun a63 h63 => wpList_nil <| x_again ⟨_, ?_, k + 1, (pl.set k (nth cl.l ((nth (rdG x) k).toNat))).set k ((6 + k : Nat) : Int), ol ++ ([(⟨8, ((6 + k : Nat) : Int), nth wd.l ((nth (rdG x) k).toNat), 0⟩ : Ins)]), v59, ?_, ?_, ?_, ?_, ?_, h63.nrm ⟨rfl, rfl, rfl, rfl, rfl, rfl, rfl, trivial⟩ [1, 2, 3, 4, 5, 6] (by decide) ⟨rfl, rfl, rfl, rfl, rfl, rfl, trivial⟩, rfl⟩; clear h59 h60 h61 h62
   · rw [hm17]; first | omega | (simp only [lens9]; omega)
   · omega
   · simp only [List.length_set]; exact hpl
   · first | exact pl_yes hpv (by omega) (by assumption) | exact pl_no hpv (by omega) (by assumption)
   · first | exact ld_yes hol (show k < pl.length by omega) (by assumption) | exact ld_no hol (show k < pl.length by omega) (by assumption)
   · first | omega | (simp only [lens9]; omega)
  have hp42 : ¬ (nth (pl.set k (nth cl.l ((nth (rdG x) k).toNat))) k < 0) := of_decide_eq_false hb42
  refine wp_skip <| hK26 _ _ <| wp_region_lit <| wms 1 h41 rfl fun a64 h64 => wv h64 (r_addN (p := k) (q := 1) rfl rfl rfl (show k + 1 < 9223372036854775808 from (by omega))) rfl rfl fun a65 h65 => wms 1 h65 rfl fun a66 h66 => wpList_nil <| x_again ⟨_, ?_, k + 1, pl.set k (nth cl.l ((nth (rdG x) k).toNat)), ol, vo, ?_, ?_, ?_, ?_, ?_, h66.nrm ⟨rfl, rfl, rfl, rfl, rfl, rfl, rfl, trivial⟩ [0, 1, 2, 3, 4, 5] (by decide) ⟨rfl, rfl, rfl, rfl, rfl, rfl, trivial⟩, rfl⟩; clear h41 h64 h65
  · rw [hm17]; first | omega | (simp only [lens9]; omega)
  · omega
  · simp only [List.length_set]; exact hpl
  · first | exact pl_yes hpv (by omega) (by assumption) | exact pl_no hpv (by omega) (by assumption)
  · first | exact ld_yes hol (show k < pl.length by omega) (by assumption) | exact ld_no hol (show k < pl.length by omega) (by assumption)
  · first | omega | (simp only [lens9]; omega)
 have hp25 : ¬ (k < (rdG x).length) := of_decide_eq_false hb25
 refine wp_exit <| hK14 _ _ <| wp_seq_k fun K67 hK67 => wp_region_lit <| wv h24 (r_ldbw (i := 2) (vs := [.int .i64 x.op, .int .i64 x.a, .int .i64 x.b, .int .i64 x.c]) ti_32 rfl rfl rfl rfl rfl) rfl rfl fun a68 h68 => wl_ex (x_call h68 bd_107 rfl rfl rfl rfl rfl (rWrites_c x _ hop.1)) (wanted_none rfl _) ?_; clear h24
 rintro a69 w69 ⟨_, ⟨rfl, hs69⟩, hf69⟩
 have h69 : St 145 (fun _ => False) W a69 w69 _ _ := ⟨hf69, h68.sh.call0 hs69⟩
 clear hf69 hs69
 clear h68
 refine wms 1 h69 rfl fun a70 h70 => wpList_nil <| hK67 _ _ <| wp_seq_k fun K71 hK71 => wp_region_lit <| wv h70 (r_ldbw (i := 2) (vs := [.int .i64 x.op, .int .i64 x.a, .int .i64 x.b, .int .i64 x.c]) ti_32 rfl rfl rfl rfl rfl) rfl rfl fun a72 h72 => wl_ex (x_alloc h72 ti_32 rfl rfl rfl) (wanted_none rfl _) ?_; clear h69 h70
 rintro a73 w73 ⟨b73, h73⟩; clear h72
 refine wl_ex (x_stb (i := 0) (vs := [.int .i64 x.op, .int .i64 x.a, .int .i64 x.b, .int .i64 x.c]) (cs' := [.int .i64 x.op, .int .i64 x.a, .int .i64 x.b, .int .i64 x.c]) h73 ti_32 rfl rfl rfl rfl rfl rfl rfl (allOne_cons rfl (allOne_cons rfl (allOne_cons rfl (allOne_cons rfl allOne_nil)))) (Nat.le_of_ble_eq_true rfl) rfl) (wanted_none rfl _) ?_
 rintro a74 w74 h74
 clear h73
 refine wpList_nil <| hK71 _ _ <| wp_seq_k fun K75 hK75 => wp_region_lit <| wv h74 (r_fieldB (r := 0) fl_32_0 rfl rfl rfl) rfl rfl fun a76 h76 => wv h76 (r_ldb (i := 3) ti_3 rfl rfl rfl rfl) rfl rfl fun a77 h77 => wl_ex (x_call h77 bd_56 rfl rfl rfl rfl rfl (name_r x.op _)) (wanted_none rfl _) ?_; clear h74 h76
 rintro a78 w78 ⟨_, ⟨rfl, hs78⟩, hf78⟩
 have h78 : St 145 (fun _ => False) W a78 w78 _ _ := ⟨hf78, h77.sh.call0 hs78⟩
 clear hf78 hs78
 clear h77
 refine wms 1 h78 rfl fun a79 h79 => wv h79 (r_extract rfl rfl rfl) rfl rfl fun a80 h80 => wv h80 (r_extract rfl rfl rfl) rfl rfl fun a81 h81 => wms 2 h81 rfl fun a82 h82 => wpList_nil <| hK75 _ _ <| wp_seq_k fun K83 hK83 => wp_region_lit <| wv h82 (r_ldbw (i := 3) (vs := [.int .i64 x.op, .int .i64 x.a, .int .i64 x.b, .int .i64 x.c]) ti_32 rfl rfl rfl rfl rfl) rfl rfl fun a84 h84 => wl_ex (x_call h84 bd_57 rfl rfl rfl rfl rfl (numbers1_c x _)) (wanted_none rfl _) ?_; clear h78 h79 h80 h81 h82
 rintro a85 w85 ⟨_, ⟨s85, rfl, hs85⟩, hf85⟩
 have h85 := (⟨hf85, h84.sh.call hs85 (by intro A hA b hb; first | (simp at hA; done) | (simp at hA; subst hA; first | exact Flat.noRd hb | exact (hb : False).elim) | (simp at hA; rcases hA with rfl | rfl <;> first | exact Flat.noRd hb | exact (hb : False).elim))⟩ : St 145 (fun _ => False) W a85 w85 _ _)
 clear hf85 hs85
 clear h84
 refine wms 1 h85 rfl fun a86 h86 => wpList_nil <| hK83 _ _ <| wp_seq_k fun K87 hK87 => wp_region_lit <| wms 1 h86 rfl fun a88 h88 => wpList_nil <| hK87 _ _ <| wp_seq_k fun K89 hK89 => wp_seq_k fun K90 hK90 => wp_region_lit <| wms 1 h88 rfl fun a91 h91 => wpList_nil <| hK90 _ _ ?_; clear h85 h86 h88
 refine wp_block <| x_loop (fun m a w => ∃ (n k2 : Nat) (y : Ins) (vl : Value), (n ≤ (kindsB x.op).size) ∧ (k2 ≤ n) ∧ (ptS (fun j => nth pl j) (colr cl.l (wrG x) 6) x n = (y, k2)) ∧ St 145 (fun _ => False) W a w [(1, cl.v), (2, wd.v), (7, vo), (9, v12), (11, .int .i64 (wrG x)), (12, .pointer (some ⟨b73, 0, none⟩)), (14, .string (kindsB x.op)), (15, vl), (16, .int .i64 ((k2 : Nat) : Int)), (17, .int .i64 ((n : Nat) : Int))] [.own 3 (⟨vl, [y.a, y.b, y.c]⟩ : Ls Int), .blk b73 32 [.int .i64 x.op, .int .i64 x.a, .int .i64 x.b, .int .i64 x.c], .own 3 (⟨v12, pl⟩ : Ls Int), .own 3 (⟨s9.v, rdG x⟩ : Ls Int), .blk b3 32 [.int .i64 x.op, .int .i64 x.a, .int .i64 x.b, .int .i64 x.c], .at_ cl, .at_ wd, .own 32 (⟨vo, ol⟩ : Ls Ins)] ∧ m = (kindsB x.op).size - n) ⟨_, 0, 0, x, _, (Nat.zero_le _), (Nat.le_refl _), (rfl), h91.nrm ⟨rfl, rfl, rfl, rfl, rfl, rfl, rfl, rfl, rfl, rfl, trivial⟩ [0, 1, 2, 3, 4, 5, 6, 7] (by decide) ⟨rfl, rfl, rfl, rfl, rfl, rfl, rfl, rfl, trivial⟩, rfl⟩ ?_
 clear h91
 rintro m92 a92 w92 ⟨n, k2, y, vl, hn, hk2, hy, h92, hm92⟩
 have h3 := (kinds_small x.op).1
 refine wp_seq_k fun K93 hK93 => wp_seq_k fun K94 hK94 => wp_region_lit <| wms 2 h92 rfl fun a95 h95 => wv h95 (r_lenStr (s := (kindsB x.op)) Try.underlying9 rfl rfl) rfl rfl fun a96 h96 => wv h96 (r_lssN (p := n) (q := (kindsB x.op).size) rfl rfl rfl) rfl rfl fun a97 h97 => wpList_nil <| hK94 _ _ <| x_cond h97 rfl (fun hb98 => ?_) (fun hb98 => ?_); clear h92 h95 h96
 ·have hp98 : n < (kindsB x.op).size := of_decide_eq_true hb98
  refine wp_skip <| hK93 _ _ <| wp_seq_k fun K99 hK99 => wp_block <| wp_seq_k fun K100 hK100 => wp_seq_k fun K101 hK101 => wp_region_lit <| wms 2 h97 rfl fun a102 h102 => ?_; clear h97
  have hx103 : n < (kindsB x.op).size := (by first | omega | (simp only [lens9]; omega))
  refine wv h102 (r_ixStr (s := (kindsB x.op)) (q := n) Try.underlying9 rfl rfl rfl hx103) rfl rfl fun a104 h104 => wv h104 (r_neqI (p := (((kindsB x.op)[n]'hx103).toNat : Int)) (q := 114) rfl rfl rfl) rfl rfl fun a105 h105 => wpList_nil <| hK101 _ _ <| x_cond h105 rfl (fun hb106 => ?_) (fun hb106 => ?_); clear h102 h104
  ·have hp106 : (((kindsB x.op)[n]'hx103).toNat : Int) ≠ 114 := of_decide_eq_true hb106
   refine wp_exit <| hK99 _ _ <| wp_region_lit <| wms 1 h105 rfl fun a107 h107 => wv h107 (r_addN (p := n) (q := 1) rfl rfl rfl (show n + 1 < 9223372036854775808 from (by omega))) rfl rfl fun a108 h108 => wms 1 h108 rfl fun a109 h109 => wpList_nil <| x_again ⟨_, ?_, (n + 1), k2, y, vl, ?_, ?_, ?_, h109.nrm ⟨rfl, rfl, rfl, rfl, rfl, rfl, rfl, rfl, rfl, rfl, trivial⟩ [0, 1, 2, 3, 4, 5, 6, 7] (by decide) ⟨rfl, rfl, rfl, rfl, rfl, rfl, rfl, rfl, trivial⟩, rfl⟩; clear h105 h107 h108
   · rw [hm92]; first | omega | (simp only [lens9]; omega)
   · omega
   · omega
   · first | exact pt_w1 hy (by rw [kAt_at (by assumption)]; first | assumption | omega) (by assumption) (by assumption) (by assumption) | exact pt_w2 hy (by rw [kAt_at (by assumption)]; first | assumption | omega) (by assumption) (by assumption) (by assumption) | exact pt_r hy (by rw [kAt_at (by assumption)]; first | assumption | omega) (by omega) | exact pt_n hy (by rw [kAt_at (by assumption)]; first | assumption | omega)
  have hp106 : ¬ ((((kindsB x.op)[n]'hx103).toNat : Int) ≠ 114) := of_decide_eq_false hb106
  refine wp_skip <| hK100 _ _ <| wp_seq_k fun K111 hK111 => wp_region_lit <| wms 1 h105 rfl fun a112 h112 => wv h112 (r_eqlN (p := n) (q := 0) rfl rfl rfl) rfl rfl fun a113 h113 => wms 1 h113 rfl fun a114 h114 => ?_; clear h105 h112 h113
  rcases Bool.eq_false_or_eq_true (decide (n = 0)) with hb115 | hb115
  ·have hp115 : n = 0 := of_decide_eq_true hb115
   refine wl_val h114 (r_move rfl rfl) (wanted_yes h114.fr rfl rfl rfl rfl hb115) rfl rfl fun a116 h116 => wl_val h116 (r_geqI (p := wrG x) (q := 0) rfl rfl rfl) (wanted_yes h116.fr rfl rfl rfl rfl hb115) rfl rfl fun a117 h117 => wv h117 (r_pickT rfl rfl hb115 rfl) rfl rfl fun a118 h118 => wpList_nil <| hK111 _ _ <| x_cond h118 rfl (fun hb119 => ?_) (fun hb119 => ?_); clear h114 h116 h117
   ·have hp119 : 0 ≤ wrG x := of_decide_eq_true hb119
    refine wp_seq_k fun K120 hK120 => wp_region_lit <| wms 4 h118 rfl fun a121 h121 => ?_; clear h118
    have hl122 : cl.l.length ≤ 140737488355328 := (h121.sh.at 5 rfl).len
    refine wv h121 (r_ixI (s := cl) (q := wrG x) sl_23 ti_3 rfl rfl rfl (fun w h => (h.at 5 rfl)) (show 0 ≤ wrG x ∧ wrG x < cl.l.length from (by omega))) rfl rfl fun a123 h123 => wv h123 (r_lde (s := cl) (i := (wrG x).toNat) (v := .int .i64 (nth cl.l ((wrG x).toNat))) ti_3 rfl rfl rfl (fun w h => (h.at 5 rfl)) (show (wrG x).toNat < cl.l.length from (by omega)) (Nat.le_of_ble_eq_true rfl) rfl) rfl rfl fun a124 h124 => ?_; clear h121 h123
    have hl125 : ([y.a, y.b, y.c]).length ≤ 140737488355328 := (h124.sh.own 0 rfl).len
    refine wv h124 (r_ixN (s := (⟨vl, [y.a, y.b, y.c]⟩ : Ls Int)) (q := n) sl_23 ti_3 rfl rfl rfl (fun w h => (h.own 0 rfl)) (show n < ([y.a, y.b, y.c]).length from (by first | omega | (simp only [lens9]; omega)))) rfl rfl fun a126 h126 => wl_ex (x_ste (r := 0) (i := n) (j := 0) (x' := (nth cl.l ((wrG x).toNat) : Int)) h126 ti_3 rfl rfl rfl rfl rfl (show n < ([y.a, y.b, y.c]).length from (by first | omega | (simp only [lens9]; omega))) (Nat.le_of_ble_eq_true rfl) rfl rfl rfl (by intro q hq; obtain rfl : q = 0 := (by omega); rfl) (fun w h => Flat.inner _ _) (fun b hb => (Flat.on _ _ hb).elim)) (wanted_none rfl _) ?_; clear h124
    rintro a127 w127 h127
    clear h126
    refine wpList_nil <| hK120 _ _ <| wp_seq_k fun K128 hK128 => wp_region_lit <| wms 2 h127 rfl fun a129 h129 => wv h129 (r_ixN (s := (⟨vl, ([y.a, y.b, y.c]).set n (nth cl.l ((wrG x).toNat))⟩ : Ls Int)) (q := n) sl_23 ti_3 rfl rfl rfl (fun w h => (h.own 0 rfl)) (show n < (([y.a, y.b, y.c]).set n (nth cl.l ((wrG x).toNat))).length from (by first | omega | (simp only [lens9]; omega)))) rfl rfl fun a130 h130 => wv h130 (r_lde (s := (⟨vl, ([y.a, y.b, y.c]).set n (nth cl.l ((wrG x).toNat))⟩ : Ls Int)) (i := n) (v := .int .i64 (nth (([y.a, y.b, y.c]).set n (nth cl.l ((wrG x).toNat))) n)) ti_3 rfl rfl rfl (fun w h => (h.own 0 rfl)) (show n < (([y.a, y.b, y.c]).set n (nth cl.l ((wrG x).toNat))).length from (by first | omega | (simp only [lens9]; omega))) (Nat.le_of_ble_eq_true rfl) rfl) rfl rfl fun a131 h131 => wv h131 (r_lssI (p := nth (([y.a, y.b, y.c]).set n (nth cl.l ((wrG x).toNat))) n) (q := 0) rfl rfl rfl) rfl rfl fun a132 h132 => wpList_nil <| hK128 _ _ ?_; clear h127 h129 h130 h131
    have h133 : St 145 (fun _ => False) W a132 w127 [(1, cl.v), (2, wd.v), (7, vo), (9, v12), (11, .int .i64 (wrG x)), (12, .pointer (some ⟨b73, 0, none⟩)), (14, .string (kindsB x.op)), (15, vl), (16, .int .i64 ((k2 : Nat) : Int)), (17, .int .i64 ((n : Nat) : Int)), (98, .bool (decide (nth (([y.a, y.b, y.c]).set n (nth cl.l ((wrG x).toNat))) n < 0)))] [.own 3 (⟨vl, ([y.a, y.b, y.c]).set n (nth cl.l ((wrG x).toNat))⟩ : Ls Int), .blk b73 32 [.int .i64 x.op, .int .i64 x.a, .int .i64 x.b, .int .i64 x.c], .own 3 (⟨v12, pl⟩ : Ls Int), .own 3 (⟨s9.v, rdG x⟩ : Ls Int), .blk b3 32 [.int .i64 x.op, .int .i64 x.a, .int .i64 x.b, .int .i64 x.c], .at_ cl, .at_ wd, .own 32 (⟨vo, ol⟩ : Ls Ins)] := h132.nrm ⟨rfl, rfl, rfl, rfl, rfl, rfl, rfl, rfl, rfl, rfl, rfl, trivial⟩ [0, 1, 2, 3, 4, 5, 6, 7] (by decide) ⟨rfl, rfl, rfl, rfl, rfl, rfl, rfl, rfl, trivial⟩
    clear h132
    refine x_cond h133 rfl (fun hb134 => ?_) (fun hb134 => ?_)
    ·have hp134 : nth (([y.a, y.b, y.c]).set n (nth cl.l ((wrG x).toNat))) n < 0 := of_decide_eq_true hb134
     refine wp_region_lit <| wms 2 h133 rfl fun a135 h135 => wv h135 (r_ixN (s := (⟨vl, ([y.a, y.b, y.c]).set n (nth cl.l ((wrG x).toNat))⟩ : Ls Int)) (q := n) sl_23 ti_3 rfl rfl rfl (fun w h => (h.own 0 rfl)) (show n < (([y.a, y.b, y.c]).set n (nth cl.l ((wrG x).toNat))).length from (by first | omega | (simp only [lens9]; omega)))) rfl rfl fun a136 h136 => wl_ex (x_ste (r := 0) (i := n) (j := 0) (x' := (6 : Int)) h136 ti_3 rfl rfl rfl rfl rfl (show n < (([y.a, y.b, y.c]).set n (nth cl.l ((wrG x).toNat))).length from (by first | omega | (simp only [lens9]; omega))) (Nat.le_of_ble_eq_true rfl) rfl rfl rfl (by intro q hq; obtain rfl : q = 0 := (by omega); rfl) (fun w h => Flat.inner _ _) (fun b hb => (Flat.on _ _ hb).elim)) (wanted_none rfl _) ?_; clear h133 h135
     rintro a137 w137 h137
     clear h136
     refine wpList_nil <| hK99 _ _ <| wp_region_lit <| wms 1 h137 rfl fun a138 h138 => wv h138 (r_addN (p := n) (q := 1) rfl rfl rfl (show n + 1 < 9223372036854775808 from (by omega))) rfl rfl fun a139 h139 => wms 1 h139 rfl fun a140 h140 => wpList_nil ?_; clear h137 h138 h139
     have h141 := h140.relist (i := 0) (l' := [(putK y n (6)).a, (putK y n (6)).b, (putK y n (6)).c]) rfl (by rw [List.set_set]; exact set_putK (x := y) _ (by omega))
     clear h140
     refine x_again ⟨_, ?_, (n + 1), k2, (putK y n (6)), vl, ?_, ?_, ?_, h141.nrm ⟨rfl, rfl, rfl, rfl, rfl, rfl, rfl, rfl, rfl, rfl, trivial⟩ [0, 1, 2, 3, 4, 5, 6, 7] (by decide) ⟨rfl, rfl, rfl, rfl, rfl, rfl, rfl, rfl, trivial⟩, rfl⟩
     · rw [hm92]; first | omega | (simp only [lens9]; omega)
     · omega
     · omega
     · first | exact pt_w1 hy (by rw [kAt_at (by assumption)]; first | assumption | omega) (by assumption) (by assumption) (by assumption) | exact pt_w2 hy (by rw [kAt_at (by assumption)]; first | assumption | omega) (by assumption) (by assumption) (by assumption) | exact pt_r hy (by rw [kAt_at (by assumption)]; first | assumption | omega) (by omega) | exact pt_n hy (by rw [kAt_at (by assumption)]; first | assumption | omega)
    have hp134 : ¬ (nth (([y.a, y.b, y.c]).set n (nth cl.l ((wrG x).toNat))) n < 0) := of_decide_eq_false hb134
    refine wp_skip <| hK99 _ _ <| wp_region_lit <| wms 1 h133 rfl fun a142 h142 => wv h142 (r_addN (p := n) (q := 1) rfl rfl rfl (show n + 1 < 9223372036854775808 from (by omega))) rfl rfl fun a143 h143 => wms 1 h143 rfl fun a144 h144 => wpList_nil ?_; clear h133 h142 h143
    have h145 := h144.relist (i := 0) (l' := [(putK y n (nth cl.l (wrG x).toNat)).a, (putK y n (nth cl.l (wrG x).toNat)).b, (putK y n (nth cl.l (wrG x).toNat)).c]) rfl (set_putK (x := y) _ (by omega))
    clear h144
    refine x_again ⟨_, ?_, (n + 1), k2, (putK y n (nth cl.l (wrG x).toNat)), vl, ?_, ?_, ?_, h145.nrm ⟨rfl, rfl, rfl, rfl, rfl, rfl, rfl, rfl, rfl, rfl, trivial⟩ [0, 1, 2, 3, 4, 5, 6, 7] (by decide) ⟨rfl, rfl, rfl, rfl, rfl, rfl, rfl, rfl, trivial⟩, rfl⟩
    · rw [hm92]; first | omega | (simp only [lens9]; omega)
    · omega
    · omega
    · first | exact pt_w1 hy (by rw [kAt_at (by assumption)]; first | assumption | omega) (by assumption) (by assumption) (by assumption) | exact pt_w2 hy (by rw [kAt_at (by assumption)]; first | assumption | omega) (by assumption) (by assumption) (by assumption) | exact pt_r hy (by rw [kAt_at (by assumption)]; first | assumption | omega) (by omega) | exact pt_n hy (by rw [kAt_at (by assumption)]; first | assumption | omega)
   have hp119 : ¬ (0 ≤ wrG x) := of_decide_eq_false hb119
   refine wp_seq_k fun K146 hK146 => wp_region_lit <| wms 4 h118 rfl fun a147 h147 => ?_; clear h118
   have hl148 : pl.length ≤ 140737488355328 := (h147.sh.own 2 rfl).len
   refine wv h147 (r_ixN (s := (⟨v12, pl⟩ : Ls Int)) (q := k2) sl_23 ti_3 rfl rfl rfl (fun w h => (h.own 2 rfl)) (show k2 < pl.length from (by omega))) rfl rfl fun a149 h149 => wv h149 (r_lde (s := (⟨v12, pl⟩ : Ls Int)) (i := k2) (v := .int .i64 (nth pl k2)) ti_3 rfl rfl rfl (fun w h => (h.own 2 rfl)) (show k2 < pl.length from (by omega)) (Nat.le_of_ble_eq_true rfl) rfl) rfl rfl fun a150 h150 => ?_; clear h147 h149
   have hl151 : ([y.a, y.b, y.c]).length ≤ 140737488355328 := (h150.sh.own 0 rfl).len
   refine wv h150 (r_ixN (s := (⟨vl, [y.a, y.b, y.c]⟩ : Ls Int)) (q := n) sl_23 ti_3 rfl rfl rfl (fun w h => (h.own 0 rfl)) (show n < ([y.a, y.b, y.c]).length from (by first | omega | (simp only [lens9]; omega)))) rfl rfl fun a152 h152 => wl_ex (x_ste (r := 0) (i := n) (j := 0) (x' := (nth pl k2 : Int)) h152 ti_3 rfl rfl rfl rfl rfl (show n < ([y.a, y.b, y.c]).length from (by first | omega | (simp only [lens9]; omega))) (Nat.le_of_ble_eq_true rfl) rfl rfl rfl (by intro q hq; obtain rfl : q = 0 := (by omega); rfl) (fun w h => Flat.inner _ _) (fun b hb => (Flat.on _ _ hb).elim)) (wanted_none rfl _) ?_; clear h150
   rintro a153 w153 h153
   clear h152
   refine wpList_nil <| hK146 _ _ <| wp_region_lit <| wms 1 h153 rfl fun a154 h154 => wv h154 (r_addN (p := k2) (q := 1) rfl rfl rfl (show k2 + 1 < 9223372036854775808 from (by omega))) rfl rfl fun a155 h155 => wms 1 h155 rfl fun a156 h156 => wpList_nil <| hK99 _ _ ?_; clear h153 h154 h155
   have h157 : St 145 (fun _ => False) W a156 w153 [(1, cl.v), (2, wd.v), (7, vo), (9, v12), (11, .int .i64 (wrG x)), (12, .pointer (some ⟨b73, 0, none⟩)), (14, .string (kindsB x.op)), (15, vl), (16, .int .i64 ((k2 + 1 : Nat) : Int)), (17, .int .i64 ((n : Nat) : Int))] [.own 3 (⟨vl, ([y.a, y.b, y.c]).set n (nth pl k2)⟩ : Ls Int), .blk b73 32 [.int .i64 x.op, .int .i64 x.a, .int .i64 x.b, .int .i64 x.c], .own 3 (⟨v12, pl⟩ : Ls Int), .own 3 (⟨s9.v, rdG x⟩ : Ls Int), .blk b3 32 [.int .i64 x.op, .int .i64 x.a, .int .i64 x.b, .int .i64 x.c], .at_ cl, .at_ wd, .own 32 (⟨vo, ol⟩ : Ls Ins)] := h156.nrm ⟨rfl, rfl, rfl, rfl, rfl, rfl, rfl, rfl, rfl, rfl, trivial⟩ [0, 1, 2, 3, 4, 5, 6, 7] (by decide) ⟨rfl, rfl, rfl, rfl, rfl, rfl, rfl, rfl, trivial⟩
   clear h156
   refine wp_region_lit <| wms 1 h157 rfl fun a158 h158 => wv h158 (r_addN (p := n) (q := 1) rfl rfl rfl (show n + 1 < 9223372036854775808 from (by omega))) rfl rfl fun a159 h159 => wms 1 h159 rfl fun a160 h160 => wpList_nil ?_; clear h157 h158 h159
   have h161 := h160.relist (i := 0) (l' := [(putK y n (nth pl k2)).a, (putK y n (nth pl k2)).b, (putK y n (nth pl k2)).c]) rfl (set_putK (x := y) _ (by omega))
   clear h160
   refine x_again ⟨_, ?_, (n + 1), k2 + 1, (putK y n (nth pl k2)), vl, ?_, ?_, ?_, h161.nrm ⟨rfl, rfl, rfl, rfl, rfl, rfl, rfl, rfl, rfl, rfl, trivial⟩ [0, 1, 2, 3, 4, 5, 6, 7] (by decide) ⟨rfl, rfl, rfl, rfl, rfl, rfl, rfl, rfl, trivial⟩, rfl⟩
   · rw [hm92]; first | omega | (simp only [lens9]; omega)
   · omega
   · omega
   · first | exact pt_w1 hy (by rw [kAt_at (by assumption)]; first | assumption | omega) (by assumption) (by assumption) (by assumption) | exact pt_w2 hy (by rw [kAt_at (by assumption)]; first | assumption | omega) (by assumption) (by assumption) (by assumption) | exact pt_r hy (by rw [kAt_at (by assumption)]; first | assumption | omega) (by omega) | exact pt_n hy (by rw [kAt_at (by assumption)]; first | assumption | omega)
  have hp115 : ¬ (n = 0) := of_decide_eq_false hb115
  refine wl_skip h114 (wanted_no h114.fr rfl rfl rfl rfl hb115) rfl rfl fun a162 h162 => wl_skip h162 (wanted_no h162.fr rfl rfl rfl rfl hb115) rfl rfl fun a163 h163 => wv h163 (r_pickF rfl rfl hb115 rfl) rfl rfl fun a164 h164 => wpList_nil <| hK111 _ _ <| x_condF h164 rfl rfl <| wp_seq_k fun K165 hK165 => wp_region_lit <| wms 4 h164 rfl fun a166 h166 => ?_; clear h114 h162 h163 h164
  have hl167 : pl.length ≤ 140737488355328 := (h166.sh.own 2 rfl).len
  refine wv h166 (r_ixN (s := (⟨v12, pl⟩ : Ls Int)) (q := k2) sl_23 ti_3 rfl rfl rfl (fun w h => (h.own 2 rfl)) (show k2 < pl.length from (by omega))) rfl rfl fun a168 h168 => wv h168 (r_lde (s := (⟨v12, pl⟩ : Ls Int)) (i := k2) (v := .int .i64 (nth pl k2)) ti_3 rfl rfl rfl (fun w h => (h.own 2 rfl)) (show k2 < pl.length from (by omega)) (Nat.le_of_ble_eq_true rfl) rfl) rfl rfl fun a169 h169 => ?_; clear h166 h168
  have hl170 : ([y.a, y.b, y.c]).length ≤ 140737488355328 := (h169.sh.own 0 rfl).len
  refine wv h169 (r_ixN (s := (⟨vl, [y.a, y.b, y.c]⟩ : Ls Int)) (q := n) sl_23 ti_3 rfl rfl rfl (fun w h => (h.own 0 rfl)) (show n < ([y.a, y.b, y.c]).length from (by first | omega | (simp only [lens9]; omega)))) rfl rfl fun a171 h171 => wl_ex (x_ste (r := 0) (i := n) (j := 0) (x' := (nth pl k2 : Int)) h171 ti_3 rfl rfl rfl rfl rfl (show n < ([y.a, y.b, y.c]).length from (by first | omega | (simp only [lens9]; omega))) (Nat.le_of_ble_eq_true rfl) rfl rfl rfl (by intro q hq; obtain rfl : q = 0 := (by omega); rfl) (fun w h => Flat.inner _ _) (fun b hb => (Flat.on _ _ hb).elim)) (wanted_none rfl _) ?_; clear h169
  rintro a172 w172 h172
  clear h171
  refine wpList_nil <| hK165 _ _ <| wp_region_lit <| wms 1 h172 rfl fun a173 h173 => wv h173 (r_addN (p := k2) (q := 1) rfl rfl rfl (show k2 + 1 < 9223372036854775808 from (by omega))) rfl rfl fun a174 h174 => wms 1 h174 rfl fun a175 h175 => wpList_nil <| hK99 _ _ ?_; clear h172 h173 h174
  have h176 : St 145 (fun _ => False) W a175 w172 [(1, cl.v), (2, wd.v), (7, vo), (9, v12), (11, .int .i64 (wrG x)), (12, .pointer (some ⟨b73, 0, none⟩)), (14, .string (kindsB x.op)), (15, vl), (16, .int .i64 ((k2 + 1 : Nat) : Int)), (17, .int .i64 ((n : Nat) : Int))] [.own 3 (⟨vl, ([y.a, y.b, y.c]).set n (nth pl k2)⟩ : Ls Int), .blk b73 32 [.int .i64 x.op, .int .i64 x.a, .int .i64 x.b, .int .i64 x.c], .own 3 (⟨v12, pl⟩ : Ls Int), .own 3 (⟨s9.v, rdG x⟩ : Ls Int), .blk b3 32 [.int .i64 x.op, .int .i64 x.a, .int .i64 x.b, .int .i64 x.c], .at_ cl, .at_ wd, .own 32 (⟨vo, ol⟩ : Ls Ins)] := h175.nrm ⟨rfl, rfl, rfl, rfl, rfl, rfl, rfl, rfl, rfl, rfl, trivial⟩ [0, 1, 2, 3, 4, 5, 6, 7] (by decide) ⟨rfl, rfl, rfl, rfl, rfl, rfl, rfl, rfl, trivial⟩
  clear h175
  refine wp_region_lit <| wms 1 h176 rfl fun a177 h177 => wv h177 (r_addN (p := n) (q := 1) rfl rfl rfl (show n + 1 < 9223372036854775808 from (by omega))) rfl rfl fun a178 h178 => wms 1 h178 rfl fun a179 h179 => wpList_nil ?_; clear h176 h177 h178
  have h180 := h179.relist (i := 0) (l' := [(putK y n (nth pl k2)).a, (putK y n (nth pl k2)).b, (putK y n (nth pl k2)).c]) rfl (set_putK (x := y) _ (by omega))
  clear h179
  refine x_again ⟨_, ?_, (n + 1), k2 + 1, (putK y n (nth pl k2)), vl, ?_, ?_, ?_, h180.nrm ⟨rfl, rfl, rfl, rfl, rfl, rfl, rfl, rfl, rfl, rfl, trivial⟩ [0, 1, 2, 3, 4, 5, 6, 7] (by decide) ⟨rfl, rfl, rfl, rfl, rfl, rfl, rfl, rfl, trivial⟩, rfl⟩
  · rw [hm92]; first | omega | (simp only [lens9]; omega)
  · omega
  · omega
  · first | exact pt_w1 hy (by rw [kAt_at (by assumption)]; first | assumption | omega) (by assumption) (by assumption) (by assumption) | exact pt_w2 hy (by rw [kAt_at (by assumption)]; first | assumption | omega) (by assumption) (by assumption) (by assumption) | exact pt_r hy (by rw [kAt_at (by assumption)]; first | assumption | omega) (by omega) | exact pt_n hy (by rw [kAt_at (by assumption)]; first | assumption | omega)
 have hp98 : ¬ (n < (kindsB x.op).size) := of_decide_eq_false hb98
 refine wp_exit <| hK89 _ _ <| wp_seq_k fun K181 hK181 => wp_region_lit <| wms 1 h97 rfl fun a182 h182 => ?_; clear h97
 have hl183 : ([y.a, y.b, y.c]).length ≤ 140737488355328 := (h182.sh.own 0 rfl).len
 refine wv h182 (r_ixN (s := (⟨vl, [y.a, y.b, y.c]⟩ : Ls Int)) (q := 0) sl_23 ti_3 rfl rfl rfl (fun w h => (h.own 0 rfl)) (show 0 < ([y.a, y.b, y.c]).length from (by first | omega | (simp only [lens9]; omega)))) rfl rfl fun a184 h184 => wv h184 (r_lde (s := (⟨vl, [y.a, y.b, y.c]⟩ : Ls Int)) (i := 0) (v := .int .i64 (nth ([y.a, y.b, y.c]) 0)) ti_3 rfl rfl rfl (fun w h => (h.own 0 rfl)) (show 0 < ([y.a, y.b, y.c]).length from (by first | omega | (simp only [lens9]; omega))) (Nat.le_of_ble_eq_true rfl) rfl) rfl rfl fun a185 h185 => wv h185 (r_fieldB (r := 1) fl_32_1 rfl rfl rfl) rfl rfl fun a186 h186 => wl_ex (x_stb (i := 1) (vs := [.int .i64 (nth ([y.a, y.b, y.c]) 0)]) (cs' := [.int .i64 x.op, .int .i64 (nth ([y.a, y.b, y.c]) 0), .int .i64 x.b, .int .i64 x.c]) h186 ti_3 rfl rfl rfl rfl rfl rfl rfl (allOne_cons rfl allOne_nil) (Nat.le_of_ble_eq_true rfl) rfl) (wanted_none rfl _) ?_; clear h182 h184 h185
 rintro a187 w187 h187
 clear h186
 refine wpList_nil <| hK181 _ _ <| wp_seq_k fun K188 hK188 => wp_region_lit <| wms 1 h187 rfl fun a189 h189 => wv h189 (r_ixN (s := (⟨vl, [y.a, y.b, y.c]⟩ : Ls Int)) (q := 1) sl_23 ti_3 rfl rfl rfl (fun w h => (h.own 0 rfl)) (show 1 < ([y.a, y.b, y.c]).length from (by first | omega | (simp only [lens9]; omega)))) rfl rfl fun a190 h190 => wv h190 (r_lde (s := (⟨vl, [y.a, y.b, y.c]⟩ : Ls Int)) (i := 1) (v := .int .i64 (nth ([y.a, y.b, y.c]) 1)) ti_3 rfl rfl rfl (fun w h => (h.own 0 rfl)) (show 1 < ([y.a, y.b, y.c]).length from (by first | omega | (simp only [lens9]; omega))) (Nat.le_of_ble_eq_true rfl) rfl) rfl rfl fun a191 h191 => wv h191 (r_fieldB (r := 2) fl_32_2 rfl rfl rfl) rfl rfl fun a192 h192 => wl_ex (x_stb (i := 1) (vs := [.int .i64 (nth ([y.a, y.b, y.c]) 1)]) (cs' := [.int .i64 x.op, .int .i64 (nth ([y.a, y.b, y.c]) 0), .int .i64 (nth ([y.a, y.b, y.c]) 1), .int .i64 x.c]) h192 ti_3 rfl rfl rfl rfl rfl rfl rfl (allOne_cons rfl allOne_nil) (Nat.le_of_ble_eq_true rfl) rfl) (wanted_none rfl _) ?_; clear h187 h189 h190 h191
 rintro a193 w193 h193
 clear h192
 refine wpList_nil <| hK188 _ _ <| wp_seq_k fun K194 hK194 => wp_region_lit <| wms 1 h193 rfl fun a195 h195 => wv h195 (r_ixN (s := (⟨vl, [y.a, y.b, y.c]⟩ : Ls Int)) (q := 2) sl_23 ti_3 rfl rfl rfl (fun w h => (h.own 0 rfl)) (show 2 < ([y.a, y.b, y.c]).length from (by first | omega | (simp only [lens9]; omega)))) rfl rfl fun a196 h196 => wv h196 (r_lde (s := (⟨vl, [y.a, y.b, y.c]⟩ : Ls Int)) (i := 2) (v := .int .i64 (nth ([y.a, y.b, y.c]) 2)) ti_3 rfl rfl rfl (fun w h => (h.own 0 rfl)) (show 2 < ([y.a, y.b, y.c]).length from (by first | omega | (simp only [lens9]; omega))) (Nat.le_of_ble_eq_true rfl) rfl) rfl rfl fun a197 h197 => wv h197 (r_fieldB (r := 3) fl_32_3 rfl rfl rfl) rfl rfl fun a198 h198 => wl_ex (x_stb (i := 1) (vs := [.int .i64 (nth ([y.a, y.b, y.c]) 2)]) (cs' := [.int .i64 x.op, .int .i64 (nth ([y.a, y.b, y.c]) 0), .int .i64 (nth ([y.a, y.b, y.c]) 1), .int .i64 (nth ([y.a, y.b, y.c]) 2)]) h198 ti_3 rfl rfl rfl rfl rfl rfl rfl (allOne_cons rfl allOne_nil) (Nat.le_of_ble_eq_true rfl) rfl) (wanted_none rfl _) ?_; clear h193 h195 h196 h197
 rintro a199 w199 h199
 clear h198
 refine wpList_nil <| hK194 _ _ <| wp_seq_k fun K200 hK200 => wp_region_lit <| wms 1 h199 rfl fun a201 h201 => wv h201 (r_ldbw (i := 1) (vs := [.int .i64 x.op, .int .i64 (nth ([y.a, y.b, y.c]) 0), .int .i64 (nth ([y.a, y.b, y.c]) 1), .int .i64 (nth ([y.a, y.b, y.c]) 2)]) ti_32 rfl rfl rfl rfl rfl) rfl rfl fun a202 h202 => wl_ex (x_lit (n := 1) (cs := [.int .i64 x.op, .int .i64 (nth ([y.a, y.b, y.c]) 0), .int .i64 (nth ([y.a, y.b, y.c]) 1), .int .i64 (nth ([y.a, y.b, y.c]) 2)]) ([(⟨x.op, nth ([y.a, y.b, y.c]) 0, nth ([y.a, y.b, y.c]) 1, nth ([y.a, y.b, y.c]) 2⟩ : Ins)] : List Ins) h202 sl_33 ti_32 rfl rfl rfl (by decide) rfl (by kernel_rfl) rfl (fun q hq w h => Flat.inner _ _) (fun q hq b hb => (Flat.on _ _ hb).elim) rfl rfl) (wanted_none rfl _) ?_; clear h199 h201
 rintro a203 w203 ⟨v203, h203⟩; clear h202
 refine wl_ex (x_app (r := 8) (rm := 0) (s := (⟨vo, ol⟩ : Ls Ins)) (m := (⟨v203, [(⟨x.op, nth ([y.a, y.b, y.c]) 0, nth ([y.a, y.b, y.c]) 1, nth ([y.a, y.b, y.c]) 2⟩ : Ins)]⟩ : Ls Ins)) h203 sl_33 ti_32 rfl rfl rfl rfl rfl rfl rfl (fun w h => (h.own 0 rfl)) (fun b hb => own_on (h203.sh.ok _ (List.mem_of_getElem? (i := 0) rfl)) hb) (fun q hq b hb => ⟨q, hq, hb⟩) rfl rfl rfl inferInstance (show (ol.length + ([(⟨x.op, nth ([y.a, y.b, y.c]) 0, nth ([y.a, y.b, y.c]) 1, nth ([y.a, y.b, y.c]) 2⟩ : Ins)]).length) * 32 ≤ 140737488355328 ∧ ol.length + ([(⟨x.op, nth ([y.a, y.b, y.c]) 0, nth ([y.a, y.b, y.c]) 1, nth ([y.a, y.b, y.c]) 2⟩ : Ins)]).length ≤ 140737488355328 from (by first | omega | (simp only [lens9]; omega))) rfl rfl) (wanted_none rfl _) ?_
 rintro a204 w204 ⟨v204, h204⟩; clear h203
 refine wms 1 h204 rfl fun a205 h205 => wpList_nil <| hK200 _ _ ?_; clear h204
 have h206 : St 145 (fun _ => False) W a205 w204 [(1, cl.v), (2, wd.v), (7, v204), (11, .int .i64 (wrG x))] [.own 32 (⟨v203, [(⟨x.op, nth ([y.a, y.b, y.c]) 0, nth ([y.a, y.b, y.c]) 1, nth ([y.a, y.b, y.c]) 2⟩ : Ins)]⟩ : Ls Ins), .own 3 (⟨vl, [y.a, y.b, y.c]⟩ : Ls Int), .blk b73 32 [.int .i64 x.op, .int .i64 (nth ([y.a, y.b, y.c]) 0), .int .i64 (nth ([y.a, y.b, y.c]) 1), .int .i64 (nth ([y.a, y.b, y.c]) 2)], .own 3 (⟨v12, pl⟩ : Ls Int), .own 3 (⟨s9.v, rdG x⟩ : Ls Int), .blk b3 32 [.int .i64 x.op, .int .i64 x.a, .int .i64 x.b, .int .i64 x.c], .at_ cl, .at_ wd, .own 32 (⟨v204, ol ++ ([(⟨x.op, nth ([y.a, y.b, y.c]) 0, nth ([y.a, y.b, y.c]) 1, nth ([y.a, y.b, y.c]) 2⟩ : Ins)])⟩ : Ls Ins)] := h205.nrm ⟨rfl, rfl, rfl, rfl, trivial⟩ [0, 1, 2, 3, 4, 5, 6, 7, 8] (by decide) ⟨rfl, rfl, rfl, rfl, rfl, rfl, rfl, rfl, rfl, trivial⟩
 clear h205
 refine wp_seq_k fun K207 hK207 => wp_seq_k fun K208 hK208 => wp_region_lit <| wms 1 h206 rfl fun a209 h209 => wv h209 (r_geqI (p := wrG x) (q := 0) rfl rfl rfl) rfl rfl fun a210 h210 => wms 1 h210 rfl fun a211 h211 => ?_; clear h206 h209 h210
 rcases Bool.eq_false_or_eq_true (decide (0 ≤ wrG x)) with hb212 | hb212
 ·have hp212 : 0 ≤ wrG x := of_decide_eq_true hb212
  refine wl_val h211 (r_move rfl rfl) (wanted_yes h211.fr rfl rfl rfl rfl hb212) rfl rfl fun a213 h213 => wl_val h213 (r_move rfl rfl) (wanted_yes h213.fr rfl rfl rfl rfl hb212) rfl rfl fun a214 h214 => ?_; clear h211 h213
  have hl215 : cl.l.length ≤ 140737488355328 := (h214.sh.at 6 rfl).len
  refine wl_val h214 (r_ixI (s := cl) (q := wrG x) sl_23 ti_3 rfl rfl rfl (fun w h => (h.at 6 rfl)) (show 0 ≤ wrG x ∧ wrG x < cl.l.length from (by omega))) (wanted_yes h214.fr rfl rfl rfl rfl hb212) rfl rfl fun a216 h216 => wl_val h216 (r_lde (s := cl) (i := (wrG x).toNat) (v := .int .i64 (nth cl.l ((wrG x).toNat))) ti_3 rfl rfl rfl (fun w h => (h.at 6 rfl)) (show (wrG x).toNat < cl.l.length from (by omega)) (Nat.le_of_ble_eq_true rfl) rfl) (wanted_yes h216.fr rfl rfl rfl rfl hb212) rfl rfl fun a217 h217 => wl_val h217 (r_lssI (p := nth cl.l ((wrG x).toNat)) (q := 0) rfl rfl rfl) (wanted_yes h217.fr rfl rfl rfl rfl hb212) rfl rfl fun a218 h218 => wv h218 (r_pickT rfl rfl hb212 rfl) rfl rfl fun a219 h219 => wpList_nil <| hK208 _ _ <| x_cond h219 rfl (fun hb220 => ?_) (fun hb220 => ?_); clear h214 h216 h217 h218
  ·have hp220 : nth cl.l ((wrG x).toNat) < 0 := of_decide_eq_true hb220
   refine wp_region_lit <| wms 3 h219 rfl fun a221 h221 => ?_; clear h219
   have hl222 : wd.l.length ≤ 140737488355328 := (h221.sh.at 7 rfl).len
   refine wv h221 (r_ixI (s := wd) (q := wrG x) sl_23 ti_3 rfl rfl rfl (fun w h => (h.at 7 rfl)) (show 0 ≤ wrG x ∧ wrG x < wd.l.length from (by omega))) rfl rfl fun a223 h223 => wv h223 (r_lde (s := wd) (i := (wrG x).toNat) (v := .int .i64 (nth wd.l ((wrG x).toNat))) ti_3 rfl rfl rfl (fun w h => (h.at 7 rfl)) (show (wrG x).toNat < wd.l.length from (by omega)) (Nat.le_of_ble_eq_true rfl) rfl) rfl rfl fun a224 h224 => wv h224 (r_build (cs := [.int .i64 9, .int .i64 (nth wd.l ((wrG x).toNat)), .int .i64 6, .int .i64 0]) rfl rfl (by kernel_rfl)) rfl rfl fun a225 h225 => wl_ex (x_lit (n := 1) (cs := [.int .i64 9, .int .i64 (nth wd.l ((wrG x).toNat)), .int .i64 6, .int .i64 0]) ([(⟨9, nth wd.l ((wrG x).toNat), 6, 0⟩ : Ins)] : List Ins) h225 sl_33 ti_32 rfl rfl rfl (by decide) rfl (by kernel_rfl) rfl (fun q hq w h => Flat.inner _ _) (fun q hq b hb => (Flat.on _ _ hb).elim) rfl rfl) (wanted_none rfl _) ?_; clear h221 h223 h224
   rintro a226 w226 ⟨v226, h226⟩; clear h225
   refine wl_ex (x_app (r := 9) (rm := 0) (s := (⟨v204, ol ++ ([(⟨x.op, nth ([y.a, y.b, y.c]) 0, nth ([y.a, y.b, y.c]) 1, nth ([y.a, y.b, y.c]) 2⟩ : Ins)])⟩ : Ls Ins)) (m := (⟨v226, [(⟨9, nth wd.l ((wrG x).toNat), 6, 0⟩ : Ins)]⟩ : Ls Ins)) h226 sl_33 ti_32 rfl rfl rfl rfl rfl rfl rfl (fun w h => (h.own 0 rfl)) (fun b hb => own_on (h226.sh.ok _ (List.mem_of_getElem? (i := 0) rfl)) hb) (fun q hq b hb => ⟨q, hq, hb⟩) rfl rfl rfl inferInstance (show ((ol ++ ([(⟨x.op, nth ([y.a, y.b, y.c]) 0, nth ([y.a, y.b, y.c]) 1, nth ([y.a, y.b, y.c]) 2⟩ : Ins)])).length + ([(⟨9, nth wd.l ((wrG x).toNat), 6, 0⟩ : Ins)]).length) * 32 ≤ 140737488355328 ∧ (ol ++ ([(⟨x.op, nth ([y.a, y.b, y.c]) 0, nth ([y.a, y.b, y.c]) 1, nth ([y.a, y.b, y.c]) 2⟩ : Ins)])).length + ([(⟨9, nth wd.l ((wrG x).toNat), 6, 0⟩ : Ins)]).length ≤ 140737488355328 from (by first | omega | (simp only [lens9]; omega))) rfl rfl) (wanted_none rfl _) ?_
   rintro a227 w227 ⟨v227, h227⟩; clear h226
   refine wms 1 h227 rfl fun a228 h228 => wpList_nil <| hK207 _ _ <| wp_seq_k fun K229 hK229 => wp_region_lit <| wms 2 h228 rfl fun a230 h230 => wpList_nil <| hK229 _ _ <| wp_ret ?_; clear h227 h228
   try simp only [Exit.then, Exit.inBlock]
   refine x_ret1 (fn := Try.f60) (t := 6) rfl h230 rfl ?_
   have he9 : (ol ++ ([(⟨x.op, nth ([y.a, y.b, y.c]) 0, nth ([y.a, y.b, y.c]) 1, nth ([y.a, y.b, y.c]) 2⟩ : Ins)])) ++ ([(⟨9, nth wd.l ((wrG x).toNat), 6, 0⟩ : Ins)]) = paintL cl.l wd.l x := by first | exact paint_1 hpv (by omega) hy (by omega) hol (by assumption) (by assumption) | exact paint_2 hpv (by omega) hy (by omega) hol (by omega)
   rw [he9] at h230
   exact ⟨⟨v227, []⟩, rfl, (h230.sh.sel (L' := [_]) [9] (by decide) ⟨rfl, trivial⟩)⟩
  have hp220 : ¬ (nth cl.l ((wrG x).toNat) < 0) := of_decide_eq_false hb220
  refine wp_skip <| hK207 _ _ <| wp_seq_k fun K231 hK231 => wp_region_lit <| wms 2 h219 rfl fun a232 h232 => wpList_nil <| hK231 _ _ <| wp_ret ?_; clear h219
  try simp only [Exit.then, Exit.inBlock]
  refine x_ret1 (fn := Try.f60) (t := 6) rfl h232 rfl ?_
  have he9 : ol ++ ([(⟨x.op, nth ([y.a, y.b, y.c]) 0, nth ([y.a, y.b, y.c]) 1, nth ([y.a, y.b, y.c]) 2⟩ : Ins)]) = paintL cl.l wd.l x := by first | exact paint_1 hpv (by omega) hy (by omega) hol (by assumption) (by assumption) | exact paint_2 hpv (by omega) hy (by omega) hol (by omega)
  rw [he9] at h232
  exact ⟨⟨v204, []⟩, rfl, (h232.sh.sel (L' := [_]) [8] (by decide) ⟨rfl, trivial⟩)⟩
 have hp212 : ¬ (0 ≤ wrG x) := of_decide_eq_false hb212
 refine wl_skip h211 (wanted_no h211.fr rfl rfl rfl rfl hb212) rfl rfl fun a233 h233 => wl_skip h233 (wanted_no h233.fr rfl rfl rfl rfl hb212) rfl rfl fun a234 h234 => wl_skip h234 (wanted_no h234.fr rfl rfl rfl rfl hb212) rfl rfl fun a235 h235 => wl_skip h235 (wanted_no h235.fr rfl rfl rfl rfl hb212) rfl rfl fun a236 h236 => wl_skip h236 (wanted_no h236.fr rfl rfl rfl rfl hb212) rfl rfl fun a237 h237 => wv h237 (r_pickF rfl rfl hb212 rfl) rfl rfl fun a238 h238 => wpList_nil <| hK208 _ _ <| x_condF h238 rfl rfl <| wp_skip <| hK207 _ _ <| wp_seq_k fun K239 hK239 => wp_region_lit <| wms 2 h238 rfl fun a240 h240 => ?_; clear h211 h233 h234 h235 h236 h237 h238
 refine wpList_nil <| hK239 _ _ <| wp_ret ?_
 try simp only [Exit.then, Exit.inBlock]
 refine x_ret1 (fn := Try.f60) (t := 6) rfl h240 rfl ?_
 have he9 : ol ++ ([(⟨x.op, nth ([y.a, y.b, y.c]) 0, nth ([y.a, y.b, y.c]) 1, nth ([y.a, y.b, y.c]) 2⟩ : Ins)]) = paintL cl.l wd.l x := by first | exact paint_1 hpv (by omega) hy (by omega) hol (by assumption) (by assumption) | exact paint_2 hpv (by omega) hy (by omega) hol (by omega)
 rw [he9] at h240
 exact ⟨⟨v204, []⟩, rfl, (h240.sh.sel (L' := [_]) [8] (by decide) ⟨rfl, trivial⟩)⟩

end Go.Proofs.Ytfpaahkleienoaa
