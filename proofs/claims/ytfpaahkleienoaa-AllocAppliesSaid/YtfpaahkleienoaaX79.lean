/-
  Registers given: the document.
-/
import Derived.Test.YtfpaahkleienoaaX78
import Derived.Test.YtfpaahkleienoaaX4
import Derived.Test.YtfpaahkleienoaaX37
namespace Go.Proofs.Ytfpaahkleienoaa
open Go.RowKit
set_option linter.unusedSimpArgs false
set_option linter.unusedVariables false


/-- How many of the first registers are spilt. -/
def nSp (cl : List Int) (m : Nat) : Nat := ((List.range m).filter fun r => decide (nth cl r < 0)).length
theorem nSp_yes {cl : List Int} {m : Nat} (h : nth cl m < 0) : nSp cl (m + 1) = nSp cl m + 1 := by unfold nSp; rw [List.range_succ, List.filter_append, List.length_append]; simp [h]
theorem nSp_no {cl : List Int} {m : Nat} (h : ¬ nth cl m < 0) : nSp cl (m + 1) = nSp cl m := by unfold nSp; rw [List.range_succ, List.filter_append, List.length_append]; simp [h]
theorem nSp_le (cl : List Int) (m : Nat) : nSp cl m ≤ m := by unfold nSp; exact Nat.le_trans (List.length_filter_le _ _) (by simp)
def tSp (cols : List (Ls Int)) (R : Nat) : Nat → Nat
  | 0 => 0
  | t + 1 => tSp cols R t + nSp (nth cols t).l R
theorem tSp_le {cols : List (Ls Int)} {R : Nat} (hR : R ≤ 200) : ∀ t, tSp cols R t ≤ 200 * t
  | 0 => Nat.le_refl _
  | t + 1 => by have := tSp_le (cols := cols) hR t; have := nSp_le (nth cols t).l R; rw [tSp]; omega
/-- The words of spilt registers. -/
def wdF (cl : List Int) (b R : Nat) : List Int := (List.range R).map fun r => if nth cl r < 0 then ((b + nSp cl r : Nat) : Int) else 0
theorem wdF_eq {cl dl : List Int} {b R : Nat} (hl : dl.length = R) (h : ∀ j, j < R → nth dl j = if j < R ∧ nth cl j < 0 then ((b + nSp cl j : Nat) : Int) else 0) : dl = wdF cl b R := by
  refine ext_nth _ _ (by simp [wdF, hl]) fun i hi => ?_
  rw [h i (by omega)]
  unfold wdF
  rw [nth_mapR (by omega)]
  by_cases hc : nth cl i < 0
  · rw [if_pos ⟨by omega, hc⟩, if_pos hc]
  · rw [if_neg (fun h9 => hc h9.2), if_neg hc]
theorem dl_yes {cl dl : List Int} {b R r : Nat} (hl : dl.length = R) (h : ∀ j, j < R → nth dl j = if j < r ∧ nth cl j < 0 then ((b + nSp cl j : Nat) : Int) else 0) (hr : r < R) (hc : nth cl r < 0) : ∀ j, j < R → nth (dl.set r ((b + nSp cl r : Nat) : Int)) j = if j < r + 1 ∧ nth cl j < 0 then ((b + nSp cl j : Nat) : Int) else 0 := by
  intro j hj
  rw [nth_set]
  by_cases e : r = j
  · subst e; rw [if_pos ⟨rfl, by omega⟩, if_pos ⟨by omega, hc⟩]
  · rw [if_neg (fun h9 => e h9.1), h j hj]
    by_cases h2 : j < r ∧ nth cl j < 0
    · rw [if_pos h2, if_pos ⟨by omega, h2.2⟩]
    · rw [if_neg h2, if_neg (fun h9 => h2 ⟨by omega, h9.2⟩)]
theorem dl_no {cl dl : List Int} {b R r : Nat} (h : ∀ j, j < R → nth dl j = if j < r ∧ nth cl j < 0 then ((b + nSp cl j : Nat) : Int) else 0) (hc : ¬ nth cl r < 0) : ∀ j, j < R → nth dl j = if j < r + 1 ∧ nth cl j < 0 then ((b + nSp cl j : Nat) : Int) else 0 := by
  intro j hj
  rw [h j hj]
  by_cases h2 : j < r ∧ nth cl j < 0
  · rw [if_pos h2, if_pos ⟨by omega, h2.2⟩]
  · rw [if_neg h2, if_neg]
    rintro ⟨h3, h4⟩
    exact h2 ⟨by rcases Nat.lt_or_eq_of_le (Nat.le_of_lt_succ h3) with h5 | h5; exact h5; subst h5; exact absurd h4 hc, h4⟩
theorem rep_snoc (l : List Int) (n : Nat) : (l ++ List.replicate n 0) ++ [0] = l ++ List.replicate (n + 1) 0 := by rw [List.append_assoc, List.replicate_succ']
theorem wl_yes {words cl wl : List Int} {b r : Nat} (h : wl = words ++ List.replicate (b + nSp cl r) 0) (hc : nth cl r < 0) : wl ++ [0] = words ++ List.replicate (b + nSp cl (r + 1)) 0 := by rw [h, rep_snoc, nSp_yes hc]; rfl
theorem wl_no {words cl wl : List Int} {b r : Nat} (h : wl = words ++ List.replicate (b + nSp cl r) 0) (hc : ¬ nth cl r < 0) : wl = words ++ List.replicate (b + nSp cl (r + 1)) 0 := by rw [h, nSp_no hc]
/-- What a thread's orders become. -/
def apL (code : List Ins) (cl : List Int) (b R : Nat) : List (List Ins) := (List.range code.length).map fun i => paintL cl (wdF cl b R) (nth code i)
def apT (code : List Ins) (cl : List Int) (b R : Nat) : List Ins := putL (apL code cl b R) code
theorem pt_jump {g : Nat → Int} {wv : Int} {x : Ins} (h : x.op = 14 ∨ False) : ∀ n, n ≤ (kindsB x.op).size → (ptS g wv x n).1 = x
  | 0, _ => rfl
  | n + 1, hn => by
    have h14 : x.op = 14 := h.elim id (fun h => h.elim)
    have hk : kAt (kindsB x.op) n ≠ 114 := by
      rw [h14] at hn ⊢
      have hs : (kindsB 14).size = 1 := by decide +kernel
      obtain rfl : n = 0 := by omega
      decide +kernel
    rw [ptS, if_neg hk]
    exact pt_jump h n (by omega)
theorem pt_zero {g : Nat → Int} {wv : Int} {x : Ins} (h : x.op = 15) : ∀ n, (ptS g wv x n).1.b = x.b
  | 0 => rfl
  | n + 1 => by
    rw [ptS]
    split
    · rename_i hk
      have hn : n = 0 := by
        rw [h] at hk
        have hs : (kindsB 15).size = 2 := by decide +kernel
        rcases n with _ | _ | n
        · rfl
        · exact absurd hk (by decide +kernel)
        · unfold kAt at hk
          rw [dif_neg (by omega)] at hk
          cases hk
      subst hn
      split <;> rfl
    · exact pt_zero h n
theorem paintL_len (cl wd : List Int) (x : Ins) : (paintL cl wd x).length ≤ 8 := by
  unfold paintL
  have h1 : ∀ m, (ldL cl wd x m).length ≤ m := by
    intro m
    induction m with
    | zero => exact Nat.le_refl _
    | succ m ih => rw [ldL_succ, List.length_append]; unfold ldK; split <;> simp <;> omega
  have h2 := h1 (rdG x).length
  have h3 := rdG_len x
  rw [List.length_append, List.length_cons]
  split <;> simp <;> omega

theorem apL_op {cl wd : List Int} {x : Ins} {n : Int} (hop : (x.op = 14 → 0 ≤ x.a ∧ x.a ≤ n) ∧ (x.op = 15 → 0 ≤ x.b ∧ x.b ≤ n)) : ∀ y ∈ paintL cl wd x, (y.op ≠ 14 ∨ (x.op ≠ 14 ∧ x.op ≠ 15) ∨ (0 ≤ y.a ∧ y.a ≤ n)) ∧ (y.op ≠ 15 ∨ x.op ≠ 15 ∨ (0 ≤ y.b ∧ y.b ≤ n)) := by
  intro y hy
  have hb : ∀ n : Nat, ((ptS (plcF cl x (rdG x).length) (colr cl (wrG x) 6) x n).1.op = x.op) := ptS_op _ _ _
  have hld : ∀ m, y ∈ ldL cl wd x m → y.op = 8 := by
    intro m hm
    unfold ldL at hm
    obtain ⟨q, _, hq⟩ := List.mem_flatMap.1 hm
    unfold ldK at hq
    split at hq
    · rw [List.mem_singleton.1 hq]
    · cases hq
  unfold paintL at hy
  rcases List.mem_append.1 hy with hy | hy
  · have := hld _ hy
    exact ⟨.inl (by omega), .inl (by omega)⟩
  · rcases List.mem_cons.1 hy with rfl | hy
    · have ho := hb (kindsB x.op).size
      by_cases h14 : x.op = 14
      · have e : (ptS (plcF cl x (rdG x).length) (colr cl (wrG x) 6) x (kindsB x.op).size).1 = x := pt_jump (.inl h14) _ (Nat.le_refl _)
        have := hop.1 h14
        rw [e]
        exact ⟨.inr (.inr this), .inl (by omega)⟩
      · by_cases h15 : x.op = 15
        · have e := pt_zero (g := plcF cl x (rdG x).length) (wv := colr cl (wrG x) 6) h15 (kindsB x.op).size
          have := hop.2 h15
          rw [ho, e]
          exact ⟨.inl (by omega), .inr (.inr this)⟩
        · rw [ho]
          exact ⟨.inr (.inl ⟨h14, h15⟩), .inr (.inl h15)⟩
    · split at hy
      · rw [List.mem_singleton.1 hy]; exact ⟨.inl (show (9 : Int) ≠ 14 by decide), .inl (show (9 : Int) ≠ 15 by decide)⟩
      · cases hy

theorem bc_nth {bc : List (Ls Ins)} {n : Nat} {f : Nat → List Ins} (h : bc.map (·.l) = (List.range n).map f) (i : Nat) (hi : i < n) : (nth bc i).l = f i := (rowsV h).2 i hi
theorem ap_ok2 {code : List Ins} {cl wd : List Int} {bc : List (Ls Ins)} (hj : JumpsOK code) (h : bc.map (·.l) = (List.range code.length).map fun i => paintL cl wd (nth code i)) : BecomeOK2 bc code := by
  intro i hi q hq
  have e := bc_nth h i hi
  rw [e] at hq ⊢
  exact apL_op (hj i hi) _ (nth_mem _ _ hq)

set_option maxRecDepth 100000 in
set_option maxHeartbeats 8000000 in
theorem rApply_k (code : Ls (Ls Ins)) (words : Ls Int) (locks regs : Int) (cols : Ls (Ls Int)) (W : World) (hcode : code.At W) (hwords : words.At W) (hcols : cols.At W) (hok : OkPg (pgOf code words locks regs)) (hcc : cols.l.length = code.l.length) (hcr : ∀ t, t < code.l.length → (nth cols.l t).l.length = regs.toNat) (htot : words.l.length + tSp cols.l regs.toNat code.l.length ≤ 64) (hfit : ∀ t, t < code.l.length → (apT (nth code.l t).l (nth cols.l t).l (words.l.length + tSp cols.l regs.toNat t) regs.toNat).length ≤ 400) :
    Rets Try.prog 23 [.agg #[code.v, words.v, .int .i64 locks, .int .i64 regs], cols.v] W (fun v w' => ∃ (c : Ls (Ls Ins)) (u : Ls Int), v = .tuple #[.agg #[c.v, u.v, .int .i64 locks, .int .i64 8], .agg #[.int .i64 0, .int .i64 0, .int .i64 0]] ∧ c.l.map (·.l) = (List.range code.l.length).map (fun t => apT (nth code.l t).l (nth cols.l t).l (words.l.length + tSp cols.l regs.toNat t) regs.toNat) ∧ u.l = words.l ++ List.replicate (tSp cols.l regs.toNat code.l.length) 0 ∧ Sh0 W w' [.deep 33 c, .own 3 u]) := by
 have hz := checkG_ok hok
 obtain ⟨hl1, hl2, hl3, hl4', hl5, hl6, hl7⟩ := ok_len hok
 have hrg := hok.regs
 have hrg1 : (pgOf code words locks regs).regs = regs := rfl
 rw [hrg1] at hrg
 refine x_enter (N := 139) Try.func23 rfl Try.ntmps23 (Nat.le_of_ble_eq_true rfl) fun a1 hf1 => ?_
 have h1 : St 139 (fun _ => False) W a1 W [(0, .agg #[code.v, words.v, .int .i64 locks, .int .i64 regs]), (1, cols.v)] [.at_ code, .at_ words, .at_ cols] := ⟨hf1.sub ⟨rfl, rfl, trivial⟩, Sh0.ext3 hcode hwords hcols⟩
 clear hf1
 refine wp_seq_k fun K2 hK2 => wp_region_lit <| wl_ex (x_box (cs := [code.v, words.v, .int .i64 locks, .int .i64 regs]) h1 rfl rfl rfl rfl rfl) (wanted_none rfl _) ?_
 rintro a3 w3 ⟨b3, h3⟩; clear h1
 refine wl_ex (x_alloc h3 ti_25 rfl rfl rfl) (wanted_none rfl _) ?_
 rintro a4 w4 ⟨b4, h4⟩; clear h3
 refine wl_ex (x_alloc h4 ti_28 rfl rfl rfl) (wanted_none rfl _) ?_
 rintro a5 w5 ⟨b5, h5⟩; clear h4
 refine wpList_nil <| hK2 _ _ <| wp_seq_k fun K6 hK6 => wp_region_lit <| wv h5 (r_fieldB (r := 2) fl_25_2 rfl rfl rfl) rfl rfl fun a7 h7 => wv h7 (r_ldb (i := 2) ti_3 rfl rfl rfl rfl) rfl rfl fun a8 h8 => wv h8 (r_build (cs := [(.slice none 0 0), (.slice none 0 0), .int .i64 locks, .int .i64 8]) rfl rfl (by kernel_rfl)) rfl rfl fun a9 h9 => wl_ex (x_alloc h9 ti_25 rfl rfl rfl) (wanted_none rfl _) ?_; clear h5 h7 h8
 rintro a10 w10 ⟨b10, h10⟩; clear h9
 refine wl_ex (x_stb (i := 0) (vs := [(.slice none 0 0), (.slice none 0 0), .int .i64 locks, .int .i64 8]) (cs' := [(.slice none 0 0), (.slice none 0 0), .int .i64 locks, .int .i64 8]) h10 ti_25 rfl rfl rfl rfl rfl rfl rfl (allOne_cons rfl (allOne_cons rfl (allOne_cons rfl (allOne_cons rfl allOne_nil)))) (Nat.le_of_ble_eq_true rfl) rfl) (wanted_none rfl _) ?_
 rintro a11 w11 h11
 clear h10
 refine wpList_nil <| hK6 _ _ <| wp_seq_k fun K12 hK12 => wp_region_lit <| wl_ex (x_lit0 (α := Int) h11 sl_23 ti_3 rfl rfl rfl) (wanted_none rfl _) ?_
 rintro a13 w13 ⟨v13, h13⟩; clear h11
 refine wv h13 (r_fieldB (r := 1) fl_25_1 rfl rfl rfl) rfl rfl fun a14 h14 => wv h14 (r_ldb (i := 4) ti_23 rfl rfl rfl rfl) rfl rfl fun a15 h15 => wl_ex (x_app (r := 0) (rm := 6) (s := (⟨v13, []⟩ : Ls Int)) (m := words) h15 sl_23 ti_3 rfl rfl rfl rfl rfl rfl rfl (fun w h => (h.at 6 rfl)) (fun b hb => .inr hb) (fun q hq b hb => .inr ⟨q, hq, hb⟩) rfl rfl rfl inferInstance (show (([]).length + words.l.length) * 8 ≤ 140737488355328 ∧ ([]).length + words.l.length ≤ 140737488355328 from (by first | omega | (simp only [lens9]; omega))) rfl rfl) (wanted_none rfl _) ?_; clear h13 h14
 rintro a16 w16 ⟨v16, h16⟩; clear h15
 refine wv h16 (r_fieldB (r := 1) fl_25_1 rfl rfl rfl) rfl rfl fun a17 h17 => wl_ex (x_stb (i := 1) (vs := [v16]) (cs' := [(.slice none 0 0), v16, .int .i64 locks, .int .i64 8]) h17 ti_23 rfl rfl rfl rfl rfl (cells_oneL ((h17.sh.own 0 rfl)).one) rfl (allOne_cons ((h17.sh.own 0 rfl)).one allOne_nil) (Nat.le_of_ble_eq_true rfl) rfl) (wanted_none rfl _) ?_; clear h16
 rintro a18 w18 h18
 clear h17
 refine wpList_nil <| hK12 _ _ <| wp_seq_k fun K19 hK19 => wp_seq_k fun K20 hK20 => wp_region_lit <| wms 1 h18 rfl fun a21 h21 => wpList_nil <| hK20 _ _ <| wp_block <| x_loop (fun m a w => ∃ (t1 : Nat) (wl : List Int) (vw : Value), (t1 ≤ code.l.length) ∧ (wl = words.l ++ List.replicate (tSp cols.l regs.toNat t1) 0) ∧ St 139 (fun _ => False) W a w [(1, cols.v), (2, .pointer (some ⟨b3, 0, none⟩)), (4, .pointer (some ⟨b4, 0, none⟩)), (5, .pointer (some ⟨b5, 0, none⟩)), (6, .pointer (some ⟨b10, 0, none⟩)), (7, .int .i64 ((t1 : Nat) : Int))] [.own 3 (⟨vw, wl⟩ : Ls Int), .blk b10 25 [(.slice none 0 0), vw, .int .i64 locks, .int .i64 8], .blk b5 28 [.int .i64 0, .int .i64 0, .int .i64 0], .blk b4 25 [(.slice none 0 0), (.slice none 0 0), .int .i64 0, .int .i64 0], .blk b3 25 [code.v, words.v, .int .i64 locks, .int .i64 regs], .at_ code, .at_ words, .at_ cols] ∧ m = code.l.length - t1) ⟨_, 0, words.l, v16, (by omega), (by simp [tSp]), h21.nrm ⟨rfl, rfl, rfl, rfl, rfl, rfl, trivial⟩ [0, 1, 2, 3, 4, 5, 6, 7] (by decide) ⟨rfl, rfl, rfl, rfl, rfl, rfl, rfl, rfl, trivial⟩, rfl⟩ ?_; clear h18
 clear h21
 rintro m22 a22 w22 ⟨t1, wl, vw, ht, hwl, h22, hm22⟩
 refine wp_seq_k fun K23 hK23 => wp_seq_k fun K24 hK24 => wp_region_lit <| wms 1 h22 rfl fun a25 h25 => wv h25 (r_fieldB (r := 0) fl_25_0 rfl rfl rfl) rfl rfl fun a26 h26 => wv h26 (r_ldb (i := 4) ti_22 rfl rfl rfl rfl) rfl rfl fun a27 h27 => ?_; clear h22 h25 h26
 have hl28 : code.l.length ≤ 140737488355328 := (h27.sh.at 5 rfl).len
 refine wv h27 (r_len (s := code) (n := code.l.length) sl_22 rfl rfl (fun w h => (h.at 5 rfl)) rfl) rfl rfl fun a29 h29 => wv h29 (r_lssN (p := t1) (q := code.l.length) rfl rfl rfl) rfl rfl fun a30 h30 => wpList_nil <| hK24 _ _ <| x_cond h30 rfl (fun hb31 => ?_) (fun hb31 => ?_); clear h27 h29
 ·have hp31 : t1 < code.l.length := of_decide_eq_true hb31
  refine wp_skip <| hK23 _ _ <| wp_seq_k fun K32 hK32 => wp_block <| wp_seq_k fun K33 hK33 => wp_region_lit <| wms 1 h30 rfl fun a34 h34 => wpList_nil <| hK33 _ _ <| wp_block ?_; clear h30
  have hcr1 := hcr t1 (by omega)
  have hts := tSp_le (cols := cols.l) (show regs.toNat ≤ 200 by omega) t1
  refine x_loop (fun m a w => ∃ (r1 : Nat) (wl2 : List Int) (vw2 : Value), (r1 ≤ regs.toNat) ∧ (wl2 = words.l ++ List.replicate (tSp cols.l regs.toNat t1 + nSp (nth cols.l t1).l r1) 0) ∧ St 139 (fun _ => False) W a w [(1, cols.v), (2, .pointer (some ⟨b3, 0, none⟩)), (4, .pointer (some ⟨b4, 0, none⟩)), (5, .pointer (some ⟨b5, 0, none⟩)), (6, .pointer (some ⟨b10, 0, none⟩)), (7, .int .i64 ((t1 : Nat) : Int)), (8, .int .i64 ((r1 : Nat) : Int))] [.own 3 (⟨vw2, wl2⟩ : Ls Int), .blk b10 25 [(.slice none 0 0), vw2, .int .i64 locks, .int .i64 8], .blk b5 28 [.int .i64 0, .int .i64 0, .int .i64 0], .blk b4 25 [(.slice none 0 0), (.slice none 0 0), .int .i64 0, .int .i64 0], .blk b3 25 [code.v, words.v, .int .i64 locks, .int .i64 regs], .at_ code, .at_ words, .at_ cols] ∧ m = regs.toNat - r1) ⟨_, 0, wl, vw, (by omega), (by rw [hwl]; rfl), h34.nrm ⟨rfl, rfl, rfl, rfl, rfl, rfl, rfl, trivial⟩ [0, 1, 2, 3, 4, 5, 6, 7] (by decide) ⟨rfl, rfl, rfl, rfl, rfl, rfl, rfl, rfl, trivial⟩, rfl⟩ ?_
  clear h34
  rintro m35 a35 w35 ⟨r1, wl2, vw2, hr, hwl2, h35, hm35⟩
  have hwn2 : wl2.length = words.l.length + (tSp cols.l regs.toNat t1 + nSp (nth cols.l t1).l r1) := by rw [hwl2, List.length_append, List.length_replicate]
  have hnl := nSp_le (nth cols.l t1).l r1
  refine wp_seq_k fun K36 hK36 => wp_seq_k fun K37 hK37 => wp_region_lit <| wms 1 h35 rfl fun a38 h38 => wv h38 (r_fieldB (r := 3) fl_25_3 rfl rfl rfl) rfl rfl fun a39 h39 => wv h39 (r_ldb (i := 4) ti_3 rfl rfl rfl rfl) rfl rfl fun a40 h40 => wv h40 (r_lssI (p := ((r1 : Nat) : Int)) (q := regs) rfl rfl rfl) rfl rfl fun a41 h41 => wpList_nil <| hK37 _ _ <| x_cond h41 rfl (fun hb42 => ?_) (fun hb42 => ?_); clear h35 h38 h39 h40
  ·have hp42 : ((r1 : Nat) : Int) < regs := of_decide_eq_true hb42
   refine wp_skip <| hK36 _ _ <| wp_seq_k fun K43 hK43 => wp_block <| wp_seq_k fun K44 hK44 => wp_region_lit <| wms 2 h41 rfl fun a45 h45 => ?_; clear h41
   have hl46 : cols.l.length ≤ 140737488355328 := (h45.sh.at 7 rfl).len
   refine wv h45 (r_ixN (s := cols) (q := t1) sl_35 ti_23 rfl rfl rfl (fun w h => (h.at 7 rfl)) (show t1 < cols.l.length from (by omega))) rfl rfl fun a47 h47 => wv h47 (r_lde (s := cols) (i := t1) (v := (nth cols.l t1).v) ti_23 rfl rfl rfl (fun w h => (h.at 7 rfl)) (show t1 < cols.l.length from (by omega)) (Nat.le_of_ble_eq_true rfl) rfl) rfl rfl fun a48 h48 => wms 1 h48 rfl fun a49 h49 => ?_; clear h45 h47 h48
   have hl50 : ((nth cols.l t1).l).length ≤ 140737488355328 := ((h49.sh.at 7 rfl).nth t1 (show t1 < cols.l.length from (by omega))).len
   refine wv h49 (r_ixN (s := nth cols.l t1) (q := r1) sl_23 ti_3 rfl rfl rfl (fun w h => ((h.at 7 rfl).nth t1 (show t1 < cols.l.length from (by omega)))) (show r1 < ((nth cols.l t1).l).length from (by omega))) rfl rfl fun a51 h51 => wv h51 (r_lde (s := nth cols.l t1) (i := r1) (v := .int .i64 (nth ((nth cols.l t1).l) r1)) ti_3 rfl rfl rfl (fun w h => ((h.at 7 rfl).nth t1 (show t1 < cols.l.length from (by omega)))) (show r1 < ((nth cols.l t1).l).length from (by omega)) (Nat.le_of_ble_eq_true rfl) rfl) rfl rfl fun a52 h52 => wv h52 (r_lssI (p := nth ((nth cols.l t1).l) r1) (q := 0) rfl rfl rfl) rfl rfl fun a53 h53 => wpList_nil <| hK44 _ _ <| x_cond h53 rfl (fun hb54 => ?_) (fun hb54 => ?_); clear h49 h51 h52
   ·have hp54 : nth ((nth cols.l t1).l) r1 < 0 := of_decide_eq_true hb54
    refine wp_region_lit <| wv h53 (r_fieldB (r := 1) fl_25_1 rfl rfl rfl) rfl rfl fun a55 h55 => wv h55 (r_ldb (i := 1) ti_23 rfl rfl rfl rfl) rfl rfl fun a56 h56 => wl_ex (x_lit (n := 1) (cs := [.int .i64 0]) ([0] : List Int) h56 sl_23 ti_3 rfl rfl rfl (by decide) rfl (by kernel_rfl) rfl (fun q hq w h => Flat.inner _ _) (fun q hq b hb => (Flat.on _ _ hb).elim) rfl rfl) (wanted_none rfl _) ?_; clear h53 h55
    rintro a57 w57 ⟨v57, h57⟩; clear h56
    refine wl_ex (x_app (r := 1) (rm := 0) (s := (⟨vw2, wl2⟩ : Ls Int)) (m := (⟨v57, [0]⟩ : Ls Int)) h57 sl_23 ti_3 rfl rfl rfl rfl rfl rfl rfl (fun w h => (h.own 0 rfl)) (fun b hb => own_on (h57.sh.ok _ (List.mem_of_getElem? (i := 0) rfl)) hb) (fun q hq b hb => ⟨q, hq, hb⟩) rfl rfl rfl inferInstance (show (wl2.length + ([0]).length) * 8 ≤ 140737488355328 ∧ wl2.length + ([0]).length ≤ 140737488355328 from (by first | omega | (simp only [lens9]; omega))) rfl rfl) (wanted_none rfl _) ?_
    rintro a58 w58 ⟨v58, h58⟩; clear h57
    refine wv h58 (r_fieldB (r := 1) fl_25_1 rfl rfl rfl) rfl rfl fun a59 h59 => wl_ex (x_stb (i := 2) (vs := [v58]) (cs' := [(.slice none 0 0), v58, .int .i64 locks, .int .i64 8]) h59 ti_23 rfl rfl rfl rfl rfl (cells_oneL ((h59.sh.own 1 rfl)).one) rfl (allOne_cons ((h59.sh.own 1 rfl)).one allOne_nil) (Nat.le_of_ble_eq_true rfl) rfl) (wanted_none rfl _) ?_; clear h58
    rintro a60 w60 h60
    clear h59
    refine wpList_nil <| hK43 _ _ <| wp_region_lit <| wms 1 h60 rfl fun a61 h61 => wv h61 (r_addN (p := r1) (q := 1) rfl rfl rfl (show r1 + 1 < 9223372036854775808 from (by omega))) rfl rfl fun a62 h62 => wms 1 h62 rfl fun a63 h63 => wpList_nil <| x_again ⟨_, ?_, r1 + 1, wl2 ++ ([0]), v58, ?_, ?_, h63.nrm ⟨rfl, rfl, rfl, rfl, rfl, rfl, rfl, trivial⟩ [1, 2, 3, 4, 5, 6, 7, 8] (by decide) ⟨rfl, rfl, rfl, rfl, rfl, rfl, rfl, rfl, trivial⟩, rfl⟩; clear h60 h61 h62
    · rw [hm35]; first | omega | (simp only [lens9]; omega)
    · omega
    · first | exact wl_yes hwl2 (by assumption) | exact wl_no hwl2 (by assumption)
   have hp54 : ¬ (nth ((nth cols.l t1).l) r1 < 0) := of_decide_eq_false hb54
   refine wp_skip <| hK43 _ _ <| wp_region_lit <| wms 1 h53 rfl fun a64 h64 => wv h64 (r_addN (p := r1) (q := 1) rfl rfl rfl (show r1 + 1 < 9223372036854775808 from (by omega))) rfl rfl fun a65 h65 => wms 1 h65 rfl fun a66 h66 => wpList_nil <| x_again ⟨_, ?_, r1 + 1, wl2, vw2, ?_, ?_, h66.nrm ⟨rfl, rfl, rfl, rfl, rfl, rfl, rfl, trivial⟩ [0, 1, 2, 3, 4, 5, 6, 7] (by decide) ⟨rfl, rfl, rfl, rfl, rfl, rfl, rfl, rfl, trivial⟩, rfl⟩; clear h53 h64 h65
   · rw [hm35]; first | omega | (simp only [lens9]; omega)
   · omega
   · first | exact wl_yes hwl2 (by assumption) | exact wl_no hwl2 (by assumption)
  have hp42 : ¬ (((r1 : Nat) : Int) < regs) := of_decide_eq_false hb42
  refine wp_exit <| hK32 _ _ <| wp_region_lit <| wms 1 h41 rfl fun a67 h67 => wv h67 (r_addN (p := t1) (q := 1) rfl rfl rfl (show t1 + 1 < 9223372036854775808 from (by omega))) rfl rfl fun a68 h68 => wms 1 h68 rfl fun a69 h69 => wpList_nil <| x_again ⟨_, ?_, t1 + 1, wl2, vw2, ?_, ?_, h69.nrm ⟨rfl, rfl, rfl, rfl, rfl, rfl, trivial⟩ [0, 1, 2, 3, 4, 5, 6, 7] (by decide) ⟨rfl, rfl, rfl, rfl, rfl, rfl, rfl, rfl, trivial⟩, rfl⟩; clear h41 h67 h68
  · rw [hm22]; first | omega | (simp only [lens9]; omega)
  · omega
  · rw [hwl2, show r1 = regs.toNat by omega]; rfl
 have hp31 : ¬ (t1 < code.l.length) := of_decide_eq_false hb31
 refine wp_exit <| hK19 _ _ ?_
 have hwn1 : wl.length = words.l.length + tSp cols.l regs.toNat t1 := by rw [hwl, List.length_append, List.length_replicate]
 rw [show t1 = code.l.length by omega] at hwn1
 refine wp_seq_k fun K70 hK70 => wp_seq_k fun K71 hK71 => wp_region_lit <| wv h30 (r_fieldB (r := 1) fl_25_1 rfl rfl rfl) rfl rfl fun a72 h72 => wv h72 (r_ldb (i := 1) ti_23 rfl rfl rfl rfl) rfl rfl fun a73 h73 => ?_; clear h30 h72
 have hl74 : wl.length ≤ 140737488355328 := (h73.sh.own 0 rfl).len
 refine wv h73 (r_len (s := (⟨vw, wl⟩ : Ls Int)) (n := wl.length) sl_23 rfl rfl (fun w h => (h.own 0 rfl)) rfl) rfl rfl fun a75 h75 => wv h75 (r_gtrN (p := wl.length) (q := 64) rfl rfl rfl) rfl rfl fun a76 h76 => wpList_nil <| hK71 _ _ <| x_cond h76 rfl (fun hb77 => ?_) (fun hb77 => ?_); clear h73 h75
 ·have hp77 : 64 < wl.length := of_decide_eq_true hb77
  exfalso
  omega
 have hp77 : ¬ (64 < wl.length) := of_decide_eq_false hb77
 refine wp_skip <| hK70 _ _ <| wp_seq_k fun K78 hK78 => wp_region_lit <| wv h76 (r_fieldB (r := 1) fl_25_1 rfl rfl rfl) rfl rfl fun a79 h79 => wv h79 (r_ldb (i := 4) ti_23 rfl rfl rfl rfl) rfl rfl fun a80 h80 => ?_; clear h76 h79
 have hl81 : words.l.length ≤ 140737488355328 := (h80.sh.at 6 rfl).len
 refine wv h80 (r_len (s := words) (n := words.l.length) sl_23 rfl rfl (fun w h => (h.at 6 rfl)) rfl) rfl rfl fun a82 h82 => wms 1 h82 rfl fun a83 h83 => wpList_nil <| hK78 _ _ <| wp_seq_k fun K84 hK84 => wp_seq_k fun K85 hK85 => wp_region_lit <| wms 1 h83 rfl fun a86 h86 => wpList_nil <| hK85 _ _ <| wp_block ?_; clear h80 h82 h83
 have h88 := h86.nilDeep (α := Ls Ins) 33
 clear h86
 refine x_loop (fun m a w => ∃ (t : Nat) (wn : Nat) (qs : List (Ls Ins)) (vq : Value), (t ≤ code.l.length) ∧ (wn = (words.l.length + tSp cols.l regs.toNat t)) ∧ (qs.map (·.l) = (List.range t).map (fun t => apT (nth code.l t).l (nth cols.l t).l (words.l.length + tSp cols.l regs.toNat t) regs.toNat)) ∧ (qs.length = t) ∧ St 139 (fun _ => False) W a w [(1, cols.v), (2, .pointer (some ⟨b3, 0, none⟩)), (4, .pointer (some ⟨b4, 0, none⟩)), (5, .pointer (some ⟨b5, 0, none⟩)), (6, .pointer (some ⟨b10, 0, none⟩)), (9, .int .i64 ((wn : Nat) : Int)), (10, .int .i64 ((t : Nat) : Int))] [.own 3 (⟨vw, wl⟩ : Ls Int), .blk b10 25 [vq, vw, .int .i64 locks, .int .i64 8], .blk b5 28 [.int .i64 0, .int .i64 0, .int .i64 0], .blk b4 25 [(.slice none 0 0), (.slice none 0 0), .int .i64 0, .int .i64 0], .blk b3 25 [code.v, words.v, .int .i64 locks, .int .i64 regs], .at_ code, .at_ words, .at_ cols, .deep 33 (⟨vq, qs⟩ : Ls (Ls Ins))] ∧ m = code.l.length - t) ⟨_, 0, words.l.length, [], (.slice none 0 0), (by omega), (rfl), (rfl), (rfl), h88.nrm ⟨rfl, rfl, rfl, rfl, rfl, rfl, rfl, trivial⟩ [1, 2, 3, 4, 5, 6, 7, 8, 0] (by decide) ⟨rfl, rfl, rfl, rfl, rfl, rfl, rfl, rfl, rfl, trivial⟩, rfl⟩ ?_
 clear h88
 rintro m87 a87 w87 ⟨t, wn, qs, vq, ht3, hwn, hqs, hql, h87, hm87⟩
 refine wp_seq_k fun K89 hK89 => wp_seq_k fun K90 hK90 => wp_region_lit <| wms 1 h87 rfl fun a91 h91 => wv h91 (r_fieldB (r := 0) fl_25_0 rfl rfl rfl) rfl rfl fun a92 h92 => wv h92 (r_ldb (i := 4) ti_22 rfl rfl rfl rfl) rfl rfl fun a93 h93 => wv h93 (r_len (s := code) (n := code.l.length) sl_22 rfl rfl (fun w h => (h.at 5 rfl)) rfl) rfl rfl fun a94 h94 => wv h94 (r_lssN (p := t) (q := code.l.length) rfl rfl rfl) rfl rfl fun a95 h95 => wpList_nil <| hK90 _ _ <| x_cond h95 rfl (fun hb96 => ?_) (fun hb96 => ?_); clear h87 h91 h92 h93 h94
 ·have hp96 : t < code.l.length := of_decide_eq_true hb96
  refine wp_skip <| hK89 _ _ <| wp_seq_k fun K97 hK97 => wp_block <| wp_seq_k fun K98 hK98 => wp_region_lit <| wv h95 (r_fieldB (r := 3) fl_25_3 rfl rfl rfl) rfl rfl fun a99 h99 => wv h99 (r_ldb (i := 4) ti_3 rfl rfl rfl rfl) rfl rfl fun a100 h100 => wl_ex (x_make (n := regs.toNat) (0 : Int) h100 sl_23 ti_3 rfl (ev_nat (show 0 ≤ regs from (by omega)) rfl) (ev_nat (show 0 ≤ regs from (by omega)) rfl) rfl rfl (show 8 * regs.toNat ≤ 140737488355328 ∧ regs.toNat ≤ 140737488355328 from (by omega)) (fun w => Flat.inner _ _) (fun b => Flat.on _ _) rfl rfl) (wanted_none rfl _) ?_; clear h95 h99
  rintro a101 w101 ⟨v101, h101⟩; clear h100
  refine wms 1 h101 rfl fun a102 h102 => wpList_nil <| hK98 _ _ <| wp_seq_k fun K103 hK103 => wp_seq_k fun K104 hK104 => wp_region_lit <| wms 1 h102 rfl fun a105 h105 => wpList_nil <| hK104 _ _ <| wp_block ?_; clear h101 h102
  have hcr1 := hcr t (by omega)
  have hts := tSp_le (cols := cols.l) (show regs.toNat ≤ 200 by omega) t
  refine x_loop (fun m a w => ∃ (r : Nat) (wn4 : Nat) (dl : List Int), (r ≤ regs.toNat) ∧ (wn4 = (words.l.length + tSp cols.l regs.toNat t) + nSp (nth cols.l t).l r) ∧ (dl.length = regs.toNat) ∧ (∀ j, j < regs.toNat → nth dl j = if j < r ∧ nth (nth cols.l t).l j < 0 then (((words.l.length + tSp cols.l regs.toNat t) + nSp (nth cols.l t).l j : Nat) : Int) else 0) ∧ St 139 (fun _ => False) W a w [(1, cols.v), (2, .pointer (some ⟨b3, 0, none⟩)), (4, .pointer (some ⟨b4, 0, none⟩)), (5, .pointer (some ⟨b5, 0, none⟩)), (6, .pointer (some ⟨b10, 0, none⟩)), (9, .int .i64 ((wn4 : Nat) : Int)), (10, .int .i64 ((t : Nat) : Int)), (11, v101), (12, .int .i64 ((r : Nat) : Int))] [.own 3 (⟨v101, dl⟩ : Ls Int), .own 3 (⟨vw, wl⟩ : Ls Int), .blk b10 25 [vq, vw, .int .i64 locks, .int .i64 8], .blk b5 28 [.int .i64 0, .int .i64 0, .int .i64 0], .blk b4 25 [(.slice none 0 0), (.slice none 0 0), .int .i64 0, .int .i64 0], .blk b3 25 [code.v, words.v, .int .i64 locks, .int .i64 regs], .at_ code, .at_ words, .at_ cols, .deep 33 (⟨vq, qs⟩ : Ls (Ls Ins))] ∧ m = regs.toNat - r) ⟨_, 0, wn, List.replicate regs.toNat 0, (by omega), (hwn), (by simp), (fun j hj => by rw [nth_rep0, if_neg (by omega)]), h105.nrm ⟨rfl, rfl, rfl, rfl, rfl, rfl, rfl, rfl, rfl, trivial⟩ [0, 1, 2, 3, 4, 5, 6, 7, 8, 9] (by decide) ⟨rfl, rfl, rfl, rfl, rfl, rfl, rfl, rfl, rfl, rfl, trivial⟩, rfl⟩ ?_
  clear h105
  rintro m106 a106 w106 ⟨r, wn4, dl, hr, hwn4, hdl, hdv, h106, hm106⟩
  have hnl := nSp_le (nth cols.l t).l r
  refine wp_seq_k fun K107 hK107 => wp_seq_k fun K108 hK108 => wp_region_lit <| wms 1 h106 rfl fun a109 h109 => wv h109 (r_fieldB (r := 3) fl_25_3 rfl rfl rfl) rfl rfl fun a110 h110 => wv h110 (r_ldb (i := 5) ti_3 rfl rfl rfl rfl) rfl rfl fun a111 h111 => wv h111 (r_lssI (p := ((r : Nat) : Int)) (q := regs) rfl rfl rfl) rfl rfl fun a112 h112 => wpList_nil <| hK108 _ _ <| x_cond h112 rfl (fun hb113 => ?_) (fun hb113 => ?_); clear h106 h109 h110 h111
  ·have hp113 : ((r : Nat) : Int) < regs := of_decide_eq_true hb113
   refine wp_skip <| hK107 _ _ <| wp_seq_k fun K114 hK114 => wp_block <| wp_seq_k fun K115 hK115 => wp_region_lit <| wms 2 h112 rfl fun a116 h116 => ?_; clear h112
   have hl117 : cols.l.length ≤ 140737488355328 := (h116.sh.at 8 rfl).len
   refine wv h116 (r_ixN (s := cols) (q := t) sl_35 ti_23 rfl rfl rfl (fun w h => (h.at 8 rfl)) (show t < cols.l.length from (by omega))) rfl rfl fun a118 h118 => wv h118 (r_lde (s := cols) (i := t) (v := (nth cols.l t).v) ti_23 rfl rfl rfl (fun w h => (h.at 8 rfl)) (show t < cols.l.length from (by omega)) (Nat.le_of_ble_eq_true rfl) rfl) rfl rfl fun a119 h119 => wms 1 h119 rfl fun a120 h120 => ?_; clear h116 h118 h119
   have hl121 : ((nth cols.l t).l).length ≤ 140737488355328 := ((h120.sh.at 8 rfl).nth t (show t < cols.l.length from (by omega))).len
   refine wv h120 (r_ixN (s := nth cols.l t) (q := r) sl_23 ti_3 rfl rfl rfl (fun w h => ((h.at 8 rfl).nth t (show t < cols.l.length from (by omega)))) (show r < ((nth cols.l t).l).length from (by omega))) rfl rfl fun a122 h122 => wv h122 (r_lde (s := nth cols.l t) (i := r) (v := .int .i64 (nth ((nth cols.l t).l) r)) ti_3 rfl rfl rfl (fun w h => ((h.at 8 rfl).nth t (show t < cols.l.length from (by omega)))) (show r < ((nth cols.l t).l).length from (by omega)) (Nat.le_of_ble_eq_true rfl) rfl) rfl rfl fun a123 h123 => wv h123 (r_lssI (p := nth ((nth cols.l t).l) r) (q := 0) rfl rfl rfl) rfl rfl fun a124 h124 => wpList_nil <| hK115 _ _ <| x_cond h124 rfl (fun hb125 => ?_) (fun hb125 => ?_); clear h120 h122 h123
   ·have hp125 : nth ((nth cols.l t).l) r < 0 := of_decide_eq_true hb125
    refine wp_seq_k fun K126 hK126 => wp_region_lit <| wms 3 h124 rfl fun a127 h127 => ?_; clear h124
    have hl128 : dl.length ≤ 140737488355328 := (h127.sh.own 0 rfl).len
    refine wv h127 (r_ixN (s := (⟨v101, dl⟩ : Ls Int)) (q := r) sl_23 ti_3 rfl rfl rfl (fun w h => (h.own 0 rfl)) (show r < dl.length from (by omega))) rfl rfl fun a129 h129 => wl_ex (x_ste (r := 0) (i := r) (j := 0) (x' := (((wn4 : Nat) : Int) : Int)) h129 ti_3 rfl rfl rfl rfl rfl (show r < dl.length from (by omega)) (Nat.le_of_ble_eq_true rfl) rfl rfl rfl (by intro q hq; obtain rfl : q = 0 := (by omega); rfl) (fun w h => Flat.inner _ _) (fun b hb => (Flat.on _ _ hb).elim)) (wanted_none rfl _) ?_; clear h127
    rintro a130 w130 h130
    clear h129
    refine wpList_nil <| hK126 _ _ <| wp_region_lit <| wms 1 h130 rfl fun a131 h131 => wv h131 (r_addN (p := wn4) (q := 1) rfl rfl rfl (show wn4 + 1 < 9223372036854775808 from (by omega))) rfl rfl fun a132 h132 => wms 1 h132 rfl fun a133 h133 => wpList_nil <| hK114 _ _ <| wp_region_lit <| wms 1 h133 rfl fun a134 h134 => wv h134 (r_addN (p := r) (q := 1) rfl rfl rfl (show r + 1 < 9223372036854775808 from (by omega))) rfl rfl fun a135 h135 => wms 1 h135 rfl fun a136 h136 => wpList_nil <| x_again ⟨_, ?_, r + 1, wn4 + 1, dl.set r ((wn4 : Nat) : Int), ?_, ?_, ?_, ?_, h136.nrm ⟨rfl, rfl, rfl, rfl, rfl, rfl, rfl, rfl, rfl, trivial⟩ [0, 1, 2, 3, 4, 5, 6, 7, 8, 9] (by decide) ⟨rfl, rfl, rfl, rfl, rfl, rfl, rfl, rfl, rfl, rfl, trivial⟩, rfl⟩; clear h130 h131 h132 h133 h134 h135
    · rw [hm106]; first | omega | (simp only [lens9]; omega)
    · omega
    · first | (rw [nSp_yes (by assumption)]; omega) | (rw [nSp_no (by assumption)]; exact hwn4)
    · first | (simp only [List.length_set]; exact hdl) | exact hdl
    · first | (rw [hwn4]; exact dl_yes hdl hdv (by omega) (by assumption)) | exact dl_no hdv (by assumption)
   have hp125 : ¬ (nth ((nth cols.l t).l) r < 0) := of_decide_eq_false hb125
   refine wp_skip <| hK114 _ _ <| wp_region_lit <| wms 1 h124 rfl fun a137 h137 => wv h137 (r_addN (p := r) (q := 1) rfl rfl rfl (show r + 1 < 9223372036854775808 from (by omega))) rfl rfl fun a138 h138 => wms 1 h138 rfl fun a139 h139 => wpList_nil <| x_again ⟨_, ?_, r + 1, wn4, dl, ?_, ?_, ?_, ?_, h139.nrm ⟨rfl, rfl, rfl, rfl, rfl, rfl, rfl, rfl, rfl, trivial⟩ [0, 1, 2, 3, 4, 5, 6, 7, 8, 9] (by decide) ⟨rfl, rfl, rfl, rfl, rfl, rfl, rfl, rfl, rfl, rfl, trivial⟩, rfl⟩; clear h124 h137 h138
   · rw [hm106]; first | omega | (simp only [lens9]; omega)
   · omega
   · first | (rw [nSp_yes (by assumption)]; omega) | (rw [nSp_no (by assumption)]; exact hwn4)
   · first | (simp only [List.length_set]; exact hdl) | exact hdl
   · first | (rw [hwn4]; exact dl_yes hdl hdv (by omega) (by assumption)) | exact dl_no hdv (by assumption)
  have hp113 : ¬ (((r : Nat) : Int) < regs) := of_decide_eq_false hb113
  refine wp_exit <| hK103 _ _ <| wp_seq_k fun K140 hK140 => wp_region_lit <| wms 1 h112 rfl fun a141 h141 => wpList_nil <| hK140 _ _ <| wp_seq_k fun K142 hK142 => wp_seq_k fun K143 hK143 => wp_region_lit <| wms 1 h141 rfl fun a144 h144 => wpList_nil <| hK143 _ _ <| wp_block ?_; clear h112 h141
  have h146 := h144.nilDeep (α := Ls Ins) 33
  clear h144
  obtain ⟨hl4, hjt⟩ := ok_thread hok t (by omega)
  have hov := okV_of hok t (by omega)
  have hdw : dl = wdF (nth cols.l t).l (words.l.length + tSp cols.l regs.toNat t) regs.toNat := wdF_eq hdl (fun j hj => by have h9 := hdv j hj; rwa [show r = regs.toNat by omega] at h9)
  refine x_loop (fun m a w => ∃ (j : Nat) (bc : List (Ls Ins)) (vb : Value), (j ≤ (nth code.l t).l.length) ∧ (bc.map (·.l) = (List.range j).map (fun i => paintL (nth cols.l t).l dl (nth (nth code.l t).l i))) ∧ (bc.length = j) ∧ St 139 (fun _ => False) W a w [(1, cols.v), (2, .pointer (some ⟨b3, 0, none⟩)), (4, .pointer (some ⟨b4, 0, none⟩)), (5, .pointer (some ⟨b5, 0, none⟩)), (6, .pointer (some ⟨b10, 0, none⟩)), (9, .int .i64 ((wn4 : Nat) : Int)), (10, .int .i64 ((t : Nat) : Int)), (11, v101), (13, vb), (14, .int .i64 ((j : Nat) : Int))] [.own 3 (⟨v101, dl⟩ : Ls Int), .own 3 (⟨vw, wl⟩ : Ls Int), .blk b10 25 [vq, vw, .int .i64 locks, .int .i64 8], .blk b5 28 [.int .i64 0, .int .i64 0, .int .i64 0], .blk b4 25 [(.slice none 0 0), (.slice none 0 0), .int .i64 0, .int .i64 0], .blk b3 25 [code.v, words.v, .int .i64 locks, .int .i64 regs], .at_ code, .at_ words, .at_ cols, .deep 33 (⟨vq, qs⟩ : Ls (Ls Ins)), .deep 33 (⟨vb, bc⟩ : Ls (Ls Ins))] ∧ m = (nth code.l t).l.length - j) ⟨_, 0, [], (.slice none 0 0), (by omega), (rfl), (rfl), h146.nrm ⟨rfl, rfl, rfl, rfl, rfl, rfl, rfl, rfl, rfl, rfl, trivial⟩ [1, 2, 3, 4, 5, 6, 7, 8, 9, 10, 0] (by decide) ⟨rfl, rfl, rfl, rfl, rfl, rfl, rfl, rfl, rfl, rfl, rfl, trivial⟩, rfl⟩ ?_
  clear h146
  rintro m145 a145 w145 ⟨j, bc, vb, hj, hbc, hbl, h145, hm145⟩
  refine wp_seq_k fun K147 hK147 => wp_seq_k fun K148 hK148 => wp_region_lit <| wms 1 h145 rfl fun a149 h149 => wv h149 (r_fieldB (r := 0) fl_25_0 rfl rfl rfl) rfl rfl fun a150 h150 => wv h150 (r_ldb (i := 5) ti_22 rfl rfl rfl rfl) rfl rfl fun a151 h151 => wms 1 h151 rfl fun a152 h152 => wv h152 (r_ixN (s := code) (q := t) sl_22 ti_33 rfl rfl rfl (fun w h => (h.at 6 rfl)) (show t < code.l.length from (by omega))) rfl rfl fun a153 h153 => wv h153 (r_lde (s := code) (i := t) (v := (nth code.l t).v) ti_33 rfl rfl rfl (fun w h => (h.at 6 rfl)) (show t < code.l.length from (by omega)) (Nat.le_of_ble_eq_true rfl) rfl) rfl rfl fun a154 h154 => ?_; clear h145 h149 h150 h151 h152 h153
  have hl155 : ((nth code.l t).l).length ≤ 140737488355328 := ((h154.sh.at 6 rfl).nth t (show t < code.l.length from (by omega))).len
  refine wv h154 (r_len (s := nth code.l t) (n := ((nth code.l t).l).length) sl_33 rfl rfl (fun w h => ((h.at 6 rfl).nth t (show t < code.l.length from (by omega)))) rfl) rfl rfl fun a156 h156 => wv h156 (r_lssN (p := j) (q := ((nth code.l t).l).length) rfl rfl rfl) rfl rfl fun a157 h157 => wpList_nil <| hK148 _ _ <| x_cond h157 rfl (fun hb158 => ?_) (fun hb158 => ?_); clear h154 h156
  ·have hp158 : j < ((nth code.l t).l).length := of_decide_eq_true hb158
   refine wp_skip <| hK147 _ _ <| wp_seq_k fun K159 hK159 => wp_block <| wp_seq_k fun K160 hK160 => x_tail 13 [] (by kernel_rfl) (by kernel_rfl) h157 fun Z161 hZ161 => ?_
   have hq161 := h157.fr
   refine wq_val hq161 (r_fieldB (r := 0) fl_25_0 rfl rfl rfl) (wanted_none rfl _) rfl rfl fun a162 hq162 => wq_val hq162 (r_ldb (i := 5) ti_22 rfl rfl rfl rfl) (wanted_none rfl _) rfl rfl fun a163 hq163 => wq_val hq163 (r_move rfl rfl) (wanted_none rfl _) rfl rfl fun a164 hq164 => wq_val hq164 (r_ixN (s := code) (q := t) sl_22 ti_33 rfl rfl rfl (fun w h => (h.at 6 rfl)) (show t < code.l.length from (by omega))) (wanted_none rfl _) rfl rfl fun a165 hq165 => wq_val hq165 (r_lde (s := code) (i := t) (v := (nth code.l t).v) ti_33 rfl rfl rfl (fun w h => (h.at 6 rfl)) (show t < code.l.length from (by omega)) (Nat.le_of_ble_eq_true rfl) rfl) (wanted_none rfl _) rfl rfl fun a166 hq166 => wq_val hq166 (r_move rfl rfl) (wanted_none rfl _) rfl rfl fun a167 hq167 => wq_val hq167 (r_ixN (s := nth code.l t) (q := j) sl_33 ti_32 rfl rfl rfl (fun w h => ((h.at 6 rfl).nth t (show t < code.l.length from (by omega)))) (show j < ((nth code.l t).l).length from (by omega))) (wanted_none rfl _) rfl rfl fun a168 hq168 => wq_val hq168 (r_ldew (s := nth code.l t) (i := j) (vs := [.int .i64 ((nth ((nth code.l t).l) j).op), .int .i64 ((nth ((nth code.l t).l) j).a), .int .i64 ((nth ((nth code.l t).l) j).b), .int .i64 ((nth ((nth code.l t).l) j).c)]) ti_32 rfl rfl rfl (fun w h => ((h.at 6 rfl).nth t (show t < code.l.length from (by omega)))) (show j < ((nth code.l t).l).length from (by omega)) (Nat.le_of_ble_eq_true rfl) rfl) (wanted_none rfl _) rfl rfl fun a169 hq169 => wq_val hq169 (r_move rfl rfl) (wanted_none rfl _) rfl rfl fun a170 hq170 => wq_val hq170 (r_move rfl rfl) (wanted_none rfl _) rfl rfl fun a171 hq171 => ?_; clear hq161 hq162 hq163 hq164 hq165 hq166 hq167 hq168 hq169 hq170
   have hl172 : cols.l.length ≤ 140737488355328 := (h157.sh.at 8 rfl).len
   refine wq_val hq171 (r_ixN (s := cols) (q := t) sl_35 ti_23 rfl rfl rfl (fun w h => (h.at 8 rfl)) (show t < cols.l.length from (by omega))) (wanted_none rfl _) rfl rfl fun a173 hq173 => wq_val hq173 (r_lde (s := cols) (i := t) (v := (nth cols.l t).v) ti_23 rfl rfl rfl (fun w h => (h.at 8 rfl)) (show t < cols.l.length from (by omega)) (Nat.le_of_ble_eq_true rfl) rfl) (wanted_none rfl _) rfl rfl fun a174 hq174 => wq_val hq174 (r_move rfl rfl) (wanted_none rfl _) rfl rfl fun a175 hq175 => wpQuiet_nil (hZ161 _ fun w176 hw176 => ?_); clear hq171 hq173 hq174
   have h176 : St 139 (fun _ => False) W a175 w176 _ _ := ⟨hq175, hw176⟩
   clear hq175 hw176 h157
   refine wl_ex (x_call h176 bd_60 rfl rfl rfl rfl rfl (painted_c (nth ((nth code.l t).l) j) (nth cols.l t) (⟨v101, dl⟩ : Ls Int) _ (hov j (by omega)).1 (hov j (by omega)).2.1 ((h176.sh.at 8 rfl).nth t (show t < cols.l.length from (by omega))) (h176.sh.own 0 rfl) (show dl.length = ((nth cols.l t).l).length by omega) (fun q hq => by have h9 := (hov j (by omega)).2.2.2 _ (nth_mem _ _ hq); omega) (by have h9 := (hov j (by omega)).2.2.1; omega))) (wanted_none rfl _) ?_
   rintro a177 w177 ⟨_, ⟨s177, rfl, hs177⟩, hf177⟩
   have h177 := (⟨hf177, h176.sh.call hs177 (by intro A hA b hb; first | (simp at hA; done) | (simp at hA; subst hA; first | exact Flat.noRd hb | exact (hb : False).elim) | (simp at hA; rcases hA with rfl | rfl <;> first | exact Flat.noRd hb | exact (hb : False).elim))⟩ : St 139 (fun _ => False) W a177 w177 _ _)
   clear hf177 hs177
   clear h176
   refine wms 1 h177 rfl fun a178 h178 => wpList_nil <| hK160 _ _ <| wp_region_lit <| wms 2 h178 rfl fun a179 h179 => wl_ex (x_litD (E := 0) (x := (⟨s177.v, paintL ((nth cols.l t).l) dl (nth ((nth code.l t).l) j)⟩ : Ls Ins)) h179 sl_22 ti_33 rfl rfl rfl ((h179.sh.own 0 rfl)) (fun b hb => (own_on (h179.sh.ok _ (List.mem_of_getElem? (i := 0) rfl)) hb).elim (fun h => h) (fun h => Flat.noRd h)) (fun b hb => Flat.noRd hb) rfl rfl) (wanted_none rfl _) ?_; clear h177 h178
   rintro a180 w180 ⟨v180, h180⟩; clear h179
   have h181 := h180.sel (L' := [.deep 33 (⟨vb, bc⟩ : Ls (Ls Ins)), .deep 33 (⟨v180, [(⟨s177.v, paintL ((nth cols.l t).l) dl (nth ((nth code.l t).l) j)⟩ : Ls Ins)]⟩ : Ls (Ls Ins)), .own 3 (⟨v101, dl⟩ : Ls Int), .own 3 (⟨vw, wl⟩ : Ls Int), .blk b10 25 [vq, vw, .int .i64 locks, .int .i64 8], .blk b5 28 [.int .i64 0, .int .i64 0, .int .i64 0], .blk b4 25 [(.slice none 0 0), (.slice none 0 0), .int .i64 0, .int .i64 0], .blk b3 25 [code.v, words.v, .int .i64 locks, .int .i64 regs], .at_ code, .at_ words, .at_ cols, .deep 33 (⟨vq, qs⟩ : Ls (Ls Ins))]) [11, 0, 1, 2, 3, 4, 5, 6, 7, 8, 9, 10] (by decide) ⟨rfl, rfl, rfl, rfl, rfl, rfl, rfl, rfl, rfl, rfl, rfl, rfl, trivial⟩
   refine wl_ex (x_appD (s := (⟨vb, bc⟩ : Ls (Ls Ins))) (m := (⟨v180, [(⟨s177.v, paintL ((nth cols.l t).l) dl (nth ((nth code.l t).l) j)⟩ : Ls Ins)]⟩ : Ls (Ls Ins))) h181 sl_22 ti_33 rfl rfl rfl rfl rfl rfl rfl inferInstance (show (bc.length + ([(⟨s177.v, paintL ((nth cols.l t).l) dl (nth ((nth code.l t).l) j)⟩ : Ls Ins)]).length) * 24 ≤ 140737488355328 ∧ bc.length + ([(⟨s177.v, paintL ((nth cols.l t).l) dl (nth ((nth code.l t).l) j)⟩ : Ls Ins)]).length ≤ 140737488355328 from (by first | omega | (simp only [lens9]; omega))) rfl rfl) (wanted_none rfl _) ?_
   rintro a182 w182 ⟨v182, h182⟩; clear h181
   refine wms 1 h182 rfl fun a183 h183 => wpList_nil <| hK159 _ _ ?_; clear h182
   have h184 : St 139 (fun _ => False) W a183 w182 [(1, cols.v), (2, .pointer (some ⟨b3, 0, none⟩)), (4, .pointer (some ⟨b4, 0, none⟩)), (5, .pointer (some ⟨b5, 0, none⟩)), (6, .pointer (some ⟨b10, 0, none⟩)), (9, .int .i64 ((wn4 : Nat) : Int)), (10, .int .i64 ((t : Nat) : Int)), (11, v101), (13, v182), (14, .int .i64 ((j : Nat) : Int))] [.deep 33 (⟨v182, bc ++ ([(⟨s177.v, paintL ((nth cols.l t).l) dl (nth ((nth code.l t).l) j)⟩ : Ls Ins)])⟩ : Ls (Ls Ins)), .own 3 (⟨v101, dl⟩ : Ls Int), .own 3 (⟨vw, wl⟩ : Ls Int), .blk b10 25 [vq, vw, .int .i64 locks, .int .i64 8], .blk b5 28 [.int .i64 0, .int .i64 0, .int .i64 0], .blk b4 25 [(.slice none 0 0), (.slice none 0 0), .int .i64 0, .int .i64 0], .blk b3 25 [code.v, words.v, .int .i64 locks, .int .i64 regs], .at_ code, .at_ words, .at_ cols, .deep 33 (⟨vq, qs⟩ : Ls (Ls Ins))] := h183.nrm ⟨rfl, rfl, rfl, rfl, rfl, rfl, rfl, rfl, rfl, rfl, trivial⟩ [0, 1, 2, 3, 4, 5, 6, 7, 8, 9, 10] (by decide) ⟨rfl, rfl, rfl, rfl, rfl, rfl, rfl, rfl, rfl, rfl, rfl, trivial⟩
   clear h183
   refine wp_region_lit <| wms 1 h184 rfl fun a185 h185 => wv h185 (r_addN (p := j) (q := 1) rfl rfl rfl (show j + 1 < 9223372036854775808 from (by omega))) rfl rfl fun a186 h186 => wms 1 h186 rfl fun a187 h187 => wpList_nil <| x_again ⟨_, ?_, j + 1, bc ++ ([(⟨s177.v, paintL ((nth cols.l t).l) dl (nth ((nth code.l t).l) j)⟩ : Ls Ins)]), v182, ?_, ?_, ?_, h187.nrm ⟨rfl, rfl, rfl, rfl, rfl, rfl, rfl, rfl, rfl, rfl, trivial⟩ [1, 2, 3, 4, 5, 6, 7, 8, 9, 10, 0] (by decide) ⟨rfl, rfl, rfl, rfl, rfl, rfl, rfl, rfl, rfl, rfl, rfl, trivial⟩, rfl⟩; clear h184 h185 h186
   · rw [hm145]; first | omega | (simp only [lens9]; omega)
   · omega
   · rw [List.map_append, hbc, List.range_succ, List.map_append]; rfl
   · simp [hbl]
  have hp158 : ¬ (j < ((nth code.l t).l).length) := of_decide_eq_false hb158
  refine wp_exit <| hK142 _ _ <| wp_seq_k fun K188 hK188 => wp_region_lit <| wms 1 h157 rfl fun a189 h189 => wv h189 (r_fieldB (r := 0) fl_25_0 rfl rfl rfl) rfl rfl fun a190 h190 => wv h190 (r_ldb (i := 5) ti_22 rfl rfl rfl rfl) rfl rfl fun a191 h191 => wms 1 h191 rfl fun a192 h192 => wv h192 (r_ixN (s := code) (q := t) sl_22 ti_33 rfl rfl rfl (fun w h => (h.at 6 rfl)) (show t < code.l.length from (by omega))) rfl rfl fun a193 h193 => wv h193 (r_lde (s := code) (i := t) (v := (nth code.l t).v) ti_33 rfl rfl rfl (fun w h => (h.at 6 rfl)) (show t < code.l.length from (by omega)) (Nat.le_of_ble_eq_true rfl) rfl) rfl rfl fun a194 h194 => wl_ex (x_call h194 bd_61 rfl rfl rfl rfl rfl (rPut_c (⟨vb, bc⟩ : Ls (Ls Ins)) (nth code.l t) _ (h194.sh.deep 10 rfl) ((h194.sh.at 6 rfl).nth t (show t < code.l.length from (by omega))) (show bc.length = (nth code.l t).l.length by omega) (by omega) (fun i hi => by rw [bc_nth hbc i (by omega)]; exact paintL_len _ _ _) (ap_ok2 hjt (by rw [← show j = (nth code.l t).l.length by omega]; exact hbc)))) (wanted_none rfl _) ?_; clear h157 h189 h190 h191 h192 h193
  rintro a195 w195 ⟨_, ⟨s195, rfl, hl195, hs195⟩, hf195⟩
  have h195 := (⟨hf195, h194.sh.call hs195 (by intro A hA b hb; first | (simp at hA; done) | (simp at hA; subst hA; first | exact Flat.noRd hb | exact (hb : False).elim) | (simp at hA; rcases hA with rfl | rfl <;> first | exact Flat.noRd hb | exact (hb : False).elim))⟩ : St 139 (fun _ => False) W a195 w195 _ _)
  clear hf195 hs195
  clear h194
  refine wms 1 h195 rfl fun a196 h196 => wpList_nil <| hK188 _ _ ?_; clear h195
  have hq1 : s195.l = apT (nth code.l t).l (nth cols.l t).l (words.l.length + tSp cols.l regs.toNat t) regs.toNat := by rw [apT, apL, ← hdw, hl195, hbc, show j = (nth code.l t).l.length by omega]
  have hq2 := congrArg List.length hq1
  refine wp_seq_k fun K197 hK197 => wp_seq_k fun K198 hK198 => wp_region_lit <| wms 1 h196 rfl fun a199 h199 => ?_; clear h196
  have hl200 : s195.l.length ≤ 140737488355328 := (h199.sh.own 0 rfl).len
  refine wv h199 (r_len (s := s195) (n := s195.l.length) sl_33 rfl rfl (fun w h => (h.own 0 rfl)) rfl) rfl rfl fun a201 h201 => wv h201 (r_gtrN (p := s195.l.length) (q := 400) rfl rfl rfl) rfl rfl fun a202 h202 => wpList_nil <| hK198 _ _ <| x_cond h202 rfl (fun hb203 => ?_) (fun hb203 => ?_); clear h199 h201
  ·have hp203 : 400 < s195.l.length := of_decide_eq_true hb203
   exfalso
   have h9 := hfit t (by omega); omega
  have hp203 : ¬ (400 < s195.l.length) := of_decide_eq_false hb203
  refine wp_skip <| hK197 _ _ <| wp_region_lit <| wv h202 (r_fieldB (r := 0) fl_25_0 rfl rfl rfl) rfl rfl fun a204 h204 => wv h204 (r_ldb (i := 3) ti_22 rfl rfl rfl rfl) rfl rfl fun a205 h205 => wms 1 h205 rfl fun a206 h206 => wl_ex (x_litD (E := 0) (x := s195) h206 sl_22 ti_33 rfl rfl rfl ((h206.sh.own 0 rfl)) (fun b hb => (own_on (h206.sh.ok _ (List.mem_of_getElem? (i := 0) rfl)) hb).elim (fun h => h) (fun h => Flat.noRd h)) (fun b hb => Flat.noRd hb) rfl rfl) (wanted_none rfl _) ?_; clear h202 h204 h205
  rintro a207 w207 ⟨v207, h207⟩; clear h206
  have h208 := h207.sel (L' := [.deep 33 (⟨vq, qs⟩ : Ls (Ls Ins)), .deep 33 (⟨v207, [s195]⟩ : Ls (Ls Ins)), .own 3 (⟨v101, dl⟩ : Ls Int), .own 3 (⟨vw, wl⟩ : Ls Int), .blk b10 25 [vq, vw, .int .i64 locks, .int .i64 8], .blk b5 28 [.int .i64 0, .int .i64 0, .int .i64 0], .blk b4 25 [(.slice none 0 0), (.slice none 0 0), .int .i64 0, .int .i64 0], .blk b3 25 [code.v, words.v, .int .i64 locks, .int .i64 regs], .at_ code, .at_ words, .at_ cols, .deep 33 (⟨vb, bc⟩ : Ls (Ls Ins))]) [10, 0, 1, 2, 3, 4, 5, 6, 7, 8, 9, 11] (by decide) ⟨rfl, rfl, rfl, rfl, rfl, rfl, rfl, rfl, rfl, rfl, rfl, rfl, trivial⟩
  refine wl_ex (x_appD (s := (⟨vq, qs⟩ : Ls (Ls Ins))) (m := (⟨v207, [s195]⟩ : Ls (Ls Ins))) h208 sl_22 ti_33 rfl rfl rfl rfl rfl rfl rfl inferInstance (show (qs.length + ([s195]).length) * 24 ≤ 140737488355328 ∧ qs.length + ([s195]).length ≤ 140737488355328 from (by first | omega | (simp only [lens9]; omega))) rfl rfl) (wanted_none rfl _) ?_
  rintro a209 w209 ⟨v209, h209⟩; clear h208
  refine wv h209 (r_fieldB (r := 0) fl_25_0 rfl rfl rfl) rfl rfl fun a210 h210 => wl_ex (x_stb (i := 3) (vs := [v209]) (cs' := [v209, vw, .int .i64 locks, .int .i64 8]) h210 ti_22 rfl rfl rfl rfl rfl (cells_oneL ((h210.sh.deep 0 rfl)).one) rfl (allOne_cons ((h210.sh.deep 0 rfl)).one allOne_nil) (Nat.le_of_ble_eq_true rfl) rfl) (wanted_none rfl _) ?_; clear h209
  rintro a211 w211 h211
  clear h210
  refine wpList_nil <| hK97 _ _ ?_
  have h212 : St 139 (fun _ => False) W a211 w211 [(1, cols.v), (2, .pointer (some ⟨b3, 0, none⟩)), (4, .pointer (some ⟨b4, 0, none⟩)), (5, .pointer (some ⟨b5, 0, none⟩)), (6, .pointer (some ⟨b10, 0, none⟩)), (9, .int .i64 ((wn4 : Nat) : Int)), (10, .int .i64 ((t : Nat) : Int))] [.deep 33 (⟨v209, qs ++ ([s195])⟩ : Ls (Ls Ins)), .own 3 (⟨v101, dl⟩ : Ls Int), .own 3 (⟨vw, wl⟩ : Ls Int), .blk b10 25 [v209, vw, .int .i64 locks, .int .i64 8], .blk b5 28 [.int .i64 0, .int .i64 0, .int .i64 0], .blk b4 25 [(.slice none 0 0), (.slice none 0 0), .int .i64 0, .int .i64 0], .blk b3 25 [code.v, words.v, .int .i64 locks, .int .i64 regs], .at_ code, .at_ words, .at_ cols, .deep 33 (⟨vb, bc⟩ : Ls (Ls Ins))] := h211.nrm ⟨rfl, rfl, rfl, rfl, rfl, rfl, rfl, trivial⟩ [0, 1, 2, 3, 4, 5, 6, 7, 8, 9, 10] (by decide) ⟨rfl, rfl, rfl, rfl, rfl, rfl, rfl, rfl, rfl, rfl, rfl, trivial⟩
  clear h211
  refine wp_region_lit <| wms 1 h212 rfl fun a213 h213 => wv h213 (r_addN (p := t) (q := 1) rfl rfl rfl (show t + 1 < 9223372036854775808 from (by omega))) rfl rfl fun a214 h214 => wms 1 h214 rfl fun a215 h215 => wpList_nil <| x_again ⟨_, ?_, t + 1, wn4, qs ++ ([s195]), v209, ?_, ?_, ?_, ?_, h215.nrm ⟨rfl, rfl, rfl, rfl, rfl, rfl, rfl, trivial⟩ [2, 3, 4, 5, 6, 7, 8, 9, 0] (by decide) ⟨rfl, rfl, rfl, rfl, rfl, rfl, rfl, rfl, rfl, trivial⟩, rfl⟩; clear h212 h213 h214
  · rw [hm87]; first | omega | (simp only [lens9]; omega)
  · first | omega | (rcases Nat.lt_or_ge t kk with h9 | h9; (omega); (exfalso; have h8 : t = kk := (by omega); rw [h8] at hq2; omega))
  · rw [hwn4, show r = regs.toNat by omega, tSp]; omega
  · rw [List.map_append, hqs, List.range_succ, List.map_append]; simp [hq1]
  · simp [hql]
 have hp96 : ¬ (t < code.l.length) := of_decide_eq_false hb96
 refine wp_exit <| hK84 _ _ <| wp_seq_k fun K216 hK216 => wp_region_lit <| wv h95 (r_ldbw (i := 1) (vs := [vq, vw, .int .i64 locks, .int .i64 8]) ti_25 rfl rfl rfl rfl rfl) rfl rfl fun a217 h217 => wv h217 (r_build (cs := [.int .i64 0, .int .i64 0, .int .i64 0]) rfl rfl (by kernel_rfl)) rfl rfl fun a218 h218 => wl_ex (x_stb (i := 3) (vs := [vq, vw, .int .i64 locks, .int .i64 8]) (cs' := [vq, vw, .int .i64 locks, .int .i64 8]) h218 ti_25 rfl rfl rfl rfl rfl rfl rfl (allOne_cons ((h218.sh.deep 8 rfl)).one (allOne_cons ((h218.sh.own 0 rfl)).one (allOne_cons rfl (allOne_cons rfl allOne_nil)))) (Nat.le_of_ble_eq_true rfl) rfl) (wanted_none rfl _) ?_; clear h95 h217
 rintro a219 w219 h219
 clear h218
 refine wl_ex (x_stb (i := 2) (vs := [.int .i64 0, .int .i64 0, .int .i64 0]) (cs' := [.int .i64 0, .int .i64 0, .int .i64 0]) h219 ti_28 rfl rfl rfl rfl rfl rfl rfl (allOne_cons rfl (allOne_cons rfl (allOne_cons rfl allOne_nil))) (Nat.le_of_ble_eq_true rfl) rfl) (wanted_none rfl _) ?_
 rintro a220 w220 h220
 clear h219
 refine wpList_nil <| hK216 _ _ <| wp_ret ?_
 try simp only [Exit.then, Exit.inBlock]
 refine x_ret2c (fn := Try.f23) (t := 4) (t2 := 5) (i := 3) (i2 := 2) ti_25 ti_28 rfl h220 rfl rfl rfl rfl rfl rfl <| ⟨⟨vq, qs⟩, ⟨vw, wl⟩, rfl, ?_, ?_, (h220.sh.sel (L' := [.deep 33 (⟨vq, qs⟩ : Ls (Ls Ins)), .own 3 (⟨vw, wl⟩ : Ls Int)]) [8, 0] (by decide) ⟨rfl, rfl, trivial⟩)⟩
 · show qs.map (·.l) = _; rw [hqs, show t = code.l.length by omega]
 · show wl = _; rw [hwl, show t1 = code.l.length by omega]

set_option maxRecDepth 100000 in
set_option maxHeartbeats 8000000 in
theorem rApply_w (code : Ls (Ls Ins)) (words : Ls Int) (locks regs : Int) (cols : Ls (Ls Int)) (W : World) (hcode : code.At W) (hwords : words.At W) (hcols : cols.At W) (hok : OkPg (pgOf code words locks regs)) (hcc : cols.l.length = code.l.length) (hcr : ∀ t, t < code.l.length → (nth cols.l t).l.length = regs.toNat) (htot : 64 < words.l.length + tSp cols.l regs.toNat code.l.length) :
    Rets Try.prog 23 [.agg #[code.v, words.v, .int .i64 locks, .int .i64 regs], cols.v] W (fun v w' => v = .tuple #[.agg #[.slice none 0 0, .slice none 0 0, .int .i64 0, .int .i64 0], (⟨1, 0, 0⟩ : Flt).val] ∧ Sh0 W w' []) := by
 have hz := checkG_ok hok
 obtain ⟨hl1, hl2, hl3, hl4', hl5, hl6, hl7⟩ := ok_len hok
 have hrg := hok.regs
 have hrg1 : (pgOf code words locks regs).regs = regs := rfl
 rw [hrg1] at hrg
 refine x_enter (N := 139) Try.func23 rfl Try.ntmps23 (Nat.le_of_ble_eq_true rfl) fun a1 hf1 => ?_
 have h1 : St 139 (fun _ => False) W a1 W [(0, .agg #[code.v, words.v, .int .i64 locks, .int .i64 regs]), (1, cols.v)] [.at_ code, .at_ words, .at_ cols] := ⟨hf1.sub ⟨rfl, rfl, trivial⟩, Sh0.ext3 hcode hwords hcols⟩
 clear hf1
 refine wp_seq_k fun K2 hK2 => wp_region_lit <| wl_ex (x_box (cs := [code.v, words.v, .int .i64 locks, .int .i64 regs]) h1 rfl rfl rfl rfl rfl) (wanted_none rfl _) ?_
 rintro a3 w3 ⟨b3, h3⟩; clear h1
 refine wl_ex (x_alloc h3 ti_25 rfl rfl rfl) (wanted_none rfl _) ?_
 rintro a4 w4 ⟨b4, h4⟩; clear h3
 refine wl_ex (x_alloc h4 ti_28 rfl rfl rfl) (wanted_none rfl _) ?_
 rintro a5 w5 ⟨b5, h5⟩; clear h4
 refine wpList_nil <| hK2 _ _ <| wp_seq_k fun K6 hK6 => wp_region_lit <| wv h5 (r_fieldB (r := 2) fl_25_2 rfl rfl rfl) rfl rfl fun a7 h7 => wv h7 (r_ldb (i := 2) ti_3 rfl rfl rfl rfl) rfl rfl fun a8 h8 => wv h8 (r_build (cs := [(.slice none 0 0), (.slice none 0 0), .int .i64 locks, .int .i64 8]) rfl rfl (by kernel_rfl)) rfl rfl fun a9 h9 => wl_ex (x_alloc h9 ti_25 rfl rfl rfl) (wanted_none rfl _) ?_; clear h5 h7 h8
 rintro a10 w10 ⟨b10, h10⟩; clear h9
 refine wl_ex (x_stb (i := 0) (vs := [(.slice none 0 0), (.slice none 0 0), .int .i64 locks, .int .i64 8]) (cs' := [(.slice none 0 0), (.slice none 0 0), .int .i64 locks, .int .i64 8]) h10 ti_25 rfl rfl rfl rfl rfl rfl rfl (allOne_cons rfl (allOne_cons rfl (allOne_cons rfl (allOne_cons rfl allOne_nil)))) (Nat.le_of_ble_eq_true rfl) rfl) (wanted_none rfl _) ?_
 rintro a11 w11 h11
 clear h10
 refine wpList_nil <| hK6 _ _ <| wp_seq_k fun K12 hK12 => wp_region_lit <| wl_ex (x_lit0 (α := Int) h11 sl_23 ti_3 rfl rfl rfl) (wanted_none rfl _) ?_
 rintro a13 w13 ⟨v13, h13⟩; clear h11
 refine wv h13 (r_fieldB (r := 1) fl_25_1 rfl rfl rfl) rfl rfl fun a14 h14 => wv h14 (r_ldb (i := 4) ti_23 rfl rfl rfl rfl) rfl rfl fun a15 h15 => wl_ex (x_app (r := 0) (rm := 6) (s := (⟨v13, []⟩ : Ls Int)) (m := words) h15 sl_23 ti_3 rfl rfl rfl rfl rfl rfl rfl (fun w h => (h.at 6 rfl)) (fun b hb => .inr hb) (fun q hq b hb => .inr ⟨q, hq, hb⟩) rfl rfl rfl inferInstance (show (([]).length + words.l.length) * 8 ≤ 140737488355328 ∧ ([]).length + words.l.length ≤ 140737488355328 from (by first | omega | (simp only [lens9]; omega))) rfl rfl) (wanted_none rfl _) ?_; clear h13 h14
 rintro a16 w16 ⟨v16, h16⟩; clear h15
 refine wv h16 (r_fieldB (r := 1) fl_25_1 rfl rfl rfl) rfl rfl fun a17 h17 => wl_ex (x_stb (i := 1) (vs := [v16]) (cs' := [(.slice none 0 0), v16, .int .i64 locks, .int .i64 8]) h17 ti_23 rfl rfl rfl rfl rfl (cells_oneL ((h17.sh.own 0 rfl)).one) rfl (allOne_cons ((h17.sh.own 0 rfl)).one allOne_nil) (Nat.le_of_ble_eq_true rfl) rfl) (wanted_none rfl _) ?_; clear h16
 rintro a18 w18 h18
 clear h17
 refine wpList_nil <| hK12 _ _ <| wp_seq_k fun K19 hK19 => wp_seq_k fun K20 hK20 => wp_region_lit <| wms 1 h18 rfl fun a21 h21 => wpList_nil <| hK20 _ _ <| wp_block <| x_loop (fun m a w => ∃ (t1 : Nat) (wl : List Int) (vw : Value), (t1 ≤ code.l.length) ∧ (wl = words.l ++ List.replicate (tSp cols.l regs.toNat t1) 0) ∧ St 139 (fun _ => False) W a w [(1, cols.v), (2, .pointer (some ⟨b3, 0, none⟩)), (4, .pointer (some ⟨b4, 0, none⟩)), (5, .pointer (some ⟨b5, 0, none⟩)), (6, .pointer (some ⟨b10, 0, none⟩)), (7, .int .i64 ((t1 : Nat) : Int))] [.own 3 (⟨vw, wl⟩ : Ls Int), .blk b10 25 [(.slice none 0 0), vw, .int .i64 locks, .int .i64 8], .blk b5 28 [.int .i64 0, .int .i64 0, .int .i64 0], .blk b4 25 [(.slice none 0 0), (.slice none 0 0), .int .i64 0, .int .i64 0], .blk b3 25 [code.v, words.v, .int .i64 locks, .int .i64 regs], .at_ code, .at_ words, .at_ cols] ∧ m = code.l.length - t1) ⟨_, 0, words.l, v16, (by omega), (by simp [tSp]), h21.nrm ⟨rfl, rfl, rfl, rfl, rfl, rfl, trivial⟩ [0, 1, 2, 3, 4, 5, 6, 7] (by decide) ⟨rfl, rfl, rfl, rfl, rfl, rfl, rfl, rfl, trivial⟩, rfl⟩ ?_; clear h18
 clear h21
 rintro m22 a22 w22 ⟨t1, wl, vw, ht, hwl, h22, hm22⟩
 refine wp_seq_k fun K23 hK23 => wp_seq_k fun K24 hK24 => wp_region_lit <| wms 1 h22 rfl fun a25 h25 => wv h25 (r_fieldB (r := 0) fl_25_0 rfl rfl rfl) rfl rfl fun a26 h26 => wv h26 (r_ldb (i := 4) ti_22 rfl rfl rfl rfl) rfl rfl fun a27 h27 => ?_; clear h22 h25 h26
 have hl28 : code.l.length ≤ 140737488355328 := (h27.sh.at 5 rfl).len
 refine wv h27 (r_len (s := code) (n := code.l.length) sl_22 rfl rfl (fun w h => (h.at 5 rfl)) rfl) rfl rfl fun a29 h29 => wv h29 (r_lssN (p := t1) (q := code.l.length) rfl rfl rfl) rfl rfl fun a30 h30 => wpList_nil <| hK24 _ _ <| x_cond h30 rfl (fun hb31 => ?_) (fun hb31 => ?_); clear h27 h29
 ·have hp31 : t1 < code.l.length := of_decide_eq_true hb31
  refine wp_skip <| hK23 _ _ <| wp_seq_k fun K32 hK32 => wp_block <| wp_seq_k fun K33 hK33 => wp_region_lit <| wms 1 h30 rfl fun a34 h34 => wpList_nil <| hK33 _ _ <| wp_block ?_; clear h30
  have hcr1 := hcr t1 (by omega)
  have hts := tSp_le (cols := cols.l) (show regs.toNat ≤ 200 by omega) t1
  refine x_loop (fun m a w => ∃ (r1 : Nat) (wl2 : List Int) (vw2 : Value), (r1 ≤ regs.toNat) ∧ (wl2 = words.l ++ List.replicate (tSp cols.l regs.toNat t1 + nSp (nth cols.l t1).l r1) 0) ∧ St 139 (fun _ => False) W a w [(1, cols.v), (2, .pointer (some ⟨b3, 0, none⟩)), (4, .pointer (some ⟨b4, 0, none⟩)), (5, .pointer (some ⟨b5, 0, none⟩)), (6, .pointer (some ⟨b10, 0, none⟩)), (7, .int .i64 ((t1 : Nat) : Int)), (8, .int .i64 ((r1 : Nat) : Int))] [.own 3 (⟨vw2, wl2⟩ : Ls Int), .blk b10 25 [(.slice none 0 0), vw2, .int .i64 locks, .int .i64 8], .blk b5 28 [.int .i64 0, .int .i64 0, .int .i64 0], .blk b4 25 [(.slice none 0 0), (.slice none 0 0), .int .i64 0, .int .i64 0], .blk b3 25 [code.v, words.v, .int .i64 locks, .int .i64 regs], .at_ code, .at_ words, .at_ cols] ∧ m = regs.toNat - r1) ⟨_, 0, wl, vw, (by omega), (by rw [hwl]; rfl), h34.nrm ⟨rfl, rfl, rfl, rfl, rfl, rfl, rfl, trivial⟩ [0, 1, 2, 3, 4, 5, 6, 7] (by decide) ⟨rfl, rfl, rfl, rfl, rfl, rfl, rfl, rfl, trivial⟩, rfl⟩ ?_
  clear h34
  rintro m35 a35 w35 ⟨r1, wl2, vw2, hr, hwl2, h35, hm35⟩
  have hwn2 : wl2.length = words.l.length + (tSp cols.l regs.toNat t1 + nSp (nth cols.l t1).l r1) := by rw [hwl2, List.length_append, List.length_replicate]
  have hnl := nSp_le (nth cols.l t1).l r1
  refine wp_seq_k fun K36 hK36 => wp_seq_k fun K37 hK37 => wp_region_lit <| wms 1 h35 rfl fun a38 h38 => wv h38 (r_fieldB (r := 3) fl_25_3 rfl rfl rfl) rfl rfl fun a39 h39 => wv h39 (r_ldb (i := 4) ti_3 rfl rfl rfl rfl) rfl rfl fun a40 h40 => wv h40 (r_lssI (p := ((r1 : Nat) : Int)) (q := regs) rfl rfl rfl) rfl rfl fun a41 h41 => wpList_nil <| hK37 _ _ <| x_cond h41 rfl (fun hb42 => ?_) (fun hb42 => ?_); clear h35 h38 h39 h40
  ·have hp42 : ((r1 : Nat) : Int) < regs := of_decide_eq_true hb42
   refine wp_skip <| hK36 _ _ <| wp_seq_k fun K43 hK43 => wp_block <| wp_seq_k fun K44 hK44 => wp_region_lit <| wms 2 h41 rfl fun a45 h45 => ?_; clear h41
   have hl46 : cols.l.length ≤ 140737488355328 := (h45.sh.at 7 rfl).len
   refine wv h45 (r_ixN (s := cols) (q := t1) sl_35 ti_23 rfl rfl rfl (fun w h => (h.at 7 rfl)) (show t1 < cols.l.length from (by omega))) rfl rfl fun a47 h47 => wv h47 (r_lde (s := cols) (i := t1) (v := (nth cols.l t1).v) ti_23 rfl rfl rfl (fun w h => (h.at 7 rfl)) (show t1 < cols.l.length from (by omega)) (Nat.le_of_ble_eq_true rfl) rfl) rfl rfl fun a48 h48 => wms 1 h48 rfl fun a49 h49 => ?_; clear h45 h47 h48
   have hl50 : ((nth cols.l t1).l).length ≤ 140737488355328 := ((h49.sh.at 7 rfl).nth t1 (show t1 < cols.l.length from (by omega))).len
   refine wv h49 (r_ixN (s := nth cols.l t1) (q := r1) sl_23 ti_3 rfl rfl rfl (fun w h => ((h.at 7 rfl).nth t1 (show t1 < cols.l.length from (by omega)))) (show r1 < ((nth cols.l t1).l).length from (by omega))) rfl rfl fun a51 h51 => wv h51 (r_lde (s := nth cols.l t1) (i := r1) (v := .int .i64 (nth ((nth cols.l t1).l) r1)) ti_3 rfl rfl rfl (fun w h => ((h.at 7 rfl).nth t1 (show t1 < cols.l.length from (by omega)))) (show r1 < ((nth cols.l t1).l).length from (by omega)) (Nat.le_of_ble_eq_true rfl) rfl) rfl rfl fun a52 h52 => wv h52 (r_lssI (p := nth ((nth cols.l t1).l) r1) (q := 0) rfl rfl rfl) rfl rfl fun a53 h53 => wpList_nil <| hK44 _ _ <| x_cond h53 rfl (fun hb54 => ?_) (fun hb54 => ?_); clear h49 h51 h52
   ·have hp54 : nth ((nth cols.l t1).l) r1 < 0 := of_decide_eq_true hb54
    refine wp_region_lit <| wv h53 (r_fieldB (r := 1) fl_25_1 rfl rfl rfl) rfl rfl fun a55 h55 => wv h55 (r_ldb (i := 1) ti_23 rfl rfl rfl rfl) rfl rfl fun a56 h56 => wl_ex (x_lit (n := 1) (cs := [.int .i64 0]) ([0] : List Int) h56 sl_23 ti_3 rfl rfl rfl (by decide) rfl (by kernel_rfl) rfl (fun q hq w h => Flat.inner _ _) (fun q hq b hb => (Flat.on _ _ hb).elim) rfl rfl) (wanted_none rfl _) ?_; clear h53 h55
    rintro a57 w57 ⟨v57, h57⟩; clear h56
    refine wl_ex (x_app (r := 1) (rm := 0) (s := (⟨vw2, wl2⟩ : Ls Int)) (m := (⟨v57, [0]⟩ : Ls Int)) h57 sl_23 ti_3 rfl rfl rfl rfl rfl rfl rfl (fun w h => (h.own 0 rfl)) (fun b hb => own_on (h57.sh.ok _ (List.mem_of_getElem? (i := 0) rfl)) hb) (fun q hq b hb => ⟨q, hq, hb⟩) rfl rfl rfl inferInstance (show (wl2.length + ([0]).length) * 8 ≤ 140737488355328 ∧ wl2.length + ([0]).length ≤ 140737488355328 from (by first | omega | (simp only [lens9]; omega))) rfl rfl) (wanted_none rfl _) ?_
    rintro a58 w58 ⟨v58, h58⟩; clear h57
    refine wv h58 (r_fieldB (r := 1) fl_25_1 rfl rfl rfl) rfl rfl fun a59 h59 => wl_ex (x_stb (i := 2) (vs := [v58]) (cs' := [(.slice none 0 0), v58, .int .i64 locks, .int .i64 8]) h59 ti_23 rfl rfl rfl rfl rfl (cells_oneL ((h59.sh.own 1 rfl)).one) rfl (allOne_cons ((h59.sh.own 1 rfl)).one allOne_nil) (Nat.le_of_ble_eq_true rfl) rfl) (wanted_none rfl _) ?_; clear h58
    rintro a60 w60 h60
    clear h59
    refine wpList_nil <| hK43 _ _ <| wp_region_lit <| wms 1 h60 rfl fun a61 h61 => wv h61 (r_addN (p := r1) (q := 1) rfl rfl rfl (show r1 + 1 < 9223372036854775808 from (by omega))) rfl rfl fun a62 h62 => wms 1 h62 rfl fun a63 h63 => wpList_nil <| x_again ⟨_, ?_, r1 + 1, wl2 ++ ([0]), v58, ?_, ?_, h63.nrm ⟨rfl, rfl, rfl, rfl, rfl, rfl, rfl, trivial⟩ [1, 2, 3, 4, 5, 6, 7, 8] (by decide) ⟨rfl, rfl, rfl, rfl, rfl, rfl, rfl, rfl, trivial⟩, rfl⟩; clear h60 h61 h62
    · rw [hm35]; first | omega | (simp only [lens9]; omega)
    · omega
    · first | exact wl_yes hwl2 (by assumption) | exact wl_no hwl2 (by assumption)
   have hp54 : ¬ (nth ((nth cols.l t1).l) r1 < 0) := of_decide_eq_false hb54
   refine wp_skip <| hK43 _ _ <| wp_region_lit <| wms 1 h53 rfl fun a64 h64 => wv h64 (r_addN (p := r1) (q := 1) rfl rfl rfl (show r1 + 1 < 9223372036854775808 from (by omega))) rfl rfl fun a65 h65 => wms 1 h65 rfl fun a66 h66 => wpList_nil <| x_again ⟨_, ?_, r1 + 1, wl2, vw2, ?_, ?_, h66.nrm ⟨rfl, rfl, rfl, rfl, rfl, rfl, rfl, trivial⟩ [0, 1, 2, 3, 4, 5, 6, 7] (by decide) ⟨rfl, rfl, rfl, rfl, rfl, rfl, rfl, rfl, trivial⟩, rfl⟩; clear h53 h64 h65
   · rw [hm35]; first | omega | (simp only [lens9]; omega)
   · omega
   · first | exact wl_yes hwl2 (by assumption) | exact wl_no hwl2 (by assumption)
  have hp42 : ¬ (((r1 : Nat) : Int) < regs) := of_decide_eq_false hb42
  refine wp_exit <| hK32 _ _ <| wp_region_lit <| wms 1 h41 rfl fun a67 h67 => wv h67 (r_addN (p := t1) (q := 1) rfl rfl rfl (show t1 + 1 < 9223372036854775808 from (by omega))) rfl rfl fun a68 h68 => wms 1 h68 rfl fun a69 h69 => wpList_nil <| x_again ⟨_, ?_, t1 + 1, wl2, vw2, ?_, ?_, h69.nrm ⟨rfl, rfl, rfl, rfl, rfl, rfl, trivial⟩ [0, 1, 2, 3, 4, 5, 6, 7] (by decide) ⟨rfl, rfl, rfl, rfl, rfl, rfl, rfl, rfl, trivial⟩, rfl⟩; clear h41 h67 h68
  · rw [hm22]; first | omega | (simp only [lens9]; omega)
  · omega
  · rw [hwl2, show r1 = regs.toNat by omega]; rfl
 have hp31 : ¬ (t1 < code.l.length) := of_decide_eq_false hb31
 refine wp_exit <| hK19 _ _ ?_
 have hwn1 : wl.length = words.l.length + tSp cols.l regs.toNat t1 := by rw [hwl, List.length_append, List.length_replicate]
 rw [show t1 = code.l.length by omega] at hwn1
 refine wp_seq_k fun K70 hK70 => wp_seq_k fun K71 hK71 => wp_region_lit <| wv h30 (r_fieldB (r := 1) fl_25_1 rfl rfl rfl) rfl rfl fun a72 h72 => wv h72 (r_ldb (i := 1) ti_23 rfl rfl rfl rfl) rfl rfl fun a73 h73 => ?_; clear h30 h72
 have hl74 : wl.length ≤ 140737488355328 := (h73.sh.own 0 rfl).len
 refine wv h73 (r_len (s := (⟨vw, wl⟩ : Ls Int)) (n := wl.length) sl_23 rfl rfl (fun w h => (h.own 0 rfl)) rfl) rfl rfl fun a75 h75 => wv h75 (r_gtrN (p := wl.length) (q := 64) rfl rfl rfl) rfl rfl fun a76 h76 => wpList_nil <| hK71 _ _ <| x_cond h76 rfl (fun hb77 => ?_) (fun hb77 => ?_); clear h73 h75
 ·have hp77 : 64 < wl.length := of_decide_eq_true hb77
  refine wp_seq_k fun K78 hK78 => wp_region_lit <| wv h76 (r_build (cs := [(.slice none 0 0), (.slice none 0 0), .int .i64 0, .int .i64 0]) rfl rfl (by kernel_rfl)) rfl rfl fun a79 h79 => wv h79 (r_build (cs := [.int .i64 1, .int .i64 0, .int .i64 0]) rfl rfl (by kernel_rfl)) rfl rfl fun a80 h80 => wl_ex (x_stb (i := 3) (vs := [(.slice none 0 0), (.slice none 0 0), .int .i64 0, .int .i64 0]) (cs' := [(.slice none 0 0), (.slice none 0 0), .int .i64 0, .int .i64 0]) h80 ti_25 rfl rfl rfl rfl rfl rfl rfl (allOne_cons rfl (allOne_cons rfl (allOne_cons rfl (allOne_cons rfl allOne_nil)))) (Nat.le_of_ble_eq_true rfl) rfl) (wanted_none rfl _) ?_; clear h76 h79
  rintro a81 w81 h81
  clear h80
  refine wl_ex (x_stb (i := 2) (vs := [.int .i64 1, .int .i64 0, .int .i64 0]) (cs' := [.int .i64 1, .int .i64 0, .int .i64 0]) h81 ti_28 rfl rfl rfl rfl rfl rfl rfl (allOne_cons rfl (allOne_cons rfl (allOne_cons rfl allOne_nil))) (Nat.le_of_ble_eq_true rfl) rfl) (wanted_none rfl _) ?_
  rintro a82 w82 h82
  clear h81
  refine wpList_nil <| hK78 _ _ <| wp_ret ?_
  try simp only [Exit.then, Exit.inBlock]
  refine x_ret2c (fn := Try.f23) (t := 4) (t2 := 5) (i := 3) (i2 := 2) ti_25 ti_28 rfl h82 rfl rfl rfl rfl rfl rfl ?_
  exact ⟨rfl, (h82.sh.sel [] (by decide) trivial)⟩
 have hp77 : ¬ (64 < wl.length) := of_decide_eq_false hb77
 exfalso
 omega

set_option maxRecDepth 100000 in
set_option maxHeartbeats 8000000 in
theorem rApply_l (code : Ls (Ls Ins)) (words : Ls Int) (locks regs : Int) (cols : Ls (Ls Int)) (kk : Nat) (W : World) (hcode : code.At W) (hwords : words.At W) (hcols : cols.At W) (hok : OkPg (pgOf code words locks regs)) (hcc : cols.l.length = code.l.length) (hcr : ∀ t, t < code.l.length → (nth cols.l t).l.length = regs.toNat) (htot : words.l.length + tSp cols.l regs.toNat code.l.length ≤ 64) (hk9 : kk < code.l.length) (h400 : 400 < (apT (nth code.l kk).l (nth cols.l kk).l (words.l.length + tSp cols.l regs.toNat kk) regs.toNat).length) (hbef : ∀ j, j < kk → (apT (nth code.l j).l (nth cols.l j).l (words.l.length + tSp cols.l regs.toNat j) regs.toNat).length ≤ 400) :
    Rets Try.prog 23 [.agg #[code.v, words.v, .int .i64 locks, .int .i64 regs], cols.v] W (fun v w' => v = .tuple #[.agg #[.slice none 0 0, .slice none 0 0, .int .i64 0, .int .i64 0], (⟨1, kk, 0⟩ : Flt).val] ∧ Sh0 W w' []) := by
 have hz := checkG_ok hok
 obtain ⟨hl1, hl2, hl3, hl4', hl5, hl6, hl7⟩ := ok_len hok
 have hrg := hok.regs
 have hrg1 : (pgOf code words locks regs).regs = regs := rfl
 rw [hrg1] at hrg
 refine x_enter (N := 139) Try.func23 rfl Try.ntmps23 (Nat.le_of_ble_eq_true rfl) fun a1 hf1 => ?_
 have h1 : St 139 (fun _ => False) W a1 W [(0, .agg #[code.v, words.v, .int .i64 locks, .int .i64 regs]), (1, cols.v)] [.at_ code, .at_ words, .at_ cols] := ⟨hf1.sub ⟨rfl, rfl, trivial⟩, Sh0.ext3 hcode hwords hcols⟩
 clear hf1
 refine wp_seq_k fun K2 hK2 => wp_region_lit <| wl_ex (x_box (cs := [code.v, words.v, .int .i64 locks, .int .i64 regs]) h1 rfl rfl rfl rfl rfl) (wanted_none rfl _) ?_
 rintro a3 w3 ⟨b3, h3⟩; clear h1
 refine wl_ex (x_alloc h3 ti_25 rfl rfl rfl) (wanted_none rfl _) ?_
 rintro a4 w4 ⟨b4, h4⟩; clear h3
 refine wl_ex (x_alloc h4 ti_28 rfl rfl rfl) (wanted_none rfl _) ?_
 rintro a5 w5 ⟨b5, h5⟩; clear h4
 refine wpList_nil <| hK2 _ _ <| wp_seq_k fun K6 hK6 => wp_region_lit <| wv h5 (r_fieldB (r := 2) fl_25_2 rfl rfl rfl) rfl rfl fun a7 h7 => wv h7 (r_ldb (i := 2) ti_3 rfl rfl rfl rfl) rfl rfl fun a8 h8 => wv h8 (r_build (cs := [(.slice none 0 0), (.slice none 0 0), .int .i64 locks, .int .i64 8]) rfl rfl (by kernel_rfl)) rfl rfl fun a9 h9 => wl_ex (x_alloc h9 ti_25 rfl rfl rfl) (wanted_none rfl _) ?_; clear h5 h7 h8
 rintro a10 w10 ⟨b10, h10⟩; clear h9
 refine wl_ex (x_stb (i := 0) (vs := [(.slice none 0 0), (.slice none 0 0), .int .i64 locks, .int .i64 8]) (cs' := [(.slice none 0 0), (.slice none 0 0), .int .i64 locks, .int .i64 8]) h10 ti_25 rfl rfl rfl rfl rfl rfl rfl (allOne_cons rfl (allOne_cons rfl (allOne_cons rfl (allOne_cons rfl allOne_nil)))) (Nat.le_of_ble_eq_true rfl) rfl) (wanted_none rfl _) ?_
 rintro a11 w11 h11
 clear h10
 refine wpList_nil <| hK6 _ _ <| wp_seq_k fun K12 hK12 => wp_region_lit <| wl_ex (x_lit0 (α := Int) h11 sl_23 ti_3 rfl rfl rfl) (wanted_none rfl _) ?_
 rintro a13 w13 ⟨v13, h13⟩; clear h11
 refine wv h13 (r_fieldB (r := 1) fl_25_1 rfl rfl rfl) rfl rfl fun a14 h14 => wv h14 (r_ldb (i := 4) ti_23 rfl rfl rfl rfl) rfl rfl fun a15 h15 => wl_ex (x_app (r := 0) (rm := 6) (s := (⟨v13, []⟩ : Ls Int)) (m := words) h15 sl_23 ti_3 rfl rfl rfl rfl rfl rfl rfl (fun w h => (h.at 6 rfl)) (fun b hb => .inr hb) (fun q hq b hb => .inr ⟨q, hq, hb⟩) rfl rfl rfl inferInstance (show (([]).length + words.l.length) * 8 ≤ 140737488355328 ∧ ([]).length + words.l.length ≤ 140737488355328 from (by first | omega | (simp only [lens9]; omega))) rfl rfl) (wanted_none rfl _) ?_; clear h13 h14
 rintro a16 w16 ⟨v16, h16⟩; clear h15
 refine wv h16 (r_fieldB (r := 1) fl_25_1 rfl rfl rfl) rfl rfl fun a17 h17 => wl_ex (x_stb (i := 1) (vs := [v16]) (cs' := [(.slice none 0 0), v16, .int .i64 locks, .int .i64 8]) h17 ti_23 rfl rfl rfl rfl rfl (cells_oneL ((h17.sh.own 0 rfl)).one) rfl (allOne_cons ((h17.sh.own 0 rfl)).one allOne_nil) (Nat.le_of_ble_eq_true rfl) rfl) (wanted_none rfl _) ?_; clear h16
 rintro a18 w18 h18
 clear h17
 refine wpList_nil <| hK12 _ _ <| wp_seq_k fun K19 hK19 => wp_seq_k fun K20 hK20 => wp_region_lit <| wms 1 h18 rfl fun a21 h21 => wpList_nil <| hK20 _ _ <| wp_block <| x_loop (fun m a w => ∃ (t1 : Nat) (wl : List Int) (vw : Value), (t1 ≤ code.l.length) ∧ (wl = words.l ++ List.replicate (tSp cols.l regs.toNat t1) 0) ∧ St 139 (fun _ => False) W a w [(1, cols.v), (2, .pointer (some ⟨b3, 0, none⟩)), (4, .pointer (some ⟨b4, 0, none⟩)), (5, .pointer (some ⟨b5, 0, none⟩)), (6, .pointer (some ⟨b10, 0, none⟩)), (7, .int .i64 ((t1 : Nat) : Int))] [.own 3 (⟨vw, wl⟩ : Ls Int), .blk b10 25 [(.slice none 0 0), vw, .int .i64 locks, .int .i64 8], .blk b5 28 [.int .i64 0, .int .i64 0, .int .i64 0], .blk b4 25 [(.slice none 0 0), (.slice none 0 0), .int .i64 0, .int .i64 0], .blk b3 25 [code.v, words.v, .int .i64 locks, .int .i64 regs], .at_ code, .at_ words, .at_ cols] ∧ m = code.l.length - t1) ⟨_, 0, words.l, v16, (by omega), (by simp [tSp]), h21.nrm ⟨rfl, rfl, rfl, rfl, rfl, rfl, trivial⟩ [0, 1, 2, 3, 4, 5, 6, 7] (by decide) ⟨rfl, rfl, rfl, rfl, rfl, rfl, rfl, rfl, trivial⟩, rfl⟩ ?_; clear h18
 clear h21
 rintro m22 a22 w22 ⟨t1, wl, vw, ht, hwl, h22, hm22⟩
 refine wp_seq_k fun K23 hK23 => wp_seq_k fun K24 hK24 => wp_region_lit <| wms 1 h22 rfl fun a25 h25 => wv h25 (r_fieldB (r := 0) fl_25_0 rfl rfl rfl) rfl rfl fun a26 h26 => wv h26 (r_ldb (i := 4) ti_22 rfl rfl rfl rfl) rfl rfl fun a27 h27 => ?_; clear h22 h25 h26
 have hl28 : code.l.length ≤ 140737488355328 := (h27.sh.at 5 rfl).len
 refine wv h27 (r_len (s := code) (n := code.l.length) sl_22 rfl rfl (fun w h => (h.at 5 rfl)) rfl) rfl rfl fun a29 h29 => wv h29 (r_lssN (p := t1) (q := code.l.length) rfl rfl rfl) rfl rfl fun a30 h30 => wpList_nil <| hK24 _ _ <| x_cond h30 rfl (fun hb31 => ?_) (fun hb31 => ?_); clear h27 h29
 ·have hp31 : t1 < code.l.length := of_decide_eq_true hb31
  refine wp_skip <| hK23 _ _ <| wp_seq_k fun K32 hK32 => wp_block <| wp_seq_k fun K33 hK33 => wp_region_lit <| wms 1 h30 rfl fun a34 h34 => wpList_nil <| hK33 _ _ <| wp_block ?_; clear h30
  have hcr1 := hcr t1 (by omega)
  have hts := tSp_le (cols := cols.l) (show regs.toNat ≤ 200 by omega) t1
  refine x_loop (fun m a w => ∃ (r1 : Nat) (wl2 : List Int) (vw2 : Value), (r1 ≤ regs.toNat) ∧ (wl2 = words.l ++ List.replicate (tSp cols.l regs.toNat t1 + nSp (nth cols.l t1).l r1) 0) ∧ St 139 (fun _ => False) W a w [(1, cols.v), (2, .pointer (some ⟨b3, 0, none⟩)), (4, .pointer (some ⟨b4, 0, none⟩)), (5, .pointer (some ⟨b5, 0, none⟩)), (6, .pointer (some ⟨b10, 0, none⟩)), (7, .int .i64 ((t1 : Nat) : Int)), (8, .int .i64 ((r1 : Nat) : Int))] [.own 3 (⟨vw2, wl2⟩ : Ls Int), .blk b10 25 [(.slice none 0 0), vw2, .int .i64 locks, .int .i64 8], .blk b5 28 [.int .i64 0, .int .i64 0, .int .i64 0], .blk b4 25 [(.slice none 0 0), (.slice none 0 0), .int .i64 0, .int .i64 0], .blk b3 25 [code.v, words.v, .int .i64 locks, .int .i64 regs], .at_ code, .at_ words, .at_ cols] ∧ m = regs.toNat - r1) ⟨_, 0, wl, vw, (by omega), (by rw [hwl]; rfl), h34.nrm ⟨rfl, rfl, rfl, rfl, rfl, rfl, rfl, trivial⟩ [0, 1, 2, 3, 4, 5, 6, 7] (by decide) ⟨rfl, rfl, rfl, rfl, rfl, rfl, rfl, rfl, trivial⟩, rfl⟩ ?_
  clear h34
  rintro m35 a35 w35 ⟨r1, wl2, vw2, hr, hwl2, h35, hm35⟩
  have hwn2 : wl2.length = words.l.length + (tSp cols.l regs.toNat t1 + nSp (nth cols.l t1).l r1) := by rw [hwl2, List.length_append, List.length_replicate]
  have hnl := nSp_le (nth cols.l t1).l r1
  refine wp_seq_k fun K36 hK36 => wp_seq_k fun K37 hK37 => wp_region_lit <| wms 1 h35 rfl fun a38 h38 => wv h38 (r_fieldB (r := 3) fl_25_3 rfl rfl rfl) rfl rfl fun a39 h39 => wv h39 (r_ldb (i := 4) ti_3 rfl rfl rfl rfl) rfl rfl fun a40 h40 => wv h40 (r_lssI (p := ((r1 : Nat) : Int)) (q := regs) rfl rfl rfl) rfl rfl fun a41 h41 => wpList_nil <| hK37 _ _ <| x_cond h41 rfl (fun hb42 => ?_) (fun hb42 => ?_); clear h35 h38 h39 h40
  ·have hp42 : ((r1 : Nat) : Int) < regs := of_decide_eq_true hb42
   refine wp_skip <| hK36 _ _ <| wp_seq_k fun K43 hK43 => wp_block <| wp_seq_k fun K44 hK44 => wp_region_lit <| wms 2 h41 rfl fun a45 h45 => ?_; clear h41
   have hl46 : cols.l.length ≤ 140737488355328 := (h45.sh.at 7 rfl).len
   refine wv h45 (r_ixN (s := cols) (q := t1) sl_35 ti_23 rfl rfl rfl (fun w h => (h.at 7 rfl)) (show t1 < cols.l.length from (by omega))) rfl rfl fun a47 h47 => wv h47 (r_lde (s := cols) (i := t1) (v := (nth cols.l t1).v) ti_23 rfl rfl rfl (fun w h => (h.at 7 rfl)) (show t1 < cols.l.length from (by omega)) (Nat.le_of_ble_eq_true rfl) rfl) rfl rfl fun a48 h48 => wms 1 h48 rfl fun a49 h49 => ?_; clear h45 h47 h48
   have hl50 : ((nth cols.l t1).l).length ≤ 140737488355328 := ((h49.sh.at 7 rfl).nth t1 (show t1 < cols.l.length from (by omega))).len
   refine wv h49 (r_ixN (s := nth cols.l t1) (q := r1) sl_23 ti_3 rfl rfl rfl (fun w h => ((h.at 7 rfl).nth t1 (show t1 < cols.l.length from (by omega)))) (show r1 < ((nth cols.l t1).l).length from (by omega))) rfl rfl fun a51 h51 => wv h51 (r_lde (s := nth cols.l t1) (i := r1) (v := .int .i64 (nth ((nth cols.l t1).l) r1)) ti_3 rfl rfl rfl (fun w h => ((h.at 7 rfl).nth t1 (show t1 < cols.l.length from (by omega)))) (show r1 < ((nth cols.l t1).l).length from (by omega)) (Nat.le_of_ble_eq_true rfl) rfl) rfl rfl fun a52 h52 => wv h52 (r_lssI (p := nth ((nth cols.l t1).l) r1) (q := 0) rfl rfl rfl) rfl rfl fun a53 h53 => wpList_nil <| hK44 _ _ <| x_cond h53 rfl (fun hb54 => ?_) (fun hb54 => ?_); clear h49 h51 h52
   ·have hp54 : nth ((nth cols.l t1).l) r1 < 0 := of_decide_eq_true hb54
    refine wp_region_lit <| wv h53 (r_fieldB (r := 1) fl_25_1 rfl rfl rfl) rfl rfl fun a55 h55 => wv h55 (r_ldb (i := 1) ti_23 rfl rfl rfl rfl) rfl rfl fun a56 h56 => wl_ex (x_lit (n := 1) (cs := [.int .i64 0]) ([0] : List Int) h56 sl_23 ti_3 rfl rfl rfl (by decide) rfl (by kernel_rfl) rfl (fun q hq w h => Flat.inner _ _) (fun q hq b hb => (Flat.on _ _ hb).elim) rfl rfl) (wanted_none rfl _) ?_; clear h53 h55
    rintro a57 w57 ⟨v57, h57⟩; clear h56
    refine wl_ex (x_app (r := 1) (rm := 0) (s := (⟨vw2, wl2⟩ : Ls Int)) (m := (⟨v57, [0]⟩ : Ls Int)) h57 sl_23 ti_3 rfl rfl rfl rfl rfl rfl rfl (fun w h => (h.own 0 rfl)) (fun b hb => own_on (h57.sh.ok _ (List.mem_of_getElem? (i := 0) rfl)) hb) (fun q hq b hb => ⟨q, hq, hb⟩) rfl rfl rfl inferInstance (show (wl2.length + ([0]).length) * 8 ≤ 140737488355328 ∧ wl2.length + ([0]).length ≤ 140737488355328 from (by first | omega | (simp only [lens9]; omega))) rfl rfl) (wanted_none rfl _) ?_
    rintro a58 w58 ⟨v58, h58⟩; clear h57
    refine wv h58 (r_fieldB (r := 1) fl_25_1 rfl rfl rfl) rfl rfl fun a59 h59 => wl_ex (x_stb (i := 2) (vs := [v58]) (cs' := [(.slice none 0 0), v58, .int .i64 locks, .int .i64 8]) h59 ti_23 rfl rfl rfl rfl rfl (cells_oneL ((h59.sh.own 1 rfl)).one) rfl (allOne_cons ((h59.sh.own 1 rfl)).one allOne_nil) (Nat.le_of_ble_eq_true rfl) rfl) (wanted_none rfl _) ?_; clear h58
    rintro a60 w60 h60
    clear h59
    refine wpList_nil <| hK43 _ _ <| wp_region_lit <| wms 1 h60 rfl fun a61 h61 => wv h61 (r_addN (p := r1) (q := 1) rfl rfl rfl (show r1 + 1 < 9223372036854775808 from (by omega))) rfl rfl fun a62 h62 => wms 1 h62 rfl fun a63 h63 => wpList_nil <| x_again ⟨_, ?_, r1 + 1, wl2 ++ ([0]), v58, ?_, ?_, h63.nrm ⟨rfl, rfl, rfl, rfl, rfl, rfl, rfl, trivial⟩ [1, 2, 3, 4, 5, 6, 7, 8] (by decide) ⟨rfl, rfl, rfl, rfl, rfl, rfl, rfl, rfl, trivial⟩, rfl⟩; clear h60 h61 h62
    · rw [hm35]; first | omega | (simp only [lens9]; omega)
    · omega
    · first | exact wl_yes hwl2 (by assumption) | exact wl_no hwl2 (by assumption)
   have hp54 : ¬ (nth ((nth cols.l t1).l) r1 < 0) := of_decide_eq_false hb54
   refine wp_skip <| hK43 _ _ <| wp_region_lit <| wms 1 h53 rfl fun a64 h64 => wv h64 (r_addN (p := r1) (q := 1) rfl rfl rfl (show r1 + 1 < 9223372036854775808 from (by omega))) rfl rfl fun a65 h65 => wms 1 h65 rfl fun a66 h66 => wpList_nil <| x_again ⟨_, ?_, r1 + 1, wl2, vw2, ?_, ?_, h66.nrm ⟨rfl, rfl, rfl, rfl, rfl, rfl, rfl, trivial⟩ [0, 1, 2, 3, 4, 5, 6, 7] (by decide) ⟨rfl, rfl, rfl, rfl, rfl, rfl, rfl, rfl, trivial⟩, rfl⟩; clear h53 h64 h65
   · rw [hm35]; first | omega | (simp only [lens9]; omega)
   · omega
   · first | exact wl_yes hwl2 (by assumption) | exact wl_no hwl2 (by assumption)
  have hp42 : ¬ (((r1 : Nat) : Int) < regs) := of_decide_eq_false hb42
  refine wp_exit <| hK32 _ _ <| wp_region_lit <| wms 1 h41 rfl fun a67 h67 => wv h67 (r_addN (p := t1) (q := 1) rfl rfl rfl (show t1 + 1 < 9223372036854775808 from (by omega))) rfl rfl fun a68 h68 => wms 1 h68 rfl fun a69 h69 => wpList_nil <| x_again ⟨_, ?_, t1 + 1, wl2, vw2, ?_, ?_, h69.nrm ⟨rfl, rfl, rfl, rfl, rfl, rfl, trivial⟩ [0, 1, 2, 3, 4, 5, 6, 7] (by decide) ⟨rfl, rfl, rfl, rfl, rfl, rfl, rfl, rfl, trivial⟩, rfl⟩; clear h41 h67 h68
  · rw [hm22]; first | omega | (simp only [lens9]; omega)
  · omega
  · rw [hwl2, show r1 = regs.toNat by omega]; rfl
 have hp31 : ¬ (t1 < code.l.length) := of_decide_eq_false hb31
 refine wp_exit <| hK19 _ _ ?_
 have hwn1 : wl.length = words.l.length + tSp cols.l regs.toNat t1 := by rw [hwl, List.length_append, List.length_replicate]
 rw [show t1 = code.l.length by omega] at hwn1
 refine wp_seq_k fun K70 hK70 => wp_seq_k fun K71 hK71 => wp_region_lit <| wv h30 (r_fieldB (r := 1) fl_25_1 rfl rfl rfl) rfl rfl fun a72 h72 => wv h72 (r_ldb (i := 1) ti_23 rfl rfl rfl rfl) rfl rfl fun a73 h73 => ?_; clear h30 h72
 have hl74 : wl.length ≤ 140737488355328 := (h73.sh.own 0 rfl).len
 refine wv h73 (r_len (s := (⟨vw, wl⟩ : Ls Int)) (n := wl.length) sl_23 rfl rfl (fun w h => (h.own 0 rfl)) rfl) rfl rfl fun a75 h75 => wv h75 (r_gtrN (p := wl.length) (q := 64) rfl rfl rfl) rfl rfl fun a76 h76 => wpList_nil <| hK71 _ _ <| x_cond h76 rfl (fun hb77 => ?_) (fun hb77 => ?_); clear h73 h75
 ·have hp77 : 64 < wl.length := of_decide_eq_true hb77
  exfalso
  omega
 have hp77 : ¬ (64 < wl.length) := of_decide_eq_false hb77
 refine wp_skip <| hK70 _ _ <| wp_seq_k fun K78 hK78 => wp_region_lit <| wv h76 (r_fieldB (r := 1) fl_25_1 rfl rfl rfl) rfl rfl fun a79 h79 => wv h79 (r_ldb (i := 4) ti_23 rfl rfl rfl rfl) rfl rfl fun a80 h80 => ?_; clear h76 h79
 have hl81 : words.l.length ≤ 140737488355328 := (h80.sh.at 6 rfl).len
 refine wv h80 (r_len (s := words) (n := words.l.length) sl_23 rfl rfl (fun w h => (h.at 6 rfl)) rfl) rfl rfl fun a82 h82 => wms 1 h82 rfl fun a83 h83 => wpList_nil <| hK78 _ _ <| wp_seq_k fun K84 hK84 => wp_seq_k fun K85 hK85 => wp_region_lit <| wms 1 h83 rfl fun a86 h86 => wpList_nil <| hK85 _ _ <| wp_block ?_; clear h80 h82 h83
 have h88 := h86.nilDeep (α := Ls Ins) 33
 clear h86
 refine x_loop (fun m a w => ∃ (t : Nat) (wn : Nat) (qs : List (Ls Ins)) (vq : Value), (t ≤ kk) ∧ (wn = (words.l.length + tSp cols.l regs.toNat t)) ∧ (qs.map (·.l) = (List.range t).map (fun t => apT (nth code.l t).l (nth cols.l t).l (words.l.length + tSp cols.l regs.toNat t) regs.toNat)) ∧ (qs.length = t) ∧ St 139 (fun _ => False) W a w [(1, cols.v), (2, .pointer (some ⟨b3, 0, none⟩)), (4, .pointer (some ⟨b4, 0, none⟩)), (5, .pointer (some ⟨b5, 0, none⟩)), (6, .pointer (some ⟨b10, 0, none⟩)), (9, .int .i64 ((wn : Nat) : Int)), (10, .int .i64 ((t : Nat) : Int))] [.own 3 (⟨vw, wl⟩ : Ls Int), .blk b10 25 [vq, vw, .int .i64 locks, .int .i64 8], .blk b5 28 [.int .i64 0, .int .i64 0, .int .i64 0], .blk b4 25 [(.slice none 0 0), (.slice none 0 0), .int .i64 0, .int .i64 0], .blk b3 25 [code.v, words.v, .int .i64 locks, .int .i64 regs], .at_ code, .at_ words, .at_ cols, .deep 33 (⟨vq, qs⟩ : Ls (Ls Ins))] ∧ m = code.l.length - t) ⟨_, 0, words.l.length, [], (.slice none 0 0), (by omega), (rfl), (rfl), (rfl), h88.nrm ⟨rfl, rfl, rfl, rfl, rfl, rfl, rfl, trivial⟩ [1, 2, 3, 4, 5, 6, 7, 8, 0] (by decide) ⟨rfl, rfl, rfl, rfl, rfl, rfl, rfl, rfl, rfl, trivial⟩, rfl⟩ ?_
 clear h88
 rintro m87 a87 w87 ⟨t, wn, qs, vq, ht3, hwn, hqs, hql, h87, hm87⟩
 refine wp_seq_k fun K89 hK89 => wp_seq_k fun K90 hK90 => wp_region_lit <| wms 1 h87 rfl fun a91 h91 => wv h91 (r_fieldB (r := 0) fl_25_0 rfl rfl rfl) rfl rfl fun a92 h92 => wv h92 (r_ldb (i := 4) ti_22 rfl rfl rfl rfl) rfl rfl fun a93 h93 => wv h93 (r_len (s := code) (n := code.l.length) sl_22 rfl rfl (fun w h => (h.at 5 rfl)) rfl) rfl rfl fun a94 h94 => wv h94 (r_lssN (p := t) (q := code.l.length) rfl rfl rfl) rfl rfl fun a95 h95 => wpList_nil <| hK90 _ _ <| x_cond h95 rfl (fun hb96 => ?_) (fun hb96 => ?_); clear h87 h91 h92 h93 h94
 ·have hp96 : t < code.l.length := of_decide_eq_true hb96
  refine wp_skip <| hK89 _ _ <| wp_seq_k fun K97 hK97 => wp_block <| wp_seq_k fun K98 hK98 => wp_region_lit <| wv h95 (r_fieldB (r := 3) fl_25_3 rfl rfl rfl) rfl rfl fun a99 h99 => wv h99 (r_ldb (i := 4) ti_3 rfl rfl rfl rfl) rfl rfl fun a100 h100 => wl_ex (x_make (n := regs.toNat) (0 : Int) h100 sl_23 ti_3 rfl (ev_nat (show 0 ≤ regs from (by omega)) rfl) (ev_nat (show 0 ≤ regs from (by omega)) rfl) rfl rfl (show 8 * regs.toNat ≤ 140737488355328 ∧ regs.toNat ≤ 140737488355328 from (by omega)) (fun w => Flat.inner _ _) (fun b => Flat.on _ _) rfl rfl) (wanted_none rfl _) ?_; clear h95 h99
  rintro a101 w101 ⟨v101, h101⟩; clear h100
  refine wms 1 h101 rfl fun a102 h102 => wpList_nil <| hK98 _ _ <| wp_seq_k fun K103 hK103 => wp_seq_k fun K104 hK104 => wp_region_lit <| wms 1 h102 rfl fun a105 h105 => wpList_nil <| hK104 _ _ <| wp_block ?_; clear h101 h102
  have hcr1 := hcr t (by omega)
  have hts := tSp_le (cols := cols.l) (show regs.toNat ≤ 200 by omega) t
  refine x_loop (fun m a w => ∃ (r : Nat) (wn4 : Nat) (dl : List Int), (r ≤ regs.toNat) ∧ (wn4 = (words.l.length + tSp cols.l regs.toNat t) + nSp (nth cols.l t).l r) ∧ (dl.length = regs.toNat) ∧ (∀ j, j < regs.toNat → nth dl j = if j < r ∧ nth (nth cols.l t).l j < 0 then (((words.l.length + tSp cols.l regs.toNat t) + nSp (nth cols.l t).l j : Nat) : Int) else 0) ∧ St 139 (fun _ => False) W a w [(1, cols.v), (2, .pointer (some ⟨b3, 0, none⟩)), (4, .pointer (some ⟨b4, 0, none⟩)), (5, .pointer (some ⟨b5, 0, none⟩)), (6, .pointer (some ⟨b10, 0, none⟩)), (9, .int .i64 ((wn4 : Nat) : Int)), (10, .int .i64 ((t : Nat) : Int)), (11, v101), (12, .int .i64 ((r : Nat) : Int))] [.own 3 (⟨v101, dl⟩ : Ls Int), .own 3 (⟨vw, wl⟩ : Ls Int), .blk b10 25 [vq, vw, .int .i64 locks, .int .i64 8], .blk b5 28 [.int .i64 0, .int .i64 0, .int .i64 0], .blk b4 25 [(.slice none 0 0), (.slice none 0 0), .int .i64 0, .int .i64 0], .blk b3 25 [code.v, words.v, .int .i64 locks, .int .i64 regs], .at_ code, .at_ words, .at_ cols, .deep 33 (⟨vq, qs⟩ : Ls (Ls Ins))] ∧ m = regs.toNat - r) ⟨_, 0, wn, List.replicate regs.toNat 0, (by omega), (hwn), (by simp), (fun j hj => by rw [nth_rep0, if_neg (by omega)]), h105.nrm ⟨rfl, rfl, rfl, rfl, rfl, rfl, rfl, rfl, rfl, trivial⟩ [0, 1, 2, 3, 4, 5, 6, 7, 8, 9] (by decide) ⟨rfl, rfl, rfl, rfl, rfl, rfl, rfl, rfl, rfl, rfl, trivial⟩, rfl⟩ ?_
  clear h105
  rintro m106 a106 w106 ⟨r, wn4, dl, hr, hwn4, hdl, hdv, h106, hm106⟩
  have hnl := nSp_le (nth cols.l t).l r
  refine wp_seq_k fun K107 hK107 => wp_seq_k fun K108 hK108 => wp_region_lit <| wms 1 h106 rfl fun a109 h109 => wv h109 (r_fieldB (r := 3) fl_25_3 rfl rfl rfl) rfl rfl fun a110 h110 => wv h110 (r_ldb (i := 5) ti_3 rfl rfl rfl rfl) rfl rfl fun a111 h111 => wv h111 (r_lssI (p := ((r : Nat) : Int)) (q := regs) rfl rfl rfl) rfl rfl fun a112 h112 => wpList_nil <| hK108 _ _ <| x_cond h112 rfl (fun hb113 => ?_) (fun hb113 => ?_); clear h106 h109 h110 h111
  ·have hp113 : ((r : Nat) : Int) < regs := of_decide_eq_true hb113
   refine wp_skip <| hK107 _ _ <| wp_seq_k fun K114 hK114 => wp_block <| wp_seq_k fun K115 hK115 => wp_region_lit <| wms 2 h112 rfl fun a116 h116 => ?_; clear h112
   have hl117 : cols.l.length ≤ 140737488355328 := (h116.sh.at 8 rfl).len
   refine wv h116 (r_ixN (s := cols) (q := t) sl_35 ti_23 rfl rfl rfl (fun w h => (h.at 8 rfl)) (show t < cols.l.length from (by omega))) rfl rfl fun a118 h118 => wv h118 (r_lde (s := cols) (i := t) (v := (nth cols.l t).v) ti_23 rfl rfl rfl (fun w h => (h.at 8 rfl)) (show t < cols.l.length from (by omega)) (Nat.le_of_ble_eq_true rfl) rfl) rfl rfl fun a119 h119 => wms 1 h119 rfl fun a120 h120 => ?_; clear h116 h118 h119
   have hl121 : ((nth cols.l t).l).length ≤ 140737488355328 := ((h120.sh.at 8 rfl).nth t (show t < cols.l.length from (by omega))).len
   refine wv h120 (r_ixN (s := nth cols.l t) (q := r) sl_23 ti_3 rfl rfl rfl (fun w h => ((h.at 8 rfl).nth t (show t < cols.l.length from (by omega)))) (show r < ((nth cols.l t).l).length from (by omega))) rfl rfl fun a122 h122 => wv h122 (r_lde (s := nth cols.l t) (i := r) (v := .int .i64 (nth ((nth cols.l t).l) r)) ti_3 rfl rfl rfl (fun w h => ((h.at 8 rfl).nth t (show t < cols.l.length from (by omega)))) (show r < ((nth cols.l t).l).length from (by omega)) (Nat.le_of_ble_eq_true rfl) rfl) rfl rfl fun a123 h123 => wv h123 (r_lssI (p := nth ((nth cols.l t).l) r) (q := 0) rfl rfl rfl) rfl rfl fun a124 h124 => wpList_nil <| hK115 _ _ <| x_cond h124 rfl (fun hb125 => ?_) (fun hb125 => ?_); clear h120 h122 h123
   ·have hp125 : nth ((nth cols.l t).l) r < 0 := of_decide_eq_true hb125
    refine wp_seq_k fun K126 hK126 => wp_region_lit <| wms 3 h124 rfl fun a127 h127 => ?_; clear h124
    have hl128 : dl.length ≤ 140737488355328 := (h127.sh.own 0 rfl).len
    refine wv h127 (r_ixN (s := (⟨v101, dl⟩ : Ls Int)) (q := r) sl_23 ti_3 rfl rfl rfl (fun w h => (h.own 0 rfl)) (show r < dl.length from (by omega))) rfl rfl fun a129 h129 => wl_ex (x_ste (r := 0) (i := r) (j := 0) (x' := (((wn4 : Nat) : Int) : Int)) h129 ti_3 rfl rfl rfl rfl rfl (show r < dl.length from (by omega)) (Nat.le_of_ble_eq_true rfl) rfl rfl rfl (by intro q hq; obtain rfl : q = 0 := (by omega); rfl) (fun w h => Flat.inner _ _) (fun b hb => (Flat.on _ _ hb).elim)) (wanted_none rfl _) ?_; clear h127
    rintro a130 w130 h130
    clear h129
    refine wpList_nil <| hK126 _ _ <| wp_region_lit <| wms 1 h130 rfl fun a131 h131 => wv h131 (r_addN (p := wn4) (q := 1) rfl rfl rfl (show wn4 + 1 < 9223372036854775808 from (by omega))) rfl rfl fun a132 h132 => wms 1 h132 rfl fun a133 h133 => wpList_nil <| hK114 _ _ <| wp_region_lit <| wms 1 h133 rfl fun a134 h134 => wv h134 (r_addN (p := r) (q := 1) rfl rfl rfl (show r + 1 < 9223372036854775808 from (by omega))) rfl rfl fun a135 h135 => wms 1 h135 rfl fun a136 h136 => wpList_nil <| x_again ⟨_, ?_, r + 1, wn4 + 1, dl.set r ((wn4 : Nat) : Int), ?_, ?_, ?_, ?_, h136.nrm ⟨rfl, rfl, rfl, rfl, rfl, rfl, rfl, rfl, rfl, trivial⟩ [0, 1, 2, 3, 4, 5, 6, 7, 8, 9] (by decide) ⟨rfl, rfl, rfl, rfl, rfl, rfl, rfl, rfl, rfl, rfl, trivial⟩, rfl⟩; clear h130 h131 h132 h133 h134 h135
    · rw [hm106]; first | omega | (simp only [lens9]; omega)
    · omega
    · first | (rw [nSp_yes (by assumption)]; omega) | (rw [nSp_no (by assumption)]; exact hwn4)
    · first | (simp only [List.length_set]; exact hdl) | exact hdl
    · first | (rw [hwn4]; exact dl_yes hdl hdv (by omega) (by assumption)) | exact dl_no hdv (by assumption)
   have hp125 : ¬ (nth ((nth cols.l t).l) r < 0) := of_decide_eq_false hb125
   refine wp_skip <| hK114 _ _ <| wp_region_lit <| wms 1 h124 rfl fun a137 h137 => wv h137 (r_addN (p := r) (q := 1) rfl rfl rfl (show r + 1 < 9223372036854775808 from (by omega))) rfl rfl fun a138 h138 => wms 1 h138 rfl fun a139 h139 => wpList_nil <| x_again ⟨_, ?_, r + 1, wn4, dl, ?_, ?_, ?_, ?_, h139.nrm ⟨rfl, rfl, rfl, rfl, rfl, rfl, rfl, rfl, rfl, trivial⟩ [0, 1, 2, 3, 4, 5, 6, 7, 8, 9] (by decide) ⟨rfl, rfl, rfl, rfl, rfl, rfl, rfl, rfl, rfl, rfl, trivial⟩, rfl⟩; clear h124 h137 h138
   · rw [hm106]; first | omega | (simp only [lens9]; omega)
   · omega
   · first | (rw [nSp_yes (by assumption)]; omega) | (rw [nSp_no (by assumption)]; exact hwn4)
   · first | (simp only [List.length_set]; exact hdl) | exact hdl
   · first | (rw [hwn4]; exact dl_yes hdl hdv (by omega) (by assumption)) | exact dl_no hdv (by assumption)
  have hp113 : ¬ (((r : Nat) : Int) < regs) := of_decide_eq_false hb113
  refine wp_exit <| hK103 _ _ <| wp_seq_k fun K140 hK140 => wp_region_lit <| wms 1 h112 rfl fun a141 h141 => wpList_nil <| hK140 _ _ <| wp_seq_k fun K142 hK142 => wp_seq_k fun K143 hK143 => wp_region_lit <| wms 1 h141 rfl fun a144 h144 => wpList_nil <| hK143 _ _ <| wp_block ?_; clear h112 h141
  have h146 := h144.nilDeep (α := Ls Ins) 33
  clear h144
  obtain ⟨hl4, hjt⟩ := ok_thread hok t (by omega)
  have hov := okV_of hok t (by omega)
  have hdw : dl = wdF (nth cols.l t).l (words.l.length + tSp cols.l regs.toNat t) regs.toNat := wdF_eq hdl (fun j hj => by have h9 := hdv j hj; rwa [show r = regs.toNat by omega] at h9)
  refine x_loop (fun m a w => ∃ (j : Nat) (bc : List (Ls Ins)) (vb : Value), (j ≤ (nth code.l t).l.length) ∧ (bc.map (·.l) = (List.range j).map (fun i => paintL (nth cols.l t).l dl (nth (nth code.l t).l i))) ∧ (bc.length = j) ∧ St 139 (fun _ => False) W a w [(1, cols.v), (2, .pointer (some ⟨b3, 0, none⟩)), (4, .pointer (some ⟨b4, 0, none⟩)), (5, .pointer (some ⟨b5, 0, none⟩)), (6, .pointer (some ⟨b10, 0, none⟩)), (9, .int .i64 ((wn4 : Nat) : Int)), (10, .int .i64 ((t : Nat) : Int)), (11, v101), (13, vb), (14, .int .i64 ((j : Nat) : Int))] [.own 3 (⟨v101, dl⟩ : Ls Int), .own 3 (⟨vw, wl⟩ : Ls Int), .blk b10 25 [vq, vw, .int .i64 locks, .int .i64 8], .blk b5 28 [.int .i64 0, .int .i64 0, .int .i64 0], .blk b4 25 [(.slice none 0 0), (.slice none 0 0), .int .i64 0, .int .i64 0], .blk b3 25 [code.v, words.v, .int .i64 locks, .int .i64 regs], .at_ code, .at_ words, .at_ cols, .deep 33 (⟨vq, qs⟩ : Ls (Ls Ins)), .deep 33 (⟨vb, bc⟩ : Ls (Ls Ins))] ∧ m = (nth code.l t).l.length - j) ⟨_, 0, [], (.slice none 0 0), (by omega), (rfl), (rfl), h146.nrm ⟨rfl, rfl, rfl, rfl, rfl, rfl, rfl, rfl, rfl, rfl, trivial⟩ [1, 2, 3, 4, 5, 6, 7, 8, 9, 10, 0] (by decide) ⟨rfl, rfl, rfl, rfl, rfl, rfl, rfl, rfl, rfl, rfl, rfl, trivial⟩, rfl⟩ ?_
  clear h146
  rintro m145 a145 w145 ⟨j, bc, vb, hj, hbc, hbl, h145, hm145⟩
  refine wp_seq_k fun K147 hK147 => wp_seq_k fun K148 hK148 => wp_region_lit <| wms 1 h145 rfl fun a149 h149 => wv h149 (r_fieldB (r := 0) fl_25_0 rfl rfl rfl) rfl rfl fun a150 h150 => wv h150 (r_ldb (i := 5) ti_22 rfl rfl rfl rfl) rfl rfl fun a151 h151 => wms 1 h151 rfl fun a152 h152 => wv h152 (r_ixN (s := code) (q := t) sl_22 ti_33 rfl rfl rfl (fun w h => (h.at 6 rfl)) (show t < code.l.length from (by omega))) rfl rfl fun a153 h153 => wv h153 (r_lde (s := code) (i := t) (v := (nth code.l t).v) ti_33 rfl rfl rfl (fun w h => (h.at 6 rfl)) (show t < code.l.length from (by omega)) (Nat.le_of_ble_eq_true rfl) rfl) rfl rfl fun a154 h154 => ?_; clear h145 h149 h150 h151 h152 h153
  have hl155 : ((nth code.l t).l).length ≤ 140737488355328 := ((h154.sh.at 6 rfl).nth t (show t < code.l.length from (by omega))).len
  refine wv h154 (r_len (s := nth code.l t) (n := ((nth code.l t).l).length) sl_33 rfl rfl (fun w h => ((h.at 6 rfl).nth t (show t < code.l.length from (by omega)))) rfl) rfl rfl fun a156 h156 => wv h156 (r_lssN (p := j) (q := ((nth code.l t).l).length) rfl rfl rfl) rfl rfl fun a157 h157 => wpList_nil <| hK148 _ _ <| x_cond h157 rfl (fun hb158 => ?_) (fun hb158 => ?_); clear h154 h156
  ·have hp158 : j < ((nth code.l t).l).length := of_decide_eq_true hb158
   refine wp_skip <| hK147 _ _ <| wp_seq_k fun K159 hK159 => wp_block <| wp_seq_k fun K160 hK160 => x_tail 13 [] (by kernel_rfl) (by kernel_rfl) h157 fun Z161 hZ161 => ?_
   have hq161 := h157.fr
   refine wq_val hq161 (r_fieldB (r := 0) fl_25_0 rfl rfl rfl) (wanted_none rfl _) rfl rfl fun a162 hq162 => wq_val hq162 (r_ldb (i := 5) ti_22 rfl rfl rfl rfl) (wanted_none rfl _) rfl rfl fun a163 hq163 => wq_val hq163 (r_move rfl rfl) (wanted_none rfl _) rfl rfl fun a164 hq164 => wq_val hq164 (r_ixN (s := code) (q := t) sl_22 ti_33 rfl rfl rfl (fun w h => (h.at 6 rfl)) (show t < code.l.length from (by omega))) (wanted_none rfl _) rfl rfl fun a165 hq165 => wq_val hq165 (r_lde (s := code) (i := t) (v := (nth code.l t).v) ti_33 rfl rfl rfl (fun w h => (h.at 6 rfl)) (show t < code.l.length from (by omega)) (Nat.le_of_ble_eq_true rfl) rfl) (wanted_none rfl _) rfl rfl fun a166 hq166 => wq_val hq166 (r_move rfl rfl) (wanted_none rfl _) rfl rfl fun a167 hq167 => wq_val hq167 (r_ixN (s := nth code.l t) (q := j) sl_33 ti_32 rfl rfl rfl (fun w h => ((h.at 6 rfl).nth t (show t < code.l.length from (by omega)))) (show j < ((nth code.l t).l).length from (by omega))) (wanted_none rfl _) rfl rfl fun a168 hq168 => wq_val hq168 (r_ldew (s := nth code.l t) (i := j) (vs := [.int .i64 ((nth ((nth code.l t).l) j).op), .int .i64 ((nth ((nth code.l t).l) j).a), .int .i64 ((nth ((nth code.l t).l) j).b), .int .i64 ((nth ((nth code.l t).l) j).c)]) ti_32 rfl rfl rfl (fun w h => ((h.at 6 rfl).nth t (show t < code.l.length from (by omega)))) (show j < ((nth code.l t).l).length from (by omega)) (Nat.le_of_ble_eq_true rfl) rfl) (wanted_none rfl _) rfl rfl fun a169 hq169 => wq_val hq169 (r_move rfl rfl) (wanted_none rfl _) rfl rfl fun a170 hq170 => wq_val hq170 (r_move rfl rfl) (wanted_none rfl _) rfl rfl fun a171 hq171 => ?_; clear hq161 hq162 hq163 hq164 hq165 hq166 hq167 hq168 hq169 hq170
   have hl172 : cols.l.length ≤ 140737488355328 := (h157.sh.at 8 rfl).len
   refine wq_val hq171 (r_ixN (s := cols) (q := t) sl_35 ti_23 rfl rfl rfl (fun w h => (h.at 8 rfl)) (show t < cols.l.length from (by omega))) (wanted_none rfl _) rfl rfl fun a173 hq173 => wq_val hq173 (r_lde (s := cols) (i := t) (v := (nth cols.l t).v) ti_23 rfl rfl rfl (fun w h => (h.at 8 rfl)) (show t < cols.l.length from (by omega)) (Nat.le_of_ble_eq_true rfl) rfl) (wanted_none rfl _) rfl rfl fun a174 hq174 => wq_val hq174 (r_move rfl rfl) (wanted_none rfl _) rfl rfl fun a175 hq175 => wpQuiet_nil (hZ161 _ fun w176 hw176 => ?_); clear hq171 hq173 hq174
   have h176 : St 139 (fun _ => False) W a175 w176 _ _ := ⟨hq175, hw176⟩
   clear hq175 hw176 h157
   refine wl_ex (x_call h176 bd_60 rfl rfl rfl rfl rfl (painted_c (nth ((nth code.l t).l) j) (nth cols.l t) (⟨v101, dl⟩ : Ls Int) _ (hov j (by omega)).1 (hov j (by omega)).2.1 ((h176.sh.at 8 rfl).nth t (show t < cols.l.length from (by omega))) (h176.sh.own 0 rfl) (show dl.length = ((nth cols.l t).l).length by omega) (fun q hq => by have h9 := (hov j (by omega)).2.2.2 _ (nth_mem _ _ hq); omega) (by have h9 := (hov j (by omega)).2.2.1; omega))) (wanted_none rfl _) ?_
   rintro a177 w177 ⟨_, ⟨s177, rfl, hs177⟩, hf177⟩
   have h177 := (⟨hf177, h176.sh.call hs177 (by intro A hA b hb; first | (simp at hA; done) | (simp at hA; subst hA; first | exact Flat.noRd hb | exact (hb : False).elim) | (simp at hA; rcases hA with rfl | rfl <;> first | exact Flat.noRd hb | exact (hb : False).elim))⟩ : St 139 (fun _ => False) W a177 w177 _ _)
   clear hf177 hs177
   clear h176
   refine wms 1 h177 rfl fun a178 h178 => wpList_nil <| hK160 _ _ <| wp_region_lit <| wms 2 h178 rfl fun a179 h179 => wl_ex (x_litD (E := 0) (x := (⟨s177.v, paintL ((nth cols.l t).l) dl (nth ((nth code.l t).l) j)⟩ : Ls Ins)) h179 sl_22 ti_33 rfl rfl rfl ((h179.sh.own 0 rfl)) (fun b hb => (own_on (h179.sh.ok _ (List.mem_of_getElem? (i := 0) rfl)) hb).elim (fun h => h) (fun h => Flat.noRd h)) (fun b hb => Flat.noRd hb) rfl rfl) (wanted_none rfl _) ?_; clear h177 h178
   rintro a180 w180 ⟨v180, h180⟩; clear h179
   have h181 := h180.sel (L' := [.deep 33 (⟨vb, bc⟩ : Ls (Ls Ins)), .deep 33 (⟨v180, [(⟨s177.v, paintL ((nth cols.l t).l) dl (nth ((nth code.l t).l) j)⟩ : Ls Ins)]⟩ : Ls (Ls Ins)), .own 3 (⟨v101, dl⟩ : Ls Int), .own 3 (⟨vw, wl⟩ : Ls Int), .blk b10 25 [vq, vw, .int .i64 locks, .int .i64 8], .blk b5 28 [.int .i64 0, .int .i64 0, .int .i64 0], .blk b4 25 [(.slice none 0 0), (.slice none 0 0), .int .i64 0, .int .i64 0], .blk b3 25 [code.v, words.v, .int .i64 locks, .int .i64 regs], .at_ code, .at_ words, .at_ cols, .deep 33 (⟨vq, qs⟩ : Ls (Ls Ins))]) [11, 0, 1, 2, 3, 4, 5, 6, 7, 8, 9, 10] (by decide) ⟨rfl, rfl, rfl, rfl, rfl, rfl, rfl, rfl, rfl, rfl, rfl, rfl, trivial⟩
   refine wl_ex (x_appD (s := (⟨vb, bc⟩ : Ls (Ls Ins))) (m := (⟨v180, [(⟨s177.v, paintL ((nth cols.l t).l) dl (nth ((nth code.l t).l) j)⟩ : Ls Ins)]⟩ : Ls (Ls Ins))) h181 sl_22 ti_33 rfl rfl rfl rfl rfl rfl rfl inferInstance (show (bc.length + ([(⟨s177.v, paintL ((nth cols.l t).l) dl (nth ((nth code.l t).l) j)⟩ : Ls Ins)]).length) * 24 ≤ 140737488355328 ∧ bc.length + ([(⟨s177.v, paintL ((nth cols.l t).l) dl (nth ((nth code.l t).l) j)⟩ : Ls Ins)]).length ≤ 140737488355328 from (by first | omega | (simp only [lens9]; omega))) rfl rfl) (wanted_none rfl _) ?_
   rintro a182 w182 ⟨v182, h182⟩; clear h181
   refine wms 1 h182 rfl fun a183 h183 => wpList_nil <| hK159 _ _ ?_; clear h182
   have h184 : St 139 (fun _ => False) W a183 w182 [(1, cols.v), (2, .pointer (some ⟨b3, 0, none⟩)), (4, .pointer (some ⟨b4, 0, none⟩)), (5, .pointer (some ⟨b5, 0, none⟩)), (6, .pointer (some ⟨b10, 0, none⟩)), (9, .int .i64 ((wn4 : Nat) : Int)), (10, .int .i64 ((t : Nat) : Int)), (11, v101), (13, v182), (14, .int .i64 ((j : Nat) : Int))] [.deep 33 (⟨v182, bc ++ ([(⟨s177.v, paintL ((nth cols.l t).l) dl (nth ((nth code.l t).l) j)⟩ : Ls Ins)])⟩ : Ls (Ls Ins)), .own 3 (⟨v101, dl⟩ : Ls Int), .own 3 (⟨vw, wl⟩ : Ls Int), .blk b10 25 [vq, vw, .int .i64 locks, .int .i64 8], .blk b5 28 [.int .i64 0, .int .i64 0, .int .i64 0], .blk b4 25 [(.slice none 0 0), (.slice none 0 0), .int .i64 0, .int .i64 0], .blk b3 25 [code.v, words.v, .int .i64 locks, .int .i64 regs], .at_ code, .at_ words, .at_ cols, .deep 33 (⟨vq, qs⟩ : Ls (Ls Ins))] := h183.nrm ⟨rfl, rfl, rfl, rfl, rfl, rfl, rfl, rfl, rfl, rfl, trivial⟩ [0, 1, 2, 3, 4, 5, 6, 7, 8, 9, 10] (by decide) ⟨rfl, rfl, rfl, rfl, rfl, rfl, rfl, rfl, rfl, rfl, rfl, trivial⟩
   clear h183
   refine wp_region_lit <| wms 1 h184 rfl fun a185 h185 => wv h185 (r_addN (p := j) (q := 1) rfl rfl rfl (show j + 1 < 9223372036854775808 from (by omega))) rfl rfl fun a186 h186 => wms 1 h186 rfl fun a187 h187 => wpList_nil <| x_again ⟨_, ?_, j + 1, bc ++ ([(⟨s177.v, paintL ((nth cols.l t).l) dl (nth ((nth code.l t).l) j)⟩ : Ls Ins)]), v182, ?_, ?_, ?_, h187.nrm ⟨rfl, rfl, rfl, rfl, rfl, rfl, rfl, rfl, rfl, rfl, trivial⟩ [1, 2, 3, 4, 5, 6, 7, 8, 9, 10, 0] (by decide) ⟨rfl, rfl, rfl, rfl, rfl, rfl, rfl, rfl, rfl, rfl, rfl, trivial⟩, rfl⟩; clear h184 h185 h186
   · rw [hm145]; first | omega | (simp only [lens9]; omega)
   · omega
   · rw [List.map_append, hbc, List.range_succ, List.map_append]; rfl
   · simp [hbl]
  have hp158 : ¬ (j < ((nth code.l t).l).length) := of_decide_eq_false hb158
  refine wp_exit <| hK142 _ _ <| wp_seq_k fun K188 hK188 => wp_region_lit <| wms 1 h157 rfl fun a189 h189 => wv h189 (r_fieldB (r := 0) fl_25_0 rfl rfl rfl) rfl rfl fun a190 h190 => wv h190 (r_ldb (i := 5) ti_22 rfl rfl rfl rfl) rfl rfl fun a191 h191 => wms 1 h191 rfl fun a192 h192 => wv h192 (r_ixN (s := code) (q := t) sl_22 ti_33 rfl rfl rfl (fun w h => (h.at 6 rfl)) (show t < code.l.length from (by omega))) rfl rfl fun a193 h193 => wv h193 (r_lde (s := code) (i := t) (v := (nth code.l t).v) ti_33 rfl rfl rfl (fun w h => (h.at 6 rfl)) (show t < code.l.length from (by omega)) (Nat.le_of_ble_eq_true rfl) rfl) rfl rfl fun a194 h194 => wl_ex (x_call h194 bd_61 rfl rfl rfl rfl rfl (rPut_c (⟨vb, bc⟩ : Ls (Ls Ins)) (nth code.l t) _ (h194.sh.deep 10 rfl) ((h194.sh.at 6 rfl).nth t (show t < code.l.length from (by omega))) (show bc.length = (nth code.l t).l.length by omega) (by omega) (fun i hi => by rw [bc_nth hbc i (by omega)]; exact paintL_len _ _ _) (ap_ok2 hjt (by rw [← show j = (nth code.l t).l.length by omega]; exact hbc)))) (wanted_none rfl _) ?_; clear h157 h189 h190 h191 h192 h193
  rintro a195 w195 ⟨_, ⟨s195, rfl, hl195, hs195⟩, hf195⟩
  have h195 := (⟨hf195, h194.sh.call hs195 (by intro A hA b hb; first | (simp at hA; done) | (simp at hA; subst hA; first | exact Flat.noRd hb | exact (hb : False).elim) | (simp at hA; rcases hA with rfl | rfl <;> first | exact Flat.noRd hb | exact (hb : False).elim))⟩ : St 139 (fun _ => False) W a195 w195 _ _)
  clear hf195 hs195
  clear h194
  refine wms 1 h195 rfl fun a196 h196 => wpList_nil <| hK188 _ _ ?_; clear h195
  have hq1 : s195.l = apT (nth code.l t).l (nth cols.l t).l (words.l.length + tSp cols.l regs.toNat t) regs.toNat := by rw [apT, apL, ← hdw, hl195, hbc, show j = (nth code.l t).l.length by omega]
  have hq2 := congrArg List.length hq1
  refine wp_seq_k fun K197 hK197 => wp_seq_k fun K198 hK198 => wp_region_lit <| wms 1 h196 rfl fun a199 h199 => ?_; clear h196
  have hl200 : s195.l.length ≤ 140737488355328 := (h199.sh.own 0 rfl).len
  refine wv h199 (r_len (s := s195) (n := s195.l.length) sl_33 rfl rfl (fun w h => (h.own 0 rfl)) rfl) rfl rfl fun a201 h201 => wv h201 (r_gtrN (p := s195.l.length) (q := 400) rfl rfl rfl) rfl rfl fun a202 h202 => wpList_nil <| hK198 _ _ <| x_cond h202 rfl (fun hb203 => ?_) (fun hb203 => ?_); clear h199 h201
  ·have hp203 : 400 < s195.l.length := of_decide_eq_true hb203
   refine wp_seq_k fun K204 hK204 => wp_region_lit <| wv h202 (r_build (cs := [(.slice none 0 0), (.slice none 0 0), .int .i64 0, .int .i64 0]) rfl rfl (by kernel_rfl)) rfl rfl fun a205 h205 => wms 1 h205 rfl fun a206 h206 => wv h206 (r_build (cs := [.int .i64 1, .int .i64 ((t : Nat) : Int), .int .i64 0]) rfl rfl (by kernel_rfl)) rfl rfl fun a207 h207 => wl_ex (x_stb (i := 5) (vs := [(.slice none 0 0), (.slice none 0 0), .int .i64 0, .int .i64 0]) (cs' := [(.slice none 0 0), (.slice none 0 0), .int .i64 0, .int .i64 0]) h207 ti_25 rfl rfl rfl rfl rfl rfl rfl (allOne_cons rfl (allOne_cons rfl (allOne_cons rfl (allOne_cons rfl allOne_nil)))) (Nat.le_of_ble_eq_true rfl) rfl) (wanted_none rfl _) ?_; clear h202 h205 h206
   rintro a208 w208 h208
   clear h207
   refine wl_ex (x_stb (i := 4) (vs := [.int .i64 1, .int .i64 ((t : Nat) : Int), .int .i64 0]) (cs' := [.int .i64 1, .int .i64 ((t : Nat) : Int), .int .i64 0]) h208 ti_28 rfl rfl rfl rfl rfl rfl rfl (allOne_cons rfl (allOne_cons rfl (allOne_cons rfl allOne_nil))) (Nat.le_of_ble_eq_true rfl) rfl) (wanted_none rfl _) ?_
   rintro a209 w209 h209
   clear h208
   refine wpList_nil <| hK204 _ _ ?_
   have h210 : St 139 (fun _ => False) W a209 w209 [(4, .pointer (some ⟨b4, 0, none⟩)), (5, .pointer (some ⟨b5, 0, none⟩))] [.own 32 s195, .own 3 (⟨v101, dl⟩ : Ls Int), .own 3 (⟨vw, wl⟩ : Ls Int), .blk b10 25 [vq, vw, .int .i64 locks, .int .i64 8], .blk b5 28 [.int .i64 1, .int .i64 ((t : Nat) : Int), .int .i64 0], .blk b4 25 [(.slice none 0 0), (.slice none 0 0), .int .i64 0, .int .i64 0], .blk b3 25 [code.v, words.v, .int .i64 locks, .int .i64 regs], .at_ code, .at_ words, .at_ cols, .deep 33 (⟨vq, qs⟩ : Ls (Ls Ins)), .deep 33 (⟨vb, bc⟩ : Ls (Ls Ins))] := h209.nrm ⟨rfl, rfl, trivial⟩ [0, 1, 2, 3, 4, 5, 6, 7, 8, 9, 10, 11] (by decide) ⟨rfl, rfl, rfl, rfl, rfl, rfl, rfl, rfl, rfl, rfl, rfl, rfl, trivial⟩
   clear h209
   refine wp_ret ?_
   try simp only [Exit.then, Exit.inBlock]
   refine x_ret2c (fn := Try.f23) (t := 4) (t2 := 5) (i := 5) (i2 := 4) ti_25 ti_28 rfl h210 rfl rfl rfl rfl rfl rfl ?_
   have hkt : t = kk := by rcases Nat.lt_or_ge t kk with h9 | h9; (have h8 := hbef t h9; omega); omega
   subst hkt
   exact ⟨rfl, (h210.sh.sel [] (by decide) trivial)⟩
  have hp203 : ¬ (400 < s195.l.length) := of_decide_eq_false hb203
  refine wp_skip <| hK197 _ _ <| wp_region_lit <| wv h202 (r_fieldB (r := 0) fl_25_0 rfl rfl rfl) rfl rfl fun a211 h211 => wv h211 (r_ldb (i := 3) ti_22 rfl rfl rfl rfl) rfl rfl fun a212 h212 => wms 1 h212 rfl fun a213 h213 => wl_ex (x_litD (E := 0) (x := s195) h213 sl_22 ti_33 rfl rfl rfl ((h213.sh.own 0 rfl)) (fun b hb => (own_on (h213.sh.ok _ (List.mem_of_getElem? (i := 0) rfl)) hb).elim (fun h => h) (fun h => Flat.noRd h)) (fun b hb => Flat.noRd hb) rfl rfl) (wanted_none rfl _) ?_; clear h202 h211 h212
  rintro a214 w214 ⟨v214, h214⟩; clear h213
  have h215 := h214.sel (L' := [.deep 33 (⟨vq, qs⟩ : Ls (Ls Ins)), .deep 33 (⟨v214, [s195]⟩ : Ls (Ls Ins)), .own 3 (⟨v101, dl⟩ : Ls Int), .own 3 (⟨vw, wl⟩ : Ls Int), .blk b10 25 [vq, vw, .int .i64 locks, .int .i64 8], .blk b5 28 [.int .i64 0, .int .i64 0, .int .i64 0], .blk b4 25 [(.slice none 0 0), (.slice none 0 0), .int .i64 0, .int .i64 0], .blk b3 25 [code.v, words.v, .int .i64 locks, .int .i64 regs], .at_ code, .at_ words, .at_ cols, .deep 33 (⟨vb, bc⟩ : Ls (Ls Ins))]) [10, 0, 1, 2, 3, 4, 5, 6, 7, 8, 9, 11] (by decide) ⟨rfl, rfl, rfl, rfl, rfl, rfl, rfl, rfl, rfl, rfl, rfl, rfl, trivial⟩
  refine wl_ex (x_appD (s := (⟨vq, qs⟩ : Ls (Ls Ins))) (m := (⟨v214, [s195]⟩ : Ls (Ls Ins))) h215 sl_22 ti_33 rfl rfl rfl rfl rfl rfl rfl inferInstance (show (qs.length + ([s195]).length) * 24 ≤ 140737488355328 ∧ qs.length + ([s195]).length ≤ 140737488355328 from (by first | omega | (simp only [lens9]; omega))) rfl rfl) (wanted_none rfl _) ?_
  rintro a216 w216 ⟨v216, h216⟩; clear h215
  refine wv h216 (r_fieldB (r := 0) fl_25_0 rfl rfl rfl) rfl rfl fun a217 h217 => wl_ex (x_stb (i := 3) (vs := [v216]) (cs' := [v216, vw, .int .i64 locks, .int .i64 8]) h217 ti_22 rfl rfl rfl rfl rfl (cells_oneL ((h217.sh.deep 0 rfl)).one) rfl (allOne_cons ((h217.sh.deep 0 rfl)).one allOne_nil) (Nat.le_of_ble_eq_true rfl) rfl) (wanted_none rfl _) ?_; clear h216
  rintro a218 w218 h218
  clear h217
  refine wpList_nil <| hK97 _ _ ?_
  have h219 : St 139 (fun _ => False) W a218 w218 [(1, cols.v), (2, .pointer (some ⟨b3, 0, none⟩)), (4, .pointer (some ⟨b4, 0, none⟩)), (5, .pointer (some ⟨b5, 0, none⟩)), (6, .pointer (some ⟨b10, 0, none⟩)), (9, .int .i64 ((wn4 : Nat) : Int)), (10, .int .i64 ((t : Nat) : Int))] [.deep 33 (⟨v216, qs ++ ([s195])⟩ : Ls (Ls Ins)), .own 3 (⟨v101, dl⟩ : Ls Int), .own 3 (⟨vw, wl⟩ : Ls Int), .blk b10 25 [v216, vw, .int .i64 locks, .int .i64 8], .blk b5 28 [.int .i64 0, .int .i64 0, .int .i64 0], .blk b4 25 [(.slice none 0 0), (.slice none 0 0), .int .i64 0, .int .i64 0], .blk b3 25 [code.v, words.v, .int .i64 locks, .int .i64 regs], .at_ code, .at_ words, .at_ cols, .deep 33 (⟨vb, bc⟩ : Ls (Ls Ins))] := h218.nrm ⟨rfl, rfl, rfl, rfl, rfl, rfl, rfl, trivial⟩ [0, 1, 2, 3, 4, 5, 6, 7, 8, 9, 10] (by decide) ⟨rfl, rfl, rfl, rfl, rfl, rfl, rfl, rfl, rfl, rfl, rfl, trivial⟩
  clear h218
  refine wp_region_lit <| wms 1 h219 rfl fun a220 h220 => wv h220 (r_addN (p := t) (q := 1) rfl rfl rfl (show t + 1 < 9223372036854775808 from (by omega))) rfl rfl fun a221 h221 => wms 1 h221 rfl fun a222 h222 => wpList_nil <| x_again ⟨_, ?_, t + 1, wn4, qs ++ ([s195]), v216, ?_, ?_, ?_, ?_, h222.nrm ⟨rfl, rfl, rfl, rfl, rfl, rfl, rfl, trivial⟩ [2, 3, 4, 5, 6, 7, 8, 9, 0] (by decide) ⟨rfl, rfl, rfl, rfl, rfl, rfl, rfl, rfl, rfl, trivial⟩, rfl⟩; clear h219 h220 h221
  · rw [hm87]; first | omega | (simp only [lens9]; omega)
  · first | omega | (rcases Nat.lt_or_ge t kk with h9 | h9; (omega); (exfalso; have h8 : t = kk := (by omega); rw [h8] at hq2; omega))
  · rw [hwn4, show r = regs.toNat by omega, tSp]; omega
  · rw [List.map_append, hqs, List.range_succ, List.map_append]; simp [hq1]
  · simp [hql]
 have hp96 : ¬ (t < code.l.length) := of_decide_eq_false hb96
 exfalso
 omega

end Go.Proofs.Ytfpaahkleienoaa
