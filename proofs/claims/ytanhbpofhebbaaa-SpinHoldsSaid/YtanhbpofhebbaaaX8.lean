/-
  Contracts of functions of this program and of the references, each walked once.
-/
import Derived.Test.YtanhbpofhebbaaaX7
namespace Go.Proofs.Ytanhbpofhebbaaa
open Go.RowKit
set_option linter.unusedSimpArgs false
set_option linter.unusedVariables false


def fix1 (k : Nat) (x : Ins) : Ins := if x.op = 15 ∧ x.b = -1 then { x with b := (k : Int) - 3 } else x
def fixFrom (off : Nat) (l : List Ins) : List Ins := (List.range l.length).map fun q => fix1 (off + q) (nth l q)
theorem fixFrom_len (off : Nat) (l : List Ins) : (fixFrom off l).length = l.length := by simp [fixFrom]
theorem fixFrom_nth (off : Nat) (l : List Ins) (q : Nat) (h : q < l.length) : nth (fixFrom off l) q = fix1 (off + q) (nth l q) := by
  unfold fixFrom
  rw [nth_map' _ _ _ (by simpa using h)]
  simp [nth, h]
theorem fixFrom_append (off : Nat) (l m : List Ins) : fixFrom off (l ++ m) = fixFrom off l ++ fixFrom (off + l.length) m := by
  apply ext_nth
  · simp [fixFrom_len]
  · intro i hi
    rw [fixFrom_len, List.length_append] at hi
    rw [fixFrom_nth _ _ _ (by rw [List.length_append]; exact hi)]
    by_cases h : i < l.length
    · rw [nth_app_lt _ _ _ h, nth_app_lt _ _ _ (by rw [fixFrom_len]; exact h), fixFrom_nth _ _ _ h]
    · rw [nth_app_ge _ _ _ (by omega), nth_app_ge _ _ _ (by rw [fixFrom_len]; omega), fixFrom_len, fixFrom_nth _ _ _ (by omega), Nat.add_assoc, Nat.add_sub_cancel' (by omega)]
theorem eq_fix (out ou : List Ins) (hl : ou.length = out.length) (h : ∀ j, j < out.length → nth ou j = fix1 j (nth out j)) : ou = fixFrom 0 out := by
  apply ext_nth
  · rw [fixFrom_len]; exact hl
  · intro i hi
    rw [h i (by omega), fixFrom_nth _ _ _ (by omega), Nat.zero_add]
theorem placeBR (nw : Nat) (code : List Ins) (j : Nat) : placeL (becL (linkB nw) code) j = placeL (becL (linkR nw) code) j := by
  have e : (becL (linkB nw) code).map List.length = (becL (linkR nw) code).map List.length := by
    simp only [becL, List.map_map]
    apply List.map_congr_left
    intro i _
    exact linkBR_len nw i _
  unfold placeL
  rw [List.map_take, List.map_take, e]
theorem link_group (nw : Nat) (code : List Ins) (k : Nat) : fixFrom (placeL (becL (linkB nw) code) k) ((linkB nw k (nth code k)).map (fixMv (becL (linkB nw) code) code k)) = (linkR nw k (nth code k)).map (fixIns (becL (linkR nw) code) code k) := by
  by_cases h17 : (nth code k).op = 17
  · have e1 : linkB nw k (nth code k) = [⟨1, 6, 0, 0⟩, ⟨1, 7, 1, 0⟩, ⟨13, nw + (nth code k).a, 6, 7⟩, ⟨15, 6, -1, 0⟩] := by unfold linkB; rw [if_pos h17]
    have e2 : linkR nw k (nth code k) = [⟨1, 6, 0, 0⟩, ⟨1, 7, 1, 0⟩, ⟨13, nw + (nth code k).a, 6, 7⟩, ⟨15, 6, 0, 0⟩] := by unfold linkR; rw [if_pos h17]
    have e3 : (linkB nw k (nth code k)).map (fixMv (becL (linkB nw) code) code k) = [⟨1, 6, 0, 0⟩, ⟨1, 7, 1, 0⟩, ⟨13, nw + (nth code k).a, 6, 7⟩, ⟨15, 6, -1, 0⟩] := by rw [e1]; simp [fixMv, h17]
    have e4 : (linkR nw k (nth code k)).map (fixIns (becL (linkR nw) code) code k) = [⟨1, 6, 0, 0⟩, ⟨1, 7, 1, 0⟩, ⟨13, nw + (nth code k).a, 6, 7⟩, ⟨15, 6, placeL (becL (linkR nw) code) k, 0⟩] := by rw [e2]; simp [fixIns, h17]
    rw [e3, e4, placeBR]
    generalize placeL (becL (linkR nw) code) k = pk
    generalize (nth code k).a = ca
    simp [fixFrom, fix1, nth, List.range_succ]
  · by_cases h18 : (nth code k).op = 18
    · have e1 : linkB nw k (nth code k) = [⟨1, 6, 0, 0⟩, ⟨9, nw + (nth code k).a, 6, 0⟩] := by unfold linkB; rw [if_neg h17, if_pos h18]
      have e2 : linkR nw k (nth code k) = [⟨1, 6, 0, 0⟩, ⟨9, nw + (nth code k).a, 6, 0⟩] := by unfold linkR; rw [if_neg h17, if_pos h18]
      have e3 : (linkB nw k (nth code k)).map (fixMv (becL (linkB nw) code) code k) = [⟨1, 6, 0, 0⟩, ⟨9, nw + (nth code k).a, 6, 0⟩] := by rw [e1]; simp [fixMv]
      have e4 : (linkR nw k (nth code k)).map (fixIns (becL (linkR nw) code) code k) = [⟨1, 6, 0, 0⟩, ⟨9, nw + (nth code k).a, 6, 0⟩] := by rw [e2]; simp [fixIns]
      rw [e3, e4, placeBR]
      generalize placeL (becL (linkR nw) code) k = pk
      generalize (nth code k).a = ca
      simp [fixFrom, fix1, nth, List.range_succ]
    · have e1 : linkB nw k (nth code k) = [nth code k] := by unfold linkB; rw [if_neg h17, if_neg h18]
      have e2 : linkR nw k (nth code k) = [nth code k] := by unfold linkR; rw [if_neg h17, if_neg h18]
      rw [e1, e2]
      have e3 : fixMv (becL (linkB nw) code) code k (nth code k) = fixIns (becL (linkR nw) code) code k (nth code k) := by
        unfold fixMv fixIns
        rw [placeBR, placeBR]
        split
        · rfl
        · split
          · rfl
          · rw [if_neg (by omega)]
      have e4 : ∀ y : Ins, ¬ (y.op = 15 ∧ y.b = -1) → ∀ off, fixFrom off [y] = [y] := by
        intro y hy off
        simp [fixFrom, fix1, nth, List.range_succ, hy]
      simp only [List.map_cons, List.map_nil]
      rw [e3]
      by_cases h15 : (nth code k).op = 15
      · refine e4 _ (fun hh => ?_) _
        have hb : (fixIns (becL (linkR nw) code) code k (nth code k)).b = (placeL (becL (linkR nw) code) (nth code k).b.toNat : Int) := by
          unfold fixIns
          rw [if_neg (by omega), if_pos ⟨h15, h15⟩]
        have := hh.2
        rw [hb] at this
        omega
      · refine e4 _ (fun hh => ?_) _
        have ho : (fixIns (becL (linkR nw) code) code k (nth code k)).op = (nth code k).op := by
          unfold fixIns
          split
          · rfl
          · split
            · rfl
            · split <;> rfl
        have := hh.1
        omega
theorem linkB_eq (nw : Nat) (code : List Ins) : fixFrom 0 (movedL (linkB nw) code) = linkL nw code := by
  have hlen : ∀ k, k ≤ code.length → ((List.range k).flatMap fun i => (linkB nw i (nth code i)).map (fixMv (becL (linkB nw) code) code i)).length = placeL (becL (linkB nw) code) k := by
    intro k hk
    induction k with
    | zero => rfl
    | succ k ih =>
      rw [List.range_succ, List.flatMap_append, List.length_append, ih (by omega), placeL_succ _ _ (by rw [becL_len]; omega), becL_nth _ _ _ (by omega)]
      simp
  have key : ∀ k, k ≤ code.length → fixFrom 0 ((List.range k).flatMap fun i => (linkB nw i (nth code i)).map (fixMv (becL (linkB nw) code) code i)) = (List.range k).flatMap fun i => (linkR nw i (nth code i)).map (fixIns (becL (linkR nw) code) code i) := by
    intro k hk
    induction k with
    | zero => rfl
    | succ k ih =>
      rw [List.range_succ, List.flatMap_append, List.flatMap_append, fixFrom_append, ih (by omega), hlen k (by omega), Nat.zero_add]
      congr 1
      simp only [List.flatMap_cons, List.flatMap_nil, List.append_nil]
      exact link_group nw code k
  unfold movedL linkL putL putUpto
  rw [key _ (Nat.le_refl _)]
  simp only [List.flatMap]
  congr 1
  apply List.map_congr_left
  intro i hi
  rw [becL_nth _ _ _ (by simpa using hi)]

set_option maxRecDepth 100000 in
set_option maxHeartbeats 8000000 in
theorem link_kl (code : Ls (Ls Ins)) (words : Ls Int) (locks regs : Int) (W : World) (hcode : code.At W) (hwords : words.At W) (hok : OkPg (pgOf code words locks regs)) (hr : regs ≤ 6) (hs : (words.l.length : Int) + locks ≤ 64) :
    Rets Try.prog 31 [.agg #[code.v, words.v, .int .i64 locks, .int .i64 regs]] W (fun v w' => ((∀ j, j < code.l.length → (linkL words.l.length (nth code.l j).l).length ≤ 400) ∧ ∃ (c : Ls (Ls Ins)) (u : Ls Int), v = .tuple #[.agg #[c.v, u.v, .int .i64 0, .int .i64 8], .agg #[.int .i64 0, .int .i64 0, .int .i64 0]] ∧ c.l.map (·.l) = (code.l.map (·.l)).map (linkL words.l.length) ∧ u.l = words.l ++ List.replicate locks.toNat 0 ∧ Sh0 W w' [.deep 64 c, .own 3 u]) ∨ ∃ k : Nat, k < code.l.length ∧ 400 < (linkL words.l.length (nth code.l k).l).length ∧ (∀ j, j < k → (linkL words.l.length (nth code.l j).l).length ≤ 400) ∧ v = .tuple #[.agg #[.slice none 0 0, .slice none 0 0, .int .i64 0, .int .i64 0], (⟨1, k, 0⟩ : Flt).val] ∧ Sh0 W w' []) := by
 have hz := checkG_ok hok
 obtain ⟨hl1, hl2, hl3, hl4', hl5, hl6, hl7⟩ := ok_len hok
 refine x_enter (N := 91) Try.func31 rfl Try.ntmps31 (Nat.le_of_ble_eq_true rfl) fun a1 hf1 => ?_
 have h1 : St 91 (fun _ => False) W a1 W [(0, .agg #[code.v, words.v, .int .i64 locks, .int .i64 regs])] [.at_ code, .at_ words] := ⟨hf1.sub ⟨rfl, trivial⟩, Sh0.ext2 hcode hwords⟩
 clear hf1
 refine wp_seq_k fun K2 hK2 => wp_region_lit <| wl_ex (x_box (cs := [code.v, words.v, .int .i64 locks, .int .i64 regs]) h1 rfl rfl rfl rfl rfl) (wanted_none rfl _) ?_
 rintro a3 w3 ⟨b3, h3⟩; clear h1
 refine wl_ex (x_alloc h3 ti_28 rfl rfl rfl) (wanted_none rfl _) ?_
 rintro a4 w4 ⟨b4, h4⟩; clear h3
 refine wl_ex (x_alloc h4 ti_31 rfl rfl rfl) (wanted_none rfl _) ?_
 rintro a5 w5 ⟨b5, h5⟩; clear h4
 refine wpList_nil <| hK2 _ _ <| wp_seq_k fun K6 hK6 => wp_seq_k fun K7 hK7 => wp_region_lit <| wv h5 (r_ldbw (i := 2) (vs := [code.v, words.v, .int .i64 locks, .int .i64 regs]) ti_28 rfl rfl rfl rfl rfl) rfl rfl fun a8 h8 => wl_ex (x_call h8 bd_19 rfl rfl rfl rfl rfl (asmCheck_c (code := code) (words := words) (locks := locks) (regs := regs) (h8.sh.at 3 rfl) (h8.sh.at 4 rfl))) (wanted_none rfl _) ?_; clear h5
 rintro a9 w9 ⟨_, ⟨rfl, hs9⟩, hf9⟩
 have h9 : St 91 (fun _ => False) W a9 w9 _ _ := ⟨hf9, h8.sh.call0 hs9⟩
 clear hf9 hs9
 clear h8
 refine wl_ex (x_alloc h9 ti_31 rfl rfl rfl) (wanted_none rfl _) ?_
 rintro a10 w10 ⟨b10, h10⟩; clear h9
 refine wl_ex (x_stb (i := 0) (vs := [.int .i64 ((checkG (pgOf code words locks regs)).code), .int .i64 ((checkG (pgOf code words locks regs)).thread), .int .i64 ((checkG (pgOf code words locks regs)).at_)]) (cs' := [.int .i64 ((checkG (pgOf code words locks regs)).code), .int .i64 ((checkG (pgOf code words locks regs)).thread), .int .i64 ((checkG (pgOf code words locks regs)).at_)]) h10 ti_31 rfl rfl rfl rfl rfl rfl rfl (allOne_cons rfl (allOne_cons rfl (allOne_cons rfl allOne_nil))) (Nat.le_of_ble_eq_true rfl) rfl) (wanted_none rfl _) ?_
 rintro a11 w11 h11
 clear h10
 refine wpList_nil <| hK7 _ _ <| wp_seq_k fun K12 hK12 => wp_region_lit <| wv h11 (r_fieldB (r := 0) fl_31_0 rfl rfl rfl) rfl rfl fun a13 h13 => wv h13 (r_ldb (i := 0) ti_22 rfl rfl rfl rfl) rfl rfl fun a14 h14 => wv h14 (r_neqI (p := (checkG (pgOf code words locks regs)).code) (q := 0) rfl rfl rfl) rfl rfl fun a15 h15 => wpList_nil <| hK12 _ _ <| x_condF h15 rfl (by rw [hz]; rfl) ?_; clear h11 h13 h14
 refine wp_skip <| hK6 _ _ <| wp_seq_k fun K16 hK16 => wp_seq_k fun K17 hK17 => wp_region_lit <| wv h15 (r_fieldB (r := 3) fl_28_3 rfl rfl rfl) rfl rfl fun a18 h18 => wv h18 (r_ldb (i := 3) ti_3 rfl rfl rfl rfl) rfl rfl fun a19 h19 => wv h19 (r_gtrI (p := regs) (q := 6) rfl rfl rfl) rfl rfl fun a20 h20 => wpList_nil <| hK17 _ _ <| x_condF h20 rfl (decide_eq_false (by omega)) <| wp_skip <| hK16 _ _ <| wp_seq_k fun K21 hK21 => ?_; clear h15 h18 h19
 refine wp_seq_k fun K22 hK22 => wp_region_lit <| wv h20 (r_fieldB (r := 1) fl_28_1 rfl rfl rfl) rfl rfl fun a23 h23 => wv h23 (r_ldb (i := 3) ti_24 rfl rfl rfl rfl) rfl rfl fun a24 h24 => ?_; clear h20 h23
 have hl25 : words.l.length ≤ 140737488355328 := (h24.sh.at 5 rfl).len
 refine wv h24 (r_len (s := words) (n := words.l.length) sl_24 rfl rfl (fun w h => (h.at 5 rfl)) rfl) rfl rfl fun a26 h26 => wv h26 (r_fieldB (r := 2) fl_28_2 rfl rfl rfl) rfl rfl fun a27 h27 => wv h27 (r_ldb (i := 3) ti_3 rfl rfl rfl rfl) rfl rfl fun a28 h28 => wv h28 (r_addI (p := ((words.l.length : Nat) : Int)) (q := locks) rfl rfl rfl (show -9223372036854775808 ≤ ((words.l.length : Nat) : Int) + locks ∧ ((words.l.length : Nat) : Int) + locks < 9223372036854775808 from (by omega))) rfl rfl fun a29 h29 => wv h29 (r_gtrI (p := ((words.l.length : Nat) : Int) + locks) (q := 64) rfl rfl rfl) rfl rfl fun a30 h30 => wpList_nil <| hK22 _ _ <| x_condF h30 rfl (decide_eq_false (by omega)) <| wp_skip <| hK21 _ _ <| wp_seq_k fun K31 hK31 => ?_; clear h24 h26 h27 h28 h29
 have h32 : St 91 (fun _ => False) W a30 w11 [(0, .agg #[code.v, words.v, .int .i64 locks, .int .i64 regs]), (1, .pointer (some ⟨b3, 0, none⟩)), (2, .pointer (some ⟨b4, 0, none⟩)), (3, .pointer (some ⟨b5, 0, none⟩)), (4, .pointer (some ⟨b10, 0, none⟩)), (11, .agg #[code.v, words.v, .int .i64 locks, .int .i64 regs]), (12, .agg #[.int .i64 ((checkG (pgOf code words locks regs)).code), .int .i64 ((checkG (pgOf code words locks regs)).thread), .int .i64 ((checkG (pgOf code words locks regs)).at_)]), (13, .pointer (some ⟨b10, 0, none⟩)), (14, .int .i64 ((checkG (pgOf code words locks regs)).code)), (15, .bool (decide ((checkG (pgOf code words locks regs)).code ≠ 0))), (18, .pointer (some ⟨b3, 3, none⟩)), (19, .int .i64 regs), (20, .bool (decide (6 < regs))), (23, .pointer (some ⟨b3, 1, none⟩)), (24, words.v), (25, .int .i64 ((words.l.length : Nat) : Int)), (26, .pointer (some ⟨b3, 2, none⟩)), (27, .int .i64 locks), (28, .int .i64 (((words.l.length : Nat) : Int) + locks)), (29, .bool (decide (64 < ((words.l.length : Nat) : Int) + locks)))] [.blk b10 31 [.int .i64 ((checkG (pgOf code words locks regs)).code), .int .i64 ((checkG (pgOf code words locks regs)).thread), .int .i64 ((checkG (pgOf code words locks regs)).at_)], .blk b5 31 [.int .i64 0, .int .i64 0, .int .i64 0], .blk b4 28 [(.slice none 0 0), (.slice none 0 0), .int .i64 0, .int .i64 0], .blk b3 28 [code.v, words.v, .int .i64 locks, .int .i64 regs], .at_ code, .at_ words] := h30.nrm ⟨rfl, rfl, rfl, rfl, rfl, rfl, rfl, rfl, rfl, rfl, rfl, rfl, rfl, rfl, rfl, rfl, rfl, rfl, rfl, rfl, trivial⟩ [0, 1, 2, 3, 4, 5] (by decide) ⟨rfl, rfl, rfl, rfl, rfl, rfl, trivial⟩
 clear h30
 refine x_any (fun S a w => (S 2 = false ∧ S 5 = false ∧ S 7 = false ∧ S 8 = false ∧ FrI 91 S [(0, .agg #[code.v, words.v, .int .i64 locks, .int .i64 regs]), (1, .pointer (some ⟨b3, 0, none⟩)), (2, .pointer (some ⟨b4, 0, none⟩)), (3, .pointer (some ⟨b5, 0, none⟩)), (4, .pointer (some ⟨b10, 0, none⟩)), (11, .agg #[code.v, words.v, .int .i64 locks, .int .i64 regs]), (12, .agg #[.int .i64 ((checkG (pgOf code words locks regs)).code), .int .i64 ((checkG (pgOf code words locks regs)).thread), .int .i64 ((checkG (pgOf code words locks regs)).at_)]), (13, .pointer (some ⟨b10, 0, none⟩)), (14, .int .i64 ((checkG (pgOf code words locks regs)).code)), (15, .bool (decide ((checkG (pgOf code words locks regs)).code ≠ 0))), (18, .pointer (some ⟨b3, 3, none⟩)), (19, .int .i64 regs), (20, .bool (decide (6 < regs))), (23, .pointer (some ⟨b3, 1, none⟩)), (24, words.v), (25, .int .i64 ((words.l.length : Nat) : Int)), (26, .pointer (some ⟨b3, 2, none⟩)), (27, .int .i64 locks), (28, .int .i64 (((words.l.length : Nat) : Int) + locks)), (29, .bool (decide (64 < ((words.l.length : Nat) : Int) + locks)))] [(0, 32, .pointer (some ⟨b3, 1, none⟩)), (1, 33, words.v), (3, 35, .pointer (some ⟨b3, 2, none⟩)), (4, 36, .int .i64 locks)] a ∧ Sh (fun _ => False) W w [.blk b10 31 [.int .i64 ((checkG (pgOf code words locks regs)).code), .int .i64 ((checkG (pgOf code words locks regs)).thread), .int .i64 ((checkG (pgOf code words locks regs)).at_)], .blk b5 31 [.int .i64 0, .int .i64 0, .int .i64 0], .blk b4 28 [(.slice none 0 0), (.slice none 0 0), .int .i64 0, .int .i64 0], .blk b3 28 [code.v, words.v, .int .i64 locks, .int .i64 regs], .at_ code, .at_ words]) ∨ (S 2 = true ∧ S 5 = false ∧ S 7 = false ∧ S 8 = false ∧ ∃ (s7002 : Ls Int), FrI 91 S [(0, .agg #[code.v, words.v, .int .i64 locks, .int .i64 regs]), (1, .pointer (some ⟨b3, 0, none⟩)), (2, .pointer (some ⟨b4, 0, none⟩)), (3, .pointer (some ⟨b5, 0, none⟩)), (4, .pointer (some ⟨b10, 0, none⟩)), (11, .agg #[code.v, words.v, .int .i64 locks, .int .i64 regs]), (12, .agg #[.int .i64 ((checkG (pgOf code words locks regs)).code), .int .i64 ((checkG (pgOf code words locks regs)).thread), .int .i64 ((checkG (pgOf code words locks regs)).at_)]), (13, .pointer (some ⟨b10, 0, none⟩)), (14, .int .i64 ((checkG (pgOf code words locks regs)).code)), (15, .bool (decide ((checkG (pgOf code words locks regs)).code ≠ 0))), (18, .pointer (some ⟨b3, 3, none⟩)), (19, .int .i64 regs), (20, .bool (decide (6 < regs))), (23, .pointer (some ⟨b3, 1, none⟩)), (24, words.v), (25, .int .i64 ((words.l.length : Nat) : Int)), (26, .pointer (some ⟨b3, 2, none⟩)), (27, .int .i64 locks), (28, .int .i64 (((words.l.length : Nat) : Int) + locks)), (29, .bool (decide (64 < ((words.l.length : Nat) : Int) + locks)))] [(0, 32, .pointer (some ⟨b3, 1, none⟩)), (1, 33, words.v), (2, 34, s7002.v), (3, 35, .pointer (some ⟨b3, 2, none⟩)), (4, 36, .int .i64 locks)] a ∧ Sh (fun _ => False) W w [.own 3 (⟨s7002.v, words.l⟩ : Ls Int), .blk b10 31 [.int .i64 ((checkG (pgOf code words locks regs)).code), .int .i64 ((checkG (pgOf code words locks regs)).thread), .int .i64 ((checkG (pgOf code words locks regs)).at_)], .blk b5 31 [.int .i64 0, .int .i64 0, .int .i64 0], .blk b4 28 [(.slice none 0 0), (.slice none 0 0), .int .i64 0, .int .i64 0], .blk b3 28 [code.v, words.v, .int .i64 locks, .int .i64 regs], .at_ code, .at_ words]) ∨ (S 2 = false ∧ S 5 = false ∧ S 7 = true ∧ S 8 = false ∧ ∃ (b7007 : Nat), FrI 91 S [(0, .agg #[code.v, words.v, .int .i64 locks, .int .i64 regs]), (1, .pointer (some ⟨b3, 0, none⟩)), (2, .pointer (some ⟨b4, 0, none⟩)), (3, .pointer (some ⟨b5, 0, none⟩)), (4, .pointer (some ⟨b10, 0, none⟩)), (11, .agg #[code.v, words.v, .int .i64 locks, .int .i64 regs]), (12, .agg #[.int .i64 ((checkG (pgOf code words locks regs)).code), .int .i64 ((checkG (pgOf code words locks regs)).thread), .int .i64 ((checkG (pgOf code words locks regs)).at_)]), (13, .pointer (some ⟨b10, 0, none⟩)), (14, .int .i64 ((checkG (pgOf code words locks regs)).code)), (15, .bool (decide ((checkG (pgOf code words locks regs)).code ≠ 0))), (18, .pointer (some ⟨b3, 3, none⟩)), (19, .int .i64 regs), (20, .bool (decide (6 < regs))), (23, .pointer (some ⟨b3, 1, none⟩)), (24, words.v), (25, .int .i64 ((words.l.length : Nat) : Int)), (26, .pointer (some ⟨b3, 2, none⟩)), (27, .int .i64 locks), (28, .int .i64 (((words.l.length : Nat) : Int) + locks)), (29, .bool (decide (64 < ((words.l.length : Nat) : Int) + locks)))] [(0, 32, .pointer (some ⟨b3, 1, none⟩)), (1, 33, words.v), (3, 35, .pointer (some ⟨b3, 2, none⟩)), (4, 36, .int .i64 locks), (7, 5, .pointer (some ⟨b7007, 0, none⟩))] a ∧ Sh (fun _ => False) W w [.blk b7007 28 [(.slice none 0 0), (.slice none 0 0), .int .i64 0, .int .i64 0], .blk b10 31 [.int .i64 ((checkG (pgOf code words locks regs)).code), .int .i64 ((checkG (pgOf code words locks regs)).thread), .int .i64 ((checkG (pgOf code words locks regs)).at_)], .blk b5 31 [.int .i64 0, .int .i64 0, .int .i64 0], .blk b4 28 [(.slice none 0 0), (.slice none 0 0), .int .i64 0, .int .i64 0], .blk b3 28 [code.v, words.v, .int .i64 locks, .int .i64 regs], .at_ code, .at_ words]) ∨ (S 2 = true ∧ S 5 = true ∧ S 7 = false ∧ S 8 = false ∧ ∃ (s7002 : Ls Int) (v7005 : Value), FrI 91 S [(0, .agg #[code.v, words.v, .int .i64 locks, .int .i64 regs]), (1, .pointer (some ⟨b3, 0, none⟩)), (2, .pointer (some ⟨b4, 0, none⟩)), (3, .pointer (some ⟨b5, 0, none⟩)), (4, .pointer (some ⟨b10, 0, none⟩)), (11, .agg #[code.v, words.v, .int .i64 locks, .int .i64 regs]), (12, .agg #[.int .i64 ((checkG (pgOf code words locks regs)).code), .int .i64 ((checkG (pgOf code words locks regs)).thread), .int .i64 ((checkG (pgOf code words locks regs)).at_)]), (13, .pointer (some ⟨b10, 0, none⟩)), (14, .int .i64 ((checkG (pgOf code words locks regs)).code)), (15, .bool (decide ((checkG (pgOf code words locks regs)).code ≠ 0))), (18, .pointer (some ⟨b3, 3, none⟩)), (19, .int .i64 regs), (20, .bool (decide (6 < regs))), (23, .pointer (some ⟨b3, 1, none⟩)), (24, words.v), (25, .int .i64 ((words.l.length : Nat) : Int)), (26, .pointer (some ⟨b3, 2, none⟩)), (27, .int .i64 locks), (28, .int .i64 (((words.l.length : Nat) : Int) + locks)), (29, .bool (decide (64 < ((words.l.length : Nat) : Int) + locks)))] [(0, 32, .pointer (some ⟨b3, 1, none⟩)), (1, 33, words.v), (2, 34, s7002.v), (3, 35, .pointer (some ⟨b3, 2, none⟩)), (4, 36, .int .i64 locks), (5, 37, v7005), (6, 38, .agg #[(.slice none 0 0), v7005, .int .i64 0, .int .i64 8])] a ∧ Sh (fun _ => False) W w [.own 3 (⟨v7005, words.l ++ List.replicate locks.toNat 0⟩ : Ls Int), .blk b10 31 [.int .i64 ((checkG (pgOf code words locks regs)).code), .int .i64 ((checkG (pgOf code words locks regs)).thread), .int .i64 ((checkG (pgOf code words locks regs)).at_)], .blk b5 31 [.int .i64 0, .int .i64 0, .int .i64 0], .blk b4 28 [(.slice none 0 0), (.slice none 0 0), .int .i64 0, .int .i64 0], .blk b3 28 [code.v, words.v, .int .i64 locks, .int .i64 regs], .at_ code, .at_ words]) ∨ (S 2 = true ∧ S 5 = false ∧ S 7 = true ∧ S 8 = false ∧ ∃ (s7002 : Ls Int) (b7007 : Nat), FrI 91 S [(0, .agg #[code.v, words.v, .int .i64 locks, .int .i64 regs]), (1, .pointer (some ⟨b3, 0, none⟩)), (2, .pointer (some ⟨b4, 0, none⟩)), (3, .pointer (some ⟨b5, 0, none⟩)), (4, .pointer (some ⟨b10, 0, none⟩)), (11, .agg #[code.v, words.v, .int .i64 locks, .int .i64 regs]), (12, .agg #[.int .i64 ((checkG (pgOf code words locks regs)).code), .int .i64 ((checkG (pgOf code words locks regs)).thread), .int .i64 ((checkG (pgOf code words locks regs)).at_)]), (13, .pointer (some ⟨b10, 0, none⟩)), (14, .int .i64 ((checkG (pgOf code words locks regs)).code)), (15, .bool (decide ((checkG (pgOf code words locks regs)).code ≠ 0))), (18, .pointer (some ⟨b3, 3, none⟩)), (19, .int .i64 regs), (20, .bool (decide (6 < regs))), (23, .pointer (some ⟨b3, 1, none⟩)), (24, words.v), (25, .int .i64 ((words.l.length : Nat) : Int)), (26, .pointer (some ⟨b3, 2, none⟩)), (27, .int .i64 locks), (28, .int .i64 (((words.l.length : Nat) : Int) + locks)), (29, .bool (decide (64 < ((words.l.length : Nat) : Int) + locks)))] [(0, 32, .pointer (some ⟨b3, 1, none⟩)), (1, 33, words.v), (2, 34, s7002.v), (3, 35, .pointer (some ⟨b3, 2, none⟩)), (4, 36, .int .i64 locks), (7, 5, .pointer (some ⟨b7007, 0, none⟩))] a ∧ Sh (fun _ => False) W w [.blk b7007 28 [(.slice none 0 0), (.slice none 0 0), .int .i64 0, .int .i64 0], .own 3 (⟨s7002.v, words.l⟩ : Ls Int), .blk b10 31 [.int .i64 ((checkG (pgOf code words locks regs)).code), .int .i64 ((checkG (pgOf code words locks regs)).thread), .int .i64 ((checkG (pgOf code words locks regs)).at_)], .blk b5 31 [.int .i64 0, .int .i64 0, .int .i64 0], .blk b4 28 [(.slice none 0 0), (.slice none 0 0), .int .i64 0, .int .i64 0], .blk b3 28 [code.v, words.v, .int .i64 locks, .int .i64 regs], .at_ code, .at_ words]) ∨ (S 2 = true ∧ S 5 = true ∧ S 7 = true ∧ S 8 = false ∧ ∃ (s7002 : Ls Int) (v7005 : Value) (b7007 : Nat), FrI 91 S [(0, .agg #[code.v, words.v, .int .i64 locks, .int .i64 regs]), (1, .pointer (some ⟨b3, 0, none⟩)), (2, .pointer (some ⟨b4, 0, none⟩)), (3, .pointer (some ⟨b5, 0, none⟩)), (4, .pointer (some ⟨b10, 0, none⟩)), (11, .agg #[code.v, words.v, .int .i64 locks, .int .i64 regs]), (12, .agg #[.int .i64 ((checkG (pgOf code words locks regs)).code), .int .i64 ((checkG (pgOf code words locks regs)).thread), .int .i64 ((checkG (pgOf code words locks regs)).at_)]), (13, .pointer (some ⟨b10, 0, none⟩)), (14, .int .i64 ((checkG (pgOf code words locks regs)).code)), (15, .bool (decide ((checkG (pgOf code words locks regs)).code ≠ 0))), (18, .pointer (some ⟨b3, 3, none⟩)), (19, .int .i64 regs), (20, .bool (decide (6 < regs))), (23, .pointer (some ⟨b3, 1, none⟩)), (24, words.v), (25, .int .i64 ((words.l.length : Nat) : Int)), (26, .pointer (some ⟨b3, 2, none⟩)), (27, .int .i64 locks), (28, .int .i64 (((words.l.length : Nat) : Int) + locks)), (29, .bool (decide (64 < ((words.l.length : Nat) : Int) + locks)))] [(0, 32, .pointer (some ⟨b3, 1, none⟩)), (1, 33, words.v), (2, 34, s7002.v), (3, 35, .pointer (some ⟨b3, 2, none⟩)), (4, 36, .int .i64 locks), (5, 37, v7005), (6, 38, .agg #[(.slice none 0 0), v7005, .int .i64 0, .int .i64 8]), (7, 5, .pointer (some ⟨b7007, 0, none⟩))] a ∧ Sh (fun _ => False) W w [.blk b7007 28 [(.slice none 0 0), (.slice none 0 0), .int .i64 0, .int .i64 0], .own 3 (⟨v7005, words.l ++ List.replicate locks.toNat 0⟩ : Ls Int), .blk b10 31 [.int .i64 ((checkG (pgOf code words locks regs)).code), .int .i64 ((checkG (pgOf code words locks regs)).thread), .int .i64 ((checkG (pgOf code words locks regs)).at_)], .blk b5 31 [.int .i64 0, .int .i64 0, .int .i64 0], .blk b4 28 [(.slice none 0 0), (.slice none 0 0), .int .i64 0, .int .i64 0], .blk b3 28 [code.v, words.v, .int .i64 locks, .int .i64 regs], .at_ code, .at_ words]) ∨ (S 2 = true ∧ S 5 = true ∧ S 7 = true ∧ S 8 = true ∧ ∃ (s7002 : Ls Int) (v7005 : Value) (b7007 : Nat), FrI 91 S [(0, .agg #[code.v, words.v, .int .i64 locks, .int .i64 regs]), (1, .pointer (some ⟨b3, 0, none⟩)), (2, .pointer (some ⟨b4, 0, none⟩)), (3, .pointer (some ⟨b5, 0, none⟩)), (4, .pointer (some ⟨b10, 0, none⟩)), (11, .agg #[code.v, words.v, .int .i64 locks, .int .i64 regs]), (12, .agg #[.int .i64 ((checkG (pgOf code words locks regs)).code), .int .i64 ((checkG (pgOf code words locks regs)).thread), .int .i64 ((checkG (pgOf code words locks regs)).at_)]), (13, .pointer (some ⟨b10, 0, none⟩)), (14, .int .i64 ((checkG (pgOf code words locks regs)).code)), (15, .bool (decide ((checkG (pgOf code words locks regs)).code ≠ 0))), (18, .pointer (some ⟨b3, 3, none⟩)), (19, .int .i64 regs), (20, .bool (decide (6 < regs))), (23, .pointer (some ⟨b3, 1, none⟩)), (24, words.v), (25, .int .i64 ((words.l.length : Nat) : Int)), (26, .pointer (some ⟨b3, 2, none⟩)), (27, .int .i64 locks), (28, .int .i64 (((words.l.length : Nat) : Int) + locks)), (29, .bool (decide (64 < ((words.l.length : Nat) : Int) + locks)))] [(0, 32, .pointer (some ⟨b3, 1, none⟩)), (1, 33, words.v), (2, 34, s7002.v), (3, 35, .pointer (some ⟨b3, 2, none⟩)), (4, 36, .int .i64 locks), (5, 37, v7005), (6, 38, .agg #[(.slice none 0 0), v7005, .int .i64 0, .int .i64 8]), (7, 5, .pointer (some ⟨b7007, 0, none⟩))] a ∧ Sh (fun _ => False) W w [.blk b7007 28 [(.slice none 0 0), v7005, .int .i64 0, .int .i64 8], .own 3 (⟨v7005, words.l ++ List.replicate locks.toNat 0⟩ : Ls Int), .blk b10 31 [.int .i64 ((checkG (pgOf code words locks regs)).code), .int .i64 ((checkG (pgOf code words locks regs)).thread), .int .i64 ((checkG (pgOf code words locks regs)).at_)], .blk b5 31 [.int .i64 0, .int .i64 0, .int .i64 0], .blk b4 28 [(.slice none 0 0), (.slice none 0 0), .int .i64 0, .int .i64 0], .blk b3 28 [code.v, words.v, .int .i64 locks, .int .i64 regs], .at_ code, .at_ words])) (by kernel_rfl) (by kernel_rfl) (Or.inl (⟨rfl, rfl, rfl, rfl, FrI.start h32.fr, h32.sh.drew⟩)) ?_ ?_
 ·intro S i o ho hSi hcl hdep a w hI
  clear h32
  rcases i with _ | _ | _ | _ | _ | _ | _ | _ | _ | i
  ·
   obtain rfl : _ = o := Option.some.inj ho
   rcases hI with ⟨hw2, hw5, hw7, hw8, hfr, hsh⟩ | ⟨hw2, hw5, hw7, hw8, s7002, hfr, hsh⟩ | ⟨hw2, hw5, hw7, hw8, b7007, hfr, hsh⟩ | ⟨hw2, hw5, hw7, hw8, s7002, v7005, hfr, hsh⟩ | ⟨hw2, hw5, hw7, hw8, s7002, b7007, hfr, hsh⟩ | ⟨hw2, hw5, hw7, hw8, s7002, v7005, b7007, hfr, hsh⟩ | ⟨hw2, hw5, hw7, hw8, s7002, v7005, b7007, hfr, hsh⟩
   ·
    exact sq hfr hfr.fr0 hsh (r_fieldB (r := 1) fl_28_1 rfl rfl rfl) 0 rfl rfl rfl rfl rfl rfl fun a hg => Or.inl (⟨un rfl hw2, un rfl hw5, un rfl hw7, un rfl hw8, hg, hsh⟩)
   ·
    exact no_way (cA hcl 2 0 rfl hw2) hSi
   ·
    exact sq hfr hfr.fr0 hsh (r_fieldB (r := 1) fl_28_1 rfl rfl rfl) 0 rfl rfl rfl rfl rfl rfl fun a hg => Or.inr (Or.inr (Or.inl (⟨un rfl hw2, un rfl hw5, un rfl hw7, un rfl hw8, b7007, hg, hsh⟩)))
   ·
    exact no_way (cA hcl 2 0 rfl hw2) hSi
   ·
    exact no_way (cA hcl 2 0 rfl hw2) hSi
   ·
    exact no_way (cA hcl 2 0 rfl hw2) hSi
   ·
    exact no_way (cA hcl 2 0 rfl hw2) hSi
  ·
   obtain rfl : _ = o := Option.some.inj ho
   have hd0 : S 0 = true := depAt hdep 0 rfl rfl
   rcases hI with ⟨hw2, hw5, hw7, hw8, hfr, hsh⟩ | ⟨hw2, hw5, hw7, hw8, s7002, hfr, hsh⟩ | ⟨hw2, hw5, hw7, hw8, b7007, hfr, hsh⟩ | ⟨hw2, hw5, hw7, hw8, s7002, v7005, hfr, hsh⟩ | ⟨hw2, hw5, hw7, hw8, s7002, b7007, hfr, hsh⟩ | ⟨hw2, hw5, hw7, hw8, s7002, v7005, b7007, hfr, hsh⟩ | ⟨hw2, hw5, hw7, hw8, s7002, v7005, b7007, hfr, hsh⟩
   ·
    exact sq hfr (Fr.cons hfr.fr0 (hfr.at_ 0 0 32 _ rfl hd0)) hsh (r_ldb (i := 3) ti_24 rfl rfl rfl rfl) 1 rfl rfl rfl rfl rfl rfl fun a hg => Or.inl (⟨un rfl hw2, un rfl hw5, un rfl hw7, un rfl hw8, hg, hsh⟩)
   ·
    exact no_way (cA hcl 2 1 rfl hw2) hSi
   ·
    exact sq hfr (Fr.cons hfr.fr0 (hfr.at_ 0 0 32 _ rfl hd0)) hsh (r_ldb (i := 4) ti_24 rfl rfl rfl rfl) 1 rfl rfl rfl rfl rfl rfl fun a hg => Or.inr (Or.inr (Or.inl (⟨un rfl hw2, un rfl hw5, un rfl hw7, un rfl hw8, b7007, hg, hsh⟩)))
   ·
    exact no_way (cA hcl 2 1 rfl hw2) hSi
   ·
    exact no_way (cA hcl 2 1 rfl hw2) hSi
   ·
    exact no_way (cA hcl 2 1 rfl hw2) hSi
   ·
    exact no_way (cA hcl 2 1 rfl hw2) hSi
  ·
   obtain rfl : _ = o := Option.some.inj ho
   have hd1 : S 1 = true := depAt hdep 0 rfl rfl
   rcases hI with ⟨hw2, hw5, hw7, hw8, hfr, hsh⟩ | ⟨hw2, hw5, hw7, hw8, s7002, hfr, hsh⟩ | ⟨hw2, hw5, hw7, hw8, b7007, hfr, hsh⟩ | ⟨hw2, hw5, hw7, hw8, s7002, v7005, hfr, hsh⟩ | ⟨hw2, hw5, hw7, hw8, s7002, b7007, hfr, hsh⟩ | ⟨hw2, hw5, hw7, hw8, s7002, v7005, b7007, hfr, hsh⟩ | ⟨hw2, hw5, hw7, hw8, s7002, v7005, b7007, hfr, hsh⟩
   ·
    have hs := St.mk (Fr.cons hfr.fr0 (hfr.at_ 1 1 33 _ rfl hd1)) hsh
    refine step_ex (x_call hs bd_58 rfl rfl rfl rfl rfl (cloneI_c words _ (hs.sh.at 5 rfl) (by first | omega | (simp only [lens9]; omega)))) (wanted_none rfl _) ?_
    rintro a41 w41 ⟨_, ⟨s41, rfl, hs41⟩, hf41⟩ ⟨v0, ht41⟩
    have h41 := (⟨hf41, hs.sh.call hs41 (by intro A hA b hb; first | (simp at hA; done) | (simp at hA; subst hA; first | exact Flat.noRd hb | exact (hb : False).elim) | (simp at hA; rcases hA with rfl | rfl <;> first | exact Flat.noRd hb | exact (hb : False).elim))⟩ : St 91 (fun _ => False) W a41 w41 _ _)
    clear hf41 hs41
    have hm41 : FrI 91 S [(0, .agg #[code.v, words.v, .int .i64 locks, .int .i64 regs]), (1, .pointer (some ⟨b3, 0, none⟩)), (2, .pointer (some ⟨b4, 0, none⟩)), (3, .pointer (some ⟨b5, 0, none⟩)), (4, .pointer (some ⟨b10, 0, none⟩)), (11, .agg #[code.v, words.v, .int .i64 locks, .int .i64 regs]), (12, .agg #[.int .i64 ((checkG (pgOf code words locks regs)).code), .int .i64 ((checkG (pgOf code words locks regs)).thread), .int .i64 ((checkG (pgOf code words locks regs)).at_)]), (13, .pointer (some ⟨b10, 0, none⟩)), (14, .int .i64 ((checkG (pgOf code words locks regs)).code)), (15, .bool (decide ((checkG (pgOf code words locks regs)).code ≠ 0))), (18, .pointer (some ⟨b3, 3, none⟩)), (19, .int .i64 regs), (20, .bool (decide (6 < regs))), (23, .pointer (some ⟨b3, 1, none⟩)), (24, words.v), (25, .int .i64 ((words.l.length : Nat) : Int)), (26, .pointer (some ⟨b3, 2, none⟩)), (27, .int .i64 locks), (28, .int .i64 (((words.l.length : Nat) : Int) + locks)), (29, .bool (decide (64 < ((words.l.length : Nat) : Int) + locks)))] [(0, 32, .pointer (some ⟨b3, 1, none⟩)), (1, 33, words.v), (2, 34, s41.v), (3, 35, .pointer (some ⟨b3, 2, none⟩)), (4, 36, .int .i64 locks)] a := hfr.more (by
     intro k j d v hk hS
     rcases k with _ | _ | _ | _ | _ | k
     ·obtain ⟨rfl, rfl, rfl⟩ : _ = j ∧ _ = d ∧ _ = v := by simpa using hk
      exact hfr.at_ 0 _ _ _ rfl hS
     ·obtain ⟨rfl, rfl, rfl⟩ : _ = j ∧ _ = d ∧ _ = v := by simpa using hk
      exact hfr.at_ 1 _ _ _ rfl hS
     ·obtain ⟨rfl, rfl, rfl⟩ : _ = j ∧ _ = d ∧ _ = v := by simpa using hk
      exact no_way hS hSi
     ·obtain ⟨rfl, rfl, rfl⟩ : _ = j ∧ _ = d ∧ _ = v := by simpa using hk
      exact hfr.at_ 2 _ _ _ rfl hS
     ·obtain ⟨rfl, rfl, rfl⟩ : _ = j ∧ _ = d ∧ _ = v := by simpa using hk
      exact hfr.at_ 3 _ _ _ rfl hS
     · simp at hk)
    exact Or.inr (Or.inl (⟨upd_self _ _, un rfl hw5, un rfl hw7, un rfl hw8, s41, hm41.step ht41 h41.fr.defers (h41.fr.at_ 34 _ rfl) 2 rfl rfl rfl rfl, (h41.sh.sel (L' := [.own 3 (⟨s41.v, words.l⟩ : Ls Int), .blk b10 31 [.int .i64 ((checkG (pgOf code words locks regs)).code), .int .i64 ((checkG (pgOf code words locks regs)).thread), .int .i64 ((checkG (pgOf code words locks regs)).at_)], .blk b5 31 [.int .i64 0, .int .i64 0, .int .i64 0], .blk b4 28 [(.slice none 0 0), (.slice none 0 0), .int .i64 0, .int .i64 0], .blk b3 28 [code.v, words.v, .int .i64 locks, .int .i64 regs], .at_ code, .at_ words]) [0, 1, 2, 3, 4, 5, 6] (by decide) ⟨rfl, rfl, rfl, rfl, rfl, rfl, rfl, trivial⟩)⟩))
   ·
    exact no_way hw2 hSi
   ·
    have hs := St.mk (Fr.cons hfr.fr0 (hfr.at_ 1 1 33 _ rfl hd1)) hsh
    refine step_ex (x_call hs bd_58 rfl rfl rfl rfl rfl (cloneI_c words _ (hs.sh.at 6 rfl) (by first | omega | (simp only [lens9]; omega)))) (wanted_none rfl _) ?_
    rintro a42 w42 ⟨_, ⟨s42, rfl, hs42⟩, hf42⟩ ⟨v0, ht42⟩
    have h42 := (⟨hf42, hs.sh.call hs42 (by intro A hA b hb; first | (simp at hA; done) | (simp at hA; subst hA; first | exact Flat.noRd hb | exact (hb : False).elim) | (simp at hA; rcases hA with rfl | rfl <;> first | exact Flat.noRd hb | exact (hb : False).elim))⟩ : St 91 (fun _ => False) W a42 w42 _ _)
    clear hf42 hs42
    have hm42 : FrI 91 S [(0, .agg #[code.v, words.v, .int .i64 locks, .int .i64 regs]), (1, .pointer (some ⟨b3, 0, none⟩)), (2, .pointer (some ⟨b4, 0, none⟩)), (3, .pointer (some ⟨b5, 0, none⟩)), (4, .pointer (some ⟨b10, 0, none⟩)), (11, .agg #[code.v, words.v, .int .i64 locks, .int .i64 regs]), (12, .agg #[.int .i64 ((checkG (pgOf code words locks regs)).code), .int .i64 ((checkG (pgOf code words locks regs)).thread), .int .i64 ((checkG (pgOf code words locks regs)).at_)]), (13, .pointer (some ⟨b10, 0, none⟩)), (14, .int .i64 ((checkG (pgOf code words locks regs)).code)), (15, .bool (decide ((checkG (pgOf code words locks regs)).code ≠ 0))), (18, .pointer (some ⟨b3, 3, none⟩)), (19, .int .i64 regs), (20, .bool (decide (6 < regs))), (23, .pointer (some ⟨b3, 1, none⟩)), (24, words.v), (25, .int .i64 ((words.l.length : Nat) : Int)), (26, .pointer (some ⟨b3, 2, none⟩)), (27, .int .i64 locks), (28, .int .i64 (((words.l.length : Nat) : Int) + locks)), (29, .bool (decide (64 < ((words.l.length : Nat) : Int) + locks)))] [(0, 32, .pointer (some ⟨b3, 1, none⟩)), (1, 33, words.v), (2, 34, s42.v), (3, 35, .pointer (some ⟨b3, 2, none⟩)), (4, 36, .int .i64 locks), (7, 5, .pointer (some ⟨b7007, 0, none⟩))] a := hfr.more (by
     intro k j d v hk hS
     rcases k with _ | _ | _ | _ | _ | _ | k
     ·obtain ⟨rfl, rfl, rfl⟩ : _ = j ∧ _ = d ∧ _ = v := by simpa using hk
      exact hfr.at_ 0 _ _ _ rfl hS
     ·obtain ⟨rfl, rfl, rfl⟩ : _ = j ∧ _ = d ∧ _ = v := by simpa using hk
      exact hfr.at_ 1 _ _ _ rfl hS
     ·obtain ⟨rfl, rfl, rfl⟩ : _ = j ∧ _ = d ∧ _ = v := by simpa using hk
      exact no_way hS hSi
     ·obtain ⟨rfl, rfl, rfl⟩ : _ = j ∧ _ = d ∧ _ = v := by simpa using hk
      exact hfr.at_ 2 _ _ _ rfl hS
     ·obtain ⟨rfl, rfl, rfl⟩ : _ = j ∧ _ = d ∧ _ = v := by simpa using hk
      exact hfr.at_ 3 _ _ _ rfl hS
     ·obtain ⟨rfl, rfl, rfl⟩ : _ = j ∧ _ = d ∧ _ = v := by simpa using hk
      exact hfr.at_ 4 _ _ _ rfl hS
     · simp at hk)
    exact Or.inr (Or.inr (Or.inr (Or.inr (Or.inl (⟨upd_self _ _, un rfl hw5, un rfl hw7, un rfl hw8, s42, b7007, hm42.step ht42 h42.fr.defers (h42.fr.at_ 34 _ rfl) 2 rfl rfl rfl rfl, (h42.sh.sel (L' := [.blk b7007 28 [(.slice none 0 0), (.slice none 0 0), .int .i64 0, .int .i64 0], .own 3 (⟨s42.v, words.l⟩ : Ls Int), .blk b10 31 [.int .i64 ((checkG (pgOf code words locks regs)).code), .int .i64 ((checkG (pgOf code words locks regs)).thread), .int .i64 ((checkG (pgOf code words locks regs)).at_)], .blk b5 31 [.int .i64 0, .int .i64 0, .int .i64 0], .blk b4 28 [(.slice none 0 0), (.slice none 0 0), .int .i64 0, .int .i64 0], .blk b3 28 [code.v, words.v, .int .i64 locks, .int .i64 regs], .at_ code, .at_ words]) [1, 0, 2, 3, 4, 5, 6, 7] (by decide) ⟨rfl, rfl, rfl, rfl, rfl, rfl, rfl, rfl, trivial⟩)⟩)))))
   ·
    exact no_way hw2 hSi
   ·
    exact no_way hw2 hSi
   ·
    exact no_way hw2 hSi
   ·
    exact no_way hw2 hSi
  ·
   obtain rfl : _ = o := Option.some.inj ho
   rcases hI with ⟨hw2, hw5, hw7, hw8, hfr, hsh⟩ | ⟨hw2, hw5, hw7, hw8, s7002, hfr, hsh⟩ | ⟨hw2, hw5, hw7, hw8, b7007, hfr, hsh⟩ | ⟨hw2, hw5, hw7, hw8, s7002, v7005, hfr, hsh⟩ | ⟨hw2, hw5, hw7, hw8, s7002, b7007, hfr, hsh⟩ | ⟨hw2, hw5, hw7, hw8, s7002, v7005, b7007, hfr, hsh⟩ | ⟨hw2, hw5, hw7, hw8, s7002, v7005, b7007, hfr, hsh⟩
   ·
    exact sq hfr hfr.fr0 hsh (r_fieldB (r := 2) fl_28_2 rfl rfl rfl) 2 rfl rfl rfl rfl rfl rfl fun a hg => Or.inl (⟨un rfl hw2, un rfl hw5, un rfl hw7, un rfl hw8, hg, hsh⟩)
   ·
    exact sq hfr hfr.fr0 hsh (r_fieldB (r := 2) fl_28_2 rfl rfl rfl) 3 rfl rfl rfl rfl rfl rfl fun a hg => Or.inr (Or.inl (⟨un rfl hw2, un rfl hw5, un rfl hw7, un rfl hw8, s7002, hg, hsh⟩))
   ·
    exact sq hfr hfr.fr0 hsh (r_fieldB (r := 2) fl_28_2 rfl rfl rfl) 2 rfl rfl rfl rfl rfl rfl fun a hg => Or.inr (Or.inr (Or.inl (⟨un rfl hw2, un rfl hw5, un rfl hw7, un rfl hw8, b7007, hg, hsh⟩)))
   ·
    exact no_way (cA hcl 5 3 rfl hw5) hSi
   ·
    exact sq hfr hfr.fr0 hsh (r_fieldB (r := 2) fl_28_2 rfl rfl rfl) 3 rfl rfl rfl rfl rfl rfl fun a hg => Or.inr (Or.inr (Or.inr (Or.inr (Or.inl (⟨un rfl hw2, un rfl hw5, un rfl hw7, un rfl hw8, s7002, b7007, hg, hsh⟩)))))
   ·
    exact no_way (cA hcl 5 3 rfl hw5) hSi
   ·
    exact no_way (cA hcl 5 3 rfl hw5) hSi
  ·
   obtain rfl : _ = o := Option.some.inj ho
   have hd3 : S 3 = true := depAt hdep 0 rfl rfl
   rcases hI with ⟨hw2, hw5, hw7, hw8, hfr, hsh⟩ | ⟨hw2, hw5, hw7, hw8, s7002, hfr, hsh⟩ | ⟨hw2, hw5, hw7, hw8, b7007, hfr, hsh⟩ | ⟨hw2, hw5, hw7, hw8, s7002, v7005, hfr, hsh⟩ | ⟨hw2, hw5, hw7, hw8, s7002, b7007, hfr, hsh⟩ | ⟨hw2, hw5, hw7, hw8, s7002, v7005, b7007, hfr, hsh⟩ | ⟨hw2, hw5, hw7, hw8, s7002, v7005, b7007, hfr, hsh⟩
   ·
    exact sq hfr (Fr.cons hfr.fr0 (hfr.at_ 2 3 35 _ rfl hd3)) hsh (r_ldb (i := 3) ti_3 rfl rfl rfl rfl) 3 rfl rfl rfl rfl rfl rfl fun a hg => Or.inl (⟨un rfl hw2, un rfl hw5, un rfl hw7, un rfl hw8, hg, hsh⟩)
   ·
    exact sq hfr (Fr.cons hfr.fr0 (hfr.at_ 3 3 35 _ rfl hd3)) hsh (r_ldb (i := 4) ti_3 rfl rfl rfl rfl) 4 rfl rfl rfl rfl rfl rfl fun a hg => Or.inr (Or.inl (⟨un rfl hw2, un rfl hw5, un rfl hw7, un rfl hw8, s7002, hg, hsh⟩))
   ·
    exact sq hfr (Fr.cons hfr.fr0 (hfr.at_ 2 3 35 _ rfl hd3)) hsh (r_ldb (i := 4) ti_3 rfl rfl rfl rfl) 3 rfl rfl rfl rfl rfl rfl fun a hg => Or.inr (Or.inr (Or.inl (⟨un rfl hw2, un rfl hw5, un rfl hw7, un rfl hw8, b7007, hg, hsh⟩)))
   ·
    exact no_way (cA hcl 5 4 rfl hw5) hSi
   ·
    exact sq hfr (Fr.cons hfr.fr0 (hfr.at_ 3 3 35 _ rfl hd3)) hsh (r_ldb (i := 5) ti_3 rfl rfl rfl rfl) 4 rfl rfl rfl rfl rfl rfl fun a hg => Or.inr (Or.inr (Or.inr (Or.inr (Or.inl (⟨un rfl hw2, un rfl hw5, un rfl hw7, un rfl hw8, s7002, b7007, hg, hsh⟩)))))
   ·
    exact no_way (cA hcl 5 4 rfl hw5) hSi
   ·
    exact no_way (cA hcl 5 4 rfl hw5) hSi
  ·
   obtain rfl : _ = o := Option.some.inj ho
   have hd2 : S 2 = true := depAt hdep 0 rfl rfl
   have hd4 : S 4 = true := depAt hdep 1 rfl rfl
   rcases hI with ⟨hw2, hw5, hw7, hw8, hfr, hsh⟩ | ⟨hw2, hw5, hw7, hw8, s7002, hfr, hsh⟩ | ⟨hw2, hw5, hw7, hw8, b7007, hfr, hsh⟩ | ⟨hw2, hw5, hw7, hw8, s7002, v7005, hfr, hsh⟩ | ⟨hw2, hw5, hw7, hw8, s7002, b7007, hfr, hsh⟩ | ⟨hw2, hw5, hw7, hw8, s7002, v7005, b7007, hfr, hsh⟩ | ⟨hw2, hw5, hw7, hw8, s7002, v7005, b7007, hfr, hsh⟩
   ·
    exact no_way hd2 hw2
   ·
    have hs := St.mk (Fr.cons (Fr.cons hfr.fr0 (hfr.at_ 2 2 34 _ rfl hd2)) (hfr.at_ 4 4 36 _ rfl hd4)) hsh
    refine step_ex (x_appZI (r := 0) (q := locks) (s := (⟨s7002.v, words.l⟩ : Ls Int)) (0 : Int) hs sl_24 ti_3 Try.underlying3 rfl rfl rfl (show 0 ≤ locks from (by omega)) rfl rfl rfl rfl rfl inferInstance (show (words.l.length + locks.toNat) * 8 ≤ 140737488355328 ∧ words.l.length + locks.toNat ≤ 140737488355328 from (by omega)) rfl rfl) (wanted_none rfl _) ?_
    rintro a51 w51 ⟨v51, h51⟩ ⟨v0, ht51⟩
    have hm51 : FrI 91 S [(0, .agg #[code.v, words.v, .int .i64 locks, .int .i64 regs]), (1, .pointer (some ⟨b3, 0, none⟩)), (2, .pointer (some ⟨b4, 0, none⟩)), (3, .pointer (some ⟨b5, 0, none⟩)), (4, .pointer (some ⟨b10, 0, none⟩)), (11, .agg #[code.v, words.v, .int .i64 locks, .int .i64 regs]), (12, .agg #[.int .i64 ((checkG (pgOf code words locks regs)).code), .int .i64 ((checkG (pgOf code words locks regs)).thread), .int .i64 ((checkG (pgOf code words locks regs)).at_)]), (13, .pointer (some ⟨b10, 0, none⟩)), (14, .int .i64 ((checkG (pgOf code words locks regs)).code)), (15, .bool (decide ((checkG (pgOf code words locks regs)).code ≠ 0))), (18, .pointer (some ⟨b3, 3, none⟩)), (19, .int .i64 regs), (20, .bool (decide (6 < regs))), (23, .pointer (some ⟨b3, 1, none⟩)), (24, words.v), (25, .int .i64 ((words.l.length : Nat) : Int)), (26, .pointer (some ⟨b3, 2, none⟩)), (27, .int .i64 locks), (28, .int .i64 (((words.l.length : Nat) : Int) + locks)), (29, .bool (decide (64 < ((words.l.length : Nat) : Int) + locks)))] [(0, 32, .pointer (some ⟨b3, 1, none⟩)), (1, 33, words.v), (2, 34, s7002.v), (3, 35, .pointer (some ⟨b3, 2, none⟩)), (4, 36, .int .i64 locks), (5, 37, v51), (6, 38, .agg #[(.slice none 0 0), v51, .int .i64 0, .int .i64 8])] a := hfr.more (by
     intro k j d v hk hS
     rcases k with _ | _ | _ | _ | _ | _ | _ | k
     ·obtain ⟨rfl, rfl, rfl⟩ : _ = j ∧ _ = d ∧ _ = v := by simpa using hk
      exact hfr.at_ 0 _ _ _ rfl hS
     ·obtain ⟨rfl, rfl, rfl⟩ : _ = j ∧ _ = d ∧ _ = v := by simpa using hk
      exact hfr.at_ 1 _ _ _ rfl hS
     ·obtain ⟨rfl, rfl, rfl⟩ : _ = j ∧ _ = d ∧ _ = v := by simpa using hk
      exact hfr.at_ 2 _ _ _ rfl hS
     ·obtain ⟨rfl, rfl, rfl⟩ : _ = j ∧ _ = d ∧ _ = v := by simpa using hk
      exact hfr.at_ 3 _ _ _ rfl hS
     ·obtain ⟨rfl, rfl, rfl⟩ : _ = j ∧ _ = d ∧ _ = v := by simpa using hk
      exact hfr.at_ 4 _ _ _ rfl hS
     ·obtain ⟨rfl, rfl, rfl⟩ : _ = j ∧ _ = d ∧ _ = v := by simpa using hk
      exact no_way hS hSi
     ·obtain ⟨rfl, rfl, rfl⟩ : _ = j ∧ _ = d ∧ _ = v := by simpa using hk
      exact no_way (cA hcl 6 5 rfl hS) hSi
     · simp at hk)
    exact Or.inr (Or.inr (Or.inr (Or.inl (⟨un rfl hw2, upd_self _ _, un rfl hw7, un rfl hw8, s7002, v51, hm51.step ht51 h51.fr.defers (h51.fr.at_ 37 _ rfl) 5 rfl rfl rfl rfl, (h51.sh.sel (L' := [.own 3 (⟨v51, words.l ++ List.replicate locks.toNat 0⟩ : Ls Int), .blk b10 31 [.int .i64 ((checkG (pgOf code words locks regs)).code), .int .i64 ((checkG (pgOf code words locks regs)).thread), .int .i64 ((checkG (pgOf code words locks regs)).at_)], .blk b5 31 [.int .i64 0, .int .i64 0, .int .i64 0], .blk b4 28 [(.slice none 0 0), (.slice none 0 0), .int .i64 0, .int .i64 0], .blk b3 28 [code.v, words.v, .int .i64 locks, .int .i64 regs], .at_ code, .at_ words]) [0, 1, 2, 3, 4, 5, 6] (by decide) ⟨rfl, rfl, rfl, rfl, rfl, rfl, rfl, trivial⟩)⟩))))
   ·
    exact no_way hd2 hw2
   ·
    exact no_way hw5 hSi
   ·
    have hs := St.mk (Fr.cons (Fr.cons hfr.fr0 (hfr.at_ 2 2 34 _ rfl hd2)) (hfr.at_ 4 4 36 _ rfl hd4)) hsh
    refine step_ex (x_appZI (r := 1) (q := locks) (s := (⟨s7002.v, words.l⟩ : Ls Int)) (0 : Int) hs sl_24 ti_3 Try.underlying3 rfl rfl rfl (show 0 ≤ locks from (by omega)) rfl rfl rfl rfl rfl inferInstance (show (words.l.length + locks.toNat) * 8 ≤ 140737488355328 ∧ words.l.length + locks.toNat ≤ 140737488355328 from (by omega)) rfl rfl) (wanted_none rfl _) ?_
    rintro a52 w52 ⟨v52, h52⟩ ⟨v0, ht52⟩
    have hm52 : FrI 91 S [(0, .agg #[code.v, words.v, .int .i64 locks, .int .i64 regs]), (1, .pointer (some ⟨b3, 0, none⟩)), (2, .pointer (some ⟨b4, 0, none⟩)), (3, .pointer (some ⟨b5, 0, none⟩)), (4, .pointer (some ⟨b10, 0, none⟩)), (11, .agg #[code.v, words.v, .int .i64 locks, .int .i64 regs]), (12, .agg #[.int .i64 ((checkG (pgOf code words locks regs)).code), .int .i64 ((checkG (pgOf code words locks regs)).thread), .int .i64 ((checkG (pgOf code words locks regs)).at_)]), (13, .pointer (some ⟨b10, 0, none⟩)), (14, .int .i64 ((checkG (pgOf code words locks regs)).code)), (15, .bool (decide ((checkG (pgOf code words locks regs)).code ≠ 0))), (18, .pointer (some ⟨b3, 3, none⟩)), (19, .int .i64 regs), (20, .bool (decide (6 < regs))), (23, .pointer (some ⟨b3, 1, none⟩)), (24, words.v), (25, .int .i64 ((words.l.length : Nat) : Int)), (26, .pointer (some ⟨b3, 2, none⟩)), (27, .int .i64 locks), (28, .int .i64 (((words.l.length : Nat) : Int) + locks)), (29, .bool (decide (64 < ((words.l.length : Nat) : Int) + locks)))] [(0, 32, .pointer (some ⟨b3, 1, none⟩)), (1, 33, words.v), (2, 34, s7002.v), (3, 35, .pointer (some ⟨b3, 2, none⟩)), (4, 36, .int .i64 locks), (5, 37, v52), (6, 38, .agg #[(.slice none 0 0), v52, .int .i64 0, .int .i64 8]), (7, 5, .pointer (some ⟨b7007, 0, none⟩))] a := hfr.more (by
     intro k j d v hk hS
     rcases k with _ | _ | _ | _ | _ | _ | _ | _ | k
     ·obtain ⟨rfl, rfl, rfl⟩ : _ = j ∧ _ = d ∧ _ = v := by simpa using hk
      exact hfr.at_ 0 _ _ _ rfl hS
     ·obtain ⟨rfl, rfl, rfl⟩ : _ = j ∧ _ = d ∧ _ = v := by simpa using hk
      exact hfr.at_ 1 _ _ _ rfl hS
     ·obtain ⟨rfl, rfl, rfl⟩ : _ = j ∧ _ = d ∧ _ = v := by simpa using hk
      exact hfr.at_ 2 _ _ _ rfl hS
     ·obtain ⟨rfl, rfl, rfl⟩ : _ = j ∧ _ = d ∧ _ = v := by simpa using hk
      exact hfr.at_ 3 _ _ _ rfl hS
     ·obtain ⟨rfl, rfl, rfl⟩ : _ = j ∧ _ = d ∧ _ = v := by simpa using hk
      exact hfr.at_ 4 _ _ _ rfl hS
     ·obtain ⟨rfl, rfl, rfl⟩ : _ = j ∧ _ = d ∧ _ = v := by simpa using hk
      exact no_way hS hSi
     ·obtain ⟨rfl, rfl, rfl⟩ : _ = j ∧ _ = d ∧ _ = v := by simpa using hk
      exact no_way (cA hcl 6 5 rfl hS) hSi
     ·obtain ⟨rfl, rfl, rfl⟩ : _ = j ∧ _ = d ∧ _ = v := by simpa using hk
      exact hfr.at_ 5 _ _ _ rfl hS
     · simp at hk)
    exact Or.inr (Or.inr (Or.inr (Or.inr (Or.inr (Or.inl (⟨un rfl hw2, upd_self _ _, un rfl hw7, un rfl hw8, s7002, v52, b7007, hm52.step ht52 h52.fr.defers (h52.fr.at_ 37 _ rfl) 5 rfl rfl rfl rfl, (h52.sh.sel (L' := [.blk b7007 28 [(.slice none 0 0), (.slice none 0 0), .int .i64 0, .int .i64 0], .own 3 (⟨v52, words.l ++ List.replicate locks.toNat 0⟩ : Ls Int), .blk b10 31 [.int .i64 ((checkG (pgOf code words locks regs)).code), .int .i64 ((checkG (pgOf code words locks regs)).thread), .int .i64 ((checkG (pgOf code words locks regs)).at_)], .blk b5 31 [.int .i64 0, .int .i64 0, .int .i64 0], .blk b4 28 [(.slice none 0 0), (.slice none 0 0), .int .i64 0, .int .i64 0], .blk b3 28 [code.v, words.v, .int .i64 locks, .int .i64 regs], .at_ code, .at_ words]) [0, 1, 2, 3, 4, 5, 6, 7] (by decide) ⟨rfl, rfl, rfl, rfl, rfl, rfl, rfl, rfl, trivial⟩)⟩))))))
   ·
    exact no_way hw5 hSi
   ·
    exact no_way hw5 hSi
  ·
   obtain rfl : _ = o := Option.some.inj ho
   have hd5 : S 5 = true := depAt hdep 0 rfl rfl
   rcases hI with ⟨hw2, hw5, hw7, hw8, hfr, hsh⟩ | ⟨hw2, hw5, hw7, hw8, s7002, hfr, hsh⟩ | ⟨hw2, hw5, hw7, hw8, b7007, hfr, hsh⟩ | ⟨hw2, hw5, hw7, hw8, s7002, v7005, hfr, hsh⟩ | ⟨hw2, hw5, hw7, hw8, s7002, b7007, hfr, hsh⟩ | ⟨hw2, hw5, hw7, hw8, s7002, v7005, b7007, hfr, hsh⟩ | ⟨hw2, hw5, hw7, hw8, s7002, v7005, b7007, hfr, hsh⟩
   ·
    exact no_way (cA hcl 5 2 rfl hd5) hw2
   ·
    exact no_way hd5 hw5
   ·
    exact no_way (cA hcl 5 2 rfl hd5) hw2
   ·
    have hs := St.mk (Fr.cons hfr.fr0 (hfr.at_ 5 5 37 _ rfl hd5)) hsh
    exact sq hfr (Fr.cons hfr.fr0 (hfr.at_ 5 5 37 _ rfl hd5)) hsh (r_build (cs := [(.slice none 0 0), v7005, .int .i64 0, .int .i64 8]) rfl rfl (by obtain ⟨A53, n53, c53, (e53 : v7005 = _)⟩ := ((hs.sh.own 0 rfl)).form; rw [e53]; kernel_rfl)) 6 rfl rfl rfl rfl rfl rfl fun a hg => Or.inr (Or.inr (Or.inr (Or.inl (⟨un rfl hw2, un rfl hw5, un rfl hw7, un rfl hw8, s7002, v7005, hg, hsh⟩))))
   ·
    exact no_way hd5 hw5
   ·
    have hs := St.mk (Fr.cons hfr.fr0 (hfr.at_ 5 5 37 _ rfl hd5)) hsh
    exact sq hfr (Fr.cons hfr.fr0 (hfr.at_ 5 5 37 _ rfl hd5)) hsh (r_build (cs := [(.slice none 0 0), v7005, .int .i64 0, .int .i64 8]) rfl rfl (by obtain ⟨A55, n55, c55, (e55 : v7005 = _)⟩ := ((hs.sh.own 1 rfl)).form; rw [e55]; kernel_rfl)) 6 rfl rfl rfl rfl rfl rfl fun a hg => Or.inr (Or.inr (Or.inr (Or.inr (Or.inr (Or.inl (⟨un rfl hw2, un rfl hw5, un rfl hw7, un rfl hw8, s7002, v7005, b7007, hg, hsh⟩))))))
   ·
    exact no_way (cA hcl 8 6 rfl hw8) hSi
  ·
   obtain rfl : _ = o := Option.some.inj ho
   rcases hI with ⟨hw2, hw5, hw7, hw8, hfr, hsh⟩ | ⟨hw2, hw5, hw7, hw8, s7002, hfr, hsh⟩ | ⟨hw2, hw5, hw7, hw8, b7007, hfr, hsh⟩ | ⟨hw2, hw5, hw7, hw8, s7002, v7005, hfr, hsh⟩ | ⟨hw2, hw5, hw7, hw8, s7002, b7007, hfr, hsh⟩ | ⟨hw2, hw5, hw7, hw8, s7002, v7005, b7007, hfr, hsh⟩ | ⟨hw2, hw5, hw7, hw8, s7002, v7005, b7007, hfr, hsh⟩
   ·
    have hs := St.mk hfr.fr0 hsh
    refine step_ex (x_alloc hs ti_28 rfl rfl rfl) (wanted_none rfl _) ?_
    rintro a57 w57 ⟨b57, h57⟩ ⟨v0, ht57⟩
    have hm57 : FrI 91 S [(0, .agg #[code.v, words.v, .int .i64 locks, .int .i64 regs]), (1, .pointer (some ⟨b3, 0, none⟩)), (2, .pointer (some ⟨b4, 0, none⟩)), (3, .pointer (some ⟨b5, 0, none⟩)), (4, .pointer (some ⟨b10, 0, none⟩)), (11, .agg #[code.v, words.v, .int .i64 locks, .int .i64 regs]), (12, .agg #[.int .i64 ((checkG (pgOf code words locks regs)).code), .int .i64 ((checkG (pgOf code words locks regs)).thread), .int .i64 ((checkG (pgOf code words locks regs)).at_)]), (13, .pointer (some ⟨b10, 0, none⟩)), (14, .int .i64 ((checkG (pgOf code words locks regs)).code)), (15, .bool (decide ((checkG (pgOf code words locks regs)).code ≠ 0))), (18, .pointer (some ⟨b3, 3, none⟩)), (19, .int .i64 regs), (20, .bool (decide (6 < regs))), (23, .pointer (some ⟨b3, 1, none⟩)), (24, words.v), (25, .int .i64 ((words.l.length : Nat) : Int)), (26, .pointer (some ⟨b3, 2, none⟩)), (27, .int .i64 locks), (28, .int .i64 (((words.l.length : Nat) : Int) + locks)), (29, .bool (decide (64 < ((words.l.length : Nat) : Int) + locks)))] [(0, 32, .pointer (some ⟨b3, 1, none⟩)), (1, 33, words.v), (3, 35, .pointer (some ⟨b3, 2, none⟩)), (4, 36, .int .i64 locks), (7, 5, .pointer (some ⟨b57, 0, none⟩))] a := hfr.more (by
     intro k j d v hk hS
     rcases k with _ | _ | _ | _ | _ | k
     ·obtain ⟨rfl, rfl, rfl⟩ : _ = j ∧ _ = d ∧ _ = v := by simpa using hk
      exact hfr.at_ 0 _ _ _ rfl hS
     ·obtain ⟨rfl, rfl, rfl⟩ : _ = j ∧ _ = d ∧ _ = v := by simpa using hk
      exact hfr.at_ 1 _ _ _ rfl hS
     ·obtain ⟨rfl, rfl, rfl⟩ : _ = j ∧ _ = d ∧ _ = v := by simpa using hk
      exact hfr.at_ 2 _ _ _ rfl hS
     ·obtain ⟨rfl, rfl, rfl⟩ : _ = j ∧ _ = d ∧ _ = v := by simpa using hk
      exact hfr.at_ 3 _ _ _ rfl hS
     ·obtain ⟨rfl, rfl, rfl⟩ : _ = j ∧ _ = d ∧ _ = v := by simpa using hk
      exact no_way hS hSi
     · simp at hk)
    exact Or.inr (Or.inr (Or.inl (⟨un rfl hw2, un rfl hw5, upd_self _ _, un rfl hw8, b57, hm57.step ht57 h57.fr.defers (h57.fr.at_ 5 _ rfl) 4 rfl rfl rfl rfl, (h57.sh.sel (L' := [.blk b57 28 [(.slice none 0 0), (.slice none 0 0), .int .i64 0, .int .i64 0], .blk b10 31 [.int .i64 ((checkG (pgOf code words locks regs)).code), .int .i64 ((checkG (pgOf code words locks regs)).thread), .int .i64 ((checkG (pgOf code words locks regs)).at_)], .blk b5 31 [.int .i64 0, .int .i64 0, .int .i64 0], .blk b4 28 [(.slice none 0 0), (.slice none 0 0), .int .i64 0, .int .i64 0], .blk b3 28 [code.v, words.v, .int .i64 locks, .int .i64 regs], .at_ code, .at_ words]) [0, 1, 2, 3, 4, 5, 6] (by decide) ⟨rfl, rfl, rfl, rfl, rfl, rfl, rfl, trivial⟩)⟩)))
   ·
    have hs := St.mk hfr.fr0 hsh
    refine step_ex (x_alloc hs ti_28 rfl rfl rfl) (wanted_none rfl _) ?_
    rintro a58 w58 ⟨b58, h58⟩ ⟨v0, ht58⟩
    have hm58 : FrI 91 S [(0, .agg #[code.v, words.v, .int .i64 locks, .int .i64 regs]), (1, .pointer (some ⟨b3, 0, none⟩)), (2, .pointer (some ⟨b4, 0, none⟩)), (3, .pointer (some ⟨b5, 0, none⟩)), (4, .pointer (some ⟨b10, 0, none⟩)), (11, .agg #[code.v, words.v, .int .i64 locks, .int .i64 regs]), (12, .agg #[.int .i64 ((checkG (pgOf code words locks regs)).code), .int .i64 ((checkG (pgOf code words locks regs)).thread), .int .i64 ((checkG (pgOf code words locks regs)).at_)]), (13, .pointer (some ⟨b10, 0, none⟩)), (14, .int .i64 ((checkG (pgOf code words locks regs)).code)), (15, .bool (decide ((checkG (pgOf code words locks regs)).code ≠ 0))), (18, .pointer (some ⟨b3, 3, none⟩)), (19, .int .i64 regs), (20, .bool (decide (6 < regs))), (23, .pointer (some ⟨b3, 1, none⟩)), (24, words.v), (25, .int .i64 ((words.l.length : Nat) : Int)), (26, .pointer (some ⟨b3, 2, none⟩)), (27, .int .i64 locks), (28, .int .i64 (((words.l.length : Nat) : Int) + locks)), (29, .bool (decide (64 < ((words.l.length : Nat) : Int) + locks)))] [(0, 32, .pointer (some ⟨b3, 1, none⟩)), (1, 33, words.v), (2, 34, s7002.v), (3, 35, .pointer (some ⟨b3, 2, none⟩)), (4, 36, .int .i64 locks), (7, 5, .pointer (some ⟨b58, 0, none⟩))] a := hfr.more (by
     intro k j d v hk hS
     rcases k with _ | _ | _ | _ | _ | _ | k
     ·obtain ⟨rfl, rfl, rfl⟩ : _ = j ∧ _ = d ∧ _ = v := by simpa using hk
      exact hfr.at_ 0 _ _ _ rfl hS
     ·obtain ⟨rfl, rfl, rfl⟩ : _ = j ∧ _ = d ∧ _ = v := by simpa using hk
      exact hfr.at_ 1 _ _ _ rfl hS
     ·obtain ⟨rfl, rfl, rfl⟩ : _ = j ∧ _ = d ∧ _ = v := by simpa using hk
      exact hfr.at_ 2 _ _ _ rfl hS
     ·obtain ⟨rfl, rfl, rfl⟩ : _ = j ∧ _ = d ∧ _ = v := by simpa using hk
      exact hfr.at_ 3 _ _ _ rfl hS
     ·obtain ⟨rfl, rfl, rfl⟩ : _ = j ∧ _ = d ∧ _ = v := by simpa using hk
      exact hfr.at_ 4 _ _ _ rfl hS
     ·obtain ⟨rfl, rfl, rfl⟩ : _ = j ∧ _ = d ∧ _ = v := by simpa using hk
      exact no_way hS hSi
     · simp at hk)
    exact Or.inr (Or.inr (Or.inr (Or.inr (Or.inl (⟨un rfl hw2, un rfl hw5, upd_self _ _, un rfl hw8, s7002, b58, hm58.step ht58 h58.fr.defers (h58.fr.at_ 5 _ rfl) 5 rfl rfl rfl rfl, (h58.sh.sel (L' := [.blk b58 28 [(.slice none 0 0), (.slice none 0 0), .int .i64 0, .int .i64 0], .own 3 (⟨s7002.v, words.l⟩ : Ls Int), .blk b10 31 [.int .i64 ((checkG (pgOf code words locks regs)).code), .int .i64 ((checkG (pgOf code words locks regs)).thread), .int .i64 ((checkG (pgOf code words locks regs)).at_)], .blk b5 31 [.int .i64 0, .int .i64 0, .int .i64 0], .blk b4 28 [(.slice none 0 0), (.slice none 0 0), .int .i64 0, .int .i64 0], .blk b3 28 [code.v, words.v, .int .i64 locks, .int .i64 regs], .at_ code, .at_ words]) [0, 1, 2, 3, 4, 5, 6, 7] (by decide) ⟨rfl, rfl, rfl, rfl, rfl, rfl, rfl, rfl, trivial⟩)⟩)))))
   ·
    exact no_way hw7 hSi
   ·
    have hs := St.mk hfr.fr0 hsh
    refine step_ex (x_alloc hs ti_28 rfl rfl rfl) (wanted_none rfl _) ?_
    rintro a59 w59 ⟨b59, h59⟩ ⟨v0, ht59⟩
    have hm59 : FrI 91 S [(0, .agg #[code.v, words.v, .int .i64 locks, .int .i64 regs]), (1, .pointer (some ⟨b3, 0, none⟩)), (2, .pointer (some ⟨b4, 0, none⟩)), (3, .pointer (some ⟨b5, 0, none⟩)), (4, .pointer (some ⟨b10, 0, none⟩)), (11, .agg #[code.v, words.v, .int .i64 locks, .int .i64 regs]), (12, .agg #[.int .i64 ((checkG (pgOf code words locks regs)).code), .int .i64 ((checkG (pgOf code words locks regs)).thread), .int .i64 ((checkG (pgOf code words locks regs)).at_)]), (13, .pointer (some ⟨b10, 0, none⟩)), (14, .int .i64 ((checkG (pgOf code words locks regs)).code)), (15, .bool (decide ((checkG (pgOf code words locks regs)).code ≠ 0))), (18, .pointer (some ⟨b3, 3, none⟩)), (19, .int .i64 regs), (20, .bool (decide (6 < regs))), (23, .pointer (some ⟨b3, 1, none⟩)), (24, words.v), (25, .int .i64 ((words.l.length : Nat) : Int)), (26, .pointer (some ⟨b3, 2, none⟩)), (27, .int .i64 locks), (28, .int .i64 (((words.l.length : Nat) : Int) + locks)), (29, .bool (decide (64 < ((words.l.length : Nat) : Int) + locks)))] [(0, 32, .pointer (some ⟨b3, 1, none⟩)), (1, 33, words.v), (2, 34, s7002.v), (3, 35, .pointer (some ⟨b3, 2, none⟩)), (4, 36, .int .i64 locks), (5, 37, v7005), (6, 38, .agg #[(.slice none 0 0), v7005, .int .i64 0, .int .i64 8]), (7, 5, .pointer (some ⟨b59, 0, none⟩))] a := hfr.more (by
     intro k j d v hk hS
     rcases k with _ | _ | _ | _ | _ | _ | _ | _ | k
     ·obtain ⟨rfl, rfl, rfl⟩ : _ = j ∧ _ = d ∧ _ = v := by simpa using hk
      exact hfr.at_ 0 _ _ _ rfl hS
     ·obtain ⟨rfl, rfl, rfl⟩ : _ = j ∧ _ = d ∧ _ = v := by simpa using hk
      exact hfr.at_ 1 _ _ _ rfl hS
     ·obtain ⟨rfl, rfl, rfl⟩ : _ = j ∧ _ = d ∧ _ = v := by simpa using hk
      exact hfr.at_ 2 _ _ _ rfl hS
     ·obtain ⟨rfl, rfl, rfl⟩ : _ = j ∧ _ = d ∧ _ = v := by simpa using hk
      exact hfr.at_ 3 _ _ _ rfl hS
     ·obtain ⟨rfl, rfl, rfl⟩ : _ = j ∧ _ = d ∧ _ = v := by simpa using hk
      exact hfr.at_ 4 _ _ _ rfl hS
     ·obtain ⟨rfl, rfl, rfl⟩ : _ = j ∧ _ = d ∧ _ = v := by simpa using hk
      exact hfr.at_ 5 _ _ _ rfl hS
     ·obtain ⟨rfl, rfl, rfl⟩ : _ = j ∧ _ = d ∧ _ = v := by simpa using hk
      exact hfr.at_ 6 _ _ _ rfl hS
     ·obtain ⟨rfl, rfl, rfl⟩ : _ = j ∧ _ = d ∧ _ = v := by simpa using hk
      exact no_way hS hSi
     · simp at hk)
    exact Or.inr (Or.inr (Or.inr (Or.inr (Or.inr (Or.inl (⟨un rfl hw2, un rfl hw5, upd_self _ _, un rfl hw8, s7002, v7005, b59, hm59.step ht59 h59.fr.defers (h59.fr.at_ 5 _ rfl) 7 rfl rfl rfl rfl, (h59.sh.sel (L' := [.blk b59 28 [(.slice none 0 0), (.slice none 0 0), .int .i64 0, .int .i64 0], .own 3 (⟨v7005, words.l ++ List.replicate locks.toNat 0⟩ : Ls Int), .blk b10 31 [.int .i64 ((checkG (pgOf code words locks regs)).code), .int .i64 ((checkG (pgOf code words locks regs)).thread), .int .i64 ((checkG (pgOf code words locks regs)).at_)], .blk b5 31 [.int .i64 0, .int .i64 0, .int .i64 0], .blk b4 28 [(.slice none 0 0), (.slice none 0 0), .int .i64 0, .int .i64 0], .blk b3 28 [code.v, words.v, .int .i64 locks, .int .i64 regs], .at_ code, .at_ words]) [0, 1, 2, 3, 4, 5, 6, 7] (by decide) ⟨rfl, rfl, rfl, rfl, rfl, rfl, rfl, rfl, trivial⟩)⟩))))))
   ·
    exact no_way hw7 hSi
   ·
    exact no_way hw7 hSi
   ·
    exact no_way hw7 hSi
  ·
   obtain rfl : _ = o := Option.some.inj ho
   have hd7 : S 7 = true := depAt hdep 0 rfl rfl
   have hd6 : S 6 = true := depAt hdep 1 rfl rfl
   have hd5 : S 5 = true := depAt hdep 2 rfl rfl
   have hd2 : S 2 = true := depAt hdep 5 rfl rfl
   rcases hI with ⟨hw2, hw5, hw7, hw8, hfr, hsh⟩ | ⟨hw2, hw5, hw7, hw8, s7002, hfr, hsh⟩ | ⟨hw2, hw5, hw7, hw8, b7007, hfr, hsh⟩ | ⟨hw2, hw5, hw7, hw8, s7002, v7005, hfr, hsh⟩ | ⟨hw2, hw5, hw7, hw8, s7002, b7007, hfr, hsh⟩ | ⟨hw2, hw5, hw7, hw8, s7002, v7005, b7007, hfr, hsh⟩ | ⟨hw2, hw5, hw7, hw8, s7002, v7005, b7007, hfr, hsh⟩
   ·
    exact no_way hd2 hw2
   ·
    exact no_way hd5 hw5
   ·
    exact no_way hd2 hw2
   ·
    exact no_way hd7 hw7
   ·
    exact no_way hd5 hw5
   ·
    have hs := St.mk (Fr.cons (Fr.cons hfr.fr0 (hfr.at_ 6 6 38 _ rfl hd6)) (hfr.at_ 7 7 5 _ rfl hd7)) hsh
    refine step_ex (x_stb (i := 0) (vs := [(.slice none 0 0), v7005, .int .i64 0, .int .i64 8]) (cs' := [(.slice none 0 0), v7005, .int .i64 0, .int .i64 8]) hs ti_28 rfl rfl rfl rfl rfl rfl rfl (allOne_cons rfl (allOne_cons ((hs.sh.own 1 rfl)).one (allOne_cons rfl (allOne_cons rfl allOne_nil)))) (Nat.le_of_ble_eq_true rfl) rfl) (wanted_none rfl _) ?_
    rintro a60 w60 h60 ⟨v0, ht60⟩
    have hm60 : FrI 91 S [(0, .agg #[code.v, words.v, .int .i64 locks, .int .i64 regs]), (1, .pointer (some ⟨b3, 0, none⟩)), (2, .pointer (some ⟨b4, 0, none⟩)), (3, .pointer (some ⟨b5, 0, none⟩)), (4, .pointer (some ⟨b10, 0, none⟩)), (11, .agg #[code.v, words.v, .int .i64 locks, .int .i64 regs]), (12, .agg #[.int .i64 ((checkG (pgOf code words locks regs)).code), .int .i64 ((checkG (pgOf code words locks regs)).thread), .int .i64 ((checkG (pgOf code words locks regs)).at_)]), (13, .pointer (some ⟨b10, 0, none⟩)), (14, .int .i64 ((checkG (pgOf code words locks regs)).code)), (15, .bool (decide ((checkG (pgOf code words locks regs)).code ≠ 0))), (18, .pointer (some ⟨b3, 3, none⟩)), (19, .int .i64 regs), (20, .bool (decide (6 < regs))), (23, .pointer (some ⟨b3, 1, none⟩)), (24, words.v), (25, .int .i64 ((words.l.length : Nat) : Int)), (26, .pointer (some ⟨b3, 2, none⟩)), (27, .int .i64 locks), (28, .int .i64 (((words.l.length : Nat) : Int) + locks)), (29, .bool (decide (64 < ((words.l.length : Nat) : Int) + locks)))] [(0, 32, .pointer (some ⟨b3, 1, none⟩)), (1, 33, words.v), (2, 34, s7002.v), (3, 35, .pointer (some ⟨b3, 2, none⟩)), (4, 36, .int .i64 locks), (5, 37, v7005), (6, 38, .agg #[(.slice none 0 0), v7005, .int .i64 0, .int .i64 8]), (7, 5, .pointer (some ⟨b7007, 0, none⟩))] a := hfr.more (by
     intro k j d v hk hS
     rcases k with _ | _ | _ | _ | _ | _ | _ | _ | k
     ·obtain ⟨rfl, rfl, rfl⟩ : _ = j ∧ _ = d ∧ _ = v := by simpa using hk
      exact hfr.at_ 0 _ _ _ rfl hS
     ·obtain ⟨rfl, rfl, rfl⟩ : _ = j ∧ _ = d ∧ _ = v := by simpa using hk
      exact hfr.at_ 1 _ _ _ rfl hS
     ·obtain ⟨rfl, rfl, rfl⟩ : _ = j ∧ _ = d ∧ _ = v := by simpa using hk
      exact hfr.at_ 2 _ _ _ rfl hS
     ·obtain ⟨rfl, rfl, rfl⟩ : _ = j ∧ _ = d ∧ _ = v := by simpa using hk
      exact hfr.at_ 3 _ _ _ rfl hS
     ·obtain ⟨rfl, rfl, rfl⟩ : _ = j ∧ _ = d ∧ _ = v := by simpa using hk
      exact hfr.at_ 4 _ _ _ rfl hS
     ·obtain ⟨rfl, rfl, rfl⟩ : _ = j ∧ _ = d ∧ _ = v := by simpa using hk
      exact hfr.at_ 5 _ _ _ rfl hS
     ·obtain ⟨rfl, rfl, rfl⟩ : _ = j ∧ _ = d ∧ _ = v := by simpa using hk
      exact hfr.at_ 6 _ _ _ rfl hS
     ·obtain ⟨rfl, rfl, rfl⟩ : _ = j ∧ _ = d ∧ _ = v := by simpa using hk
      exact hfr.at_ 7 _ _ _ rfl hS
     · simp at hk)
    exact Or.inr (Or.inr (Or.inr (Or.inr (Or.inr (Or.inr (⟨un rfl hw2, un rfl hw5, un rfl hw7, upd_self _ _, s7002, v7005, b7007, hm60.none ht60 h60.fr.defers rfl, (h60.sh.sel (L' := [.blk b7007 28 [(.slice none 0 0), v7005, .int .i64 0, .int .i64 8], .own 3 (⟨v7005, words.l ++ List.replicate locks.toNat 0⟩ : Ls Int), .blk b10 31 [.int .i64 ((checkG (pgOf code words locks regs)).code), .int .i64 ((checkG (pgOf code words locks regs)).thread), .int .i64 ((checkG (pgOf code words locks regs)).at_)], .blk b5 31 [.int .i64 0, .int .i64 0, .int .i64 0], .blk b4 28 [(.slice none 0 0), (.slice none 0 0), .int .i64 0, .int .i64 0], .blk b3 28 [code.v, words.v, .int .i64 locks, .int .i64 regs], .at_ code, .at_ words]) [0, 1, 2, 3, 4, 5, 6, 7] (by decide) ⟨rfl, rfl, rfl, rfl, rfl, rfl, rfl, rfl, trivial⟩)⟩))))))
   ·
    exact no_way hw8 hSi
  · simp at ho
 intro S hall a w hI
 clear h32
 rcases hI with ⟨hw2, hw5, hw7, hw8, hfr, hsh⟩ | ⟨hw2, hw5, hw7, hw8, s7002, hfr, hsh⟩ | ⟨hw2, hw5, hw7, hw8, b7007, hfr, hsh⟩ | ⟨hw2, hw5, hw7, hw8, s7002, v7005, hfr, hsh⟩ | ⟨hw2, hw5, hw7, hw8, s7002, b7007, hfr, hsh⟩ | ⟨hw2, hw5, hw7, hw8, s7002, v7005, b7007, hfr, hsh⟩ | ⟨hw2, hw5, hw7, hw8, s7002, v7005, b7007, hfr, hsh⟩
 · exact no_way (hall 2 (by decide)) hw2
 · exact no_way (hall 5 (by decide)) hw5
 · exact no_way (hall 2 (by decide)) hw2
 · exact no_way (hall 7 (by decide)) hw7
 · exact no_way (hall 5 (by decide)) hw5
 · exact no_way (hall 8 (by decide)) hw8
 have h61 : St 91 (fun _ => False) W a w _ [.blk b7007 28 [(.slice none 0 0), v7005, .int .i64 0, .int .i64 8], .own 3 (⟨v7005, words.l ++ List.replicate locks.toNat 0⟩ : Ls Int), .blk b10 31 [.int .i64 ((checkG (pgOf code words locks regs)).code), .int .i64 ((checkG (pgOf code words locks regs)).thread), .int .i64 ((checkG (pgOf code words locks regs)).at_)], .blk b5 31 [.int .i64 0, .int .i64 0, .int .i64 0], .blk b4 28 [(.slice none 0 0), (.slice none 0 0), .int .i64 0, .int .i64 0], .blk b3 28 [code.v, words.v, .int .i64 locks, .int .i64 regs], .at_ code, .at_ words] := ⟨(Fr.cons hfr.fr0 (hfr.at_ 7 7 5 _ rfl (hall 7 (by decide)))), hsh⟩
 clear hall hfr hsh hw2 hw5 hw7 hw8
 refine hK31 _ _ <| wp_seq_k fun K62 hK62 => wp_seq_k fun K63 hK63 => wp_region_lit <| wv h61 (r_fieldB (r := 0) fl_28_0 rfl rfl rfl) rfl rfl fun a64 h64 => wv h64 (r_ldb (i := 5) ti_26 rfl rfl rfl rfl) rfl rfl fun a65 h65 => ?_; clear h61 h64
 have hl66 : code.l.length ≤ 140737488355328 := (h65.sh.at 6 rfl).len
 refine wv h65 (r_len (s := code) (n := code.l.length) sl_26 rfl rfl (fun w h => (h.at 6 rfl)) rfl) rfl rfl fun a67 h67 => wms 1 h67 rfl fun a68 h68 => wpList_nil <| hK63 _ _ <| wp_block ?_; clear h65 h67
 have h70 := h68.nilDeep (α := Ls Ins) 64
 clear h68
 refine x_loop (fun m a w => ∃ (t : Nat) (qs : List (Ls Ins)) (vq : Value), (t ≤ code.l.length) ∧ (qs.map (·.l) = ((code.l.take t).map (·.l)).map (linkL words.l.length)) ∧ (qs.length = t) ∧ (∀ j, j < t → (linkL words.l.length (nth code.l j).l).length ≤ 400) ∧ St 91 (fun _ => False) W a w [(1, .pointer (some ⟨b3, 0, none⟩)), (2, .pointer (some ⟨b4, 0, none⟩)), (3, .pointer (some ⟨b5, 0, none⟩)), (5, .pointer (some ⟨b7007, 0, none⟩)), (40, code.v), (41, .int .i64 ((code.l.length : Nat) : Int)), (42, .int .i64 ((t : Nat) : Int))] [.blk b7007 28 [vq, v7005, .int .i64 0, .int .i64 8], .own 3 (⟨v7005, words.l ++ List.replicate locks.toNat 0⟩ : Ls Int), .blk b10 31 [.int .i64 ((checkG (pgOf code words locks regs)).code), .int .i64 ((checkG (pgOf code words locks regs)).thread), .int .i64 ((checkG (pgOf code words locks regs)).at_)], .blk b5 31 [.int .i64 0, .int .i64 0, .int .i64 0], .blk b4 28 [(.slice none 0 0), (.slice none 0 0), .int .i64 0, .int .i64 0], .blk b3 28 [code.v, words.v, .int .i64 locks, .int .i64 regs], .at_ code, .at_ words, .deep 64 (⟨vq, qs⟩ : Ls (Ls Ins))] ∧ m = code.l.length - t) ⟨_, 0, [], (.slice none 0 0), (by omega), (rfl), (rfl), (fun j hj => absurd hj (by omega)), h70.nrm ⟨rfl, rfl, rfl, rfl, rfl, rfl, rfl, trivial⟩ [1, 2, 3, 4, 5, 6, 7, 8, 0] (by decide) ⟨rfl, rfl, rfl, rfl, rfl, rfl, rfl, rfl, rfl, trivial⟩, rfl⟩ ?_
 clear h70
 rintro m69 a69 w69 ⟨t, qs, vq, ht, hqs, hql, hbf, h69, hm69⟩
 refine wp_seq_k fun K71 hK71 => wp_region_lit <| wv h69 (r_lssN (p := t) (q := code.l.length) rfl rfl rfl) rfl rfl fun a72 h72 => wpList_nil <| hK71 _ _ <| wp_seq_k fun K73 hK73 => x_cond h72 rfl (fun hb74 => ?_) (fun hb74 => ?_); clear h69
 ·
  have hp74 : t < code.l.length := of_decide_eq_true hb74
  refine wp_skip <| hK73 _ _ <| wp_seq_k fun K75 hK75 => wp_block <| wp_seq_k fun K76 hK76 => wp_region_lit <| wms 1 h72 rfl fun a77 h77 => wv h77 (r_ixN (s := code) (q := t) sl_26 ti_64 rfl rfl rfl (fun w h => (h.at 6 rfl)) (show t < code.l.length from (by omega))) rfl rfl fun a78 h78 => wv h78 (r_lde (s := code) (i := t) (v := (nth code.l t).v) ti_64 rfl rfl rfl (fun w h => (h.at 6 rfl)) (show t < code.l.length from (by omega)) (Nat.le_of_ble_eq_true rfl) rfl) rfl rfl fun a79 h79 => wms 2 h79 rfl fun a80 h80 => wpList_nil <| hK76 _ _ ?_; clear h72 h77 h78 h79
  obtain ⟨hl4, hjt⟩ := ok_thread hok t (by omega)
  refine wp_seq_k fun K81 hK81 => wp_region_lit <| wms 1 h80 rfl fun a82 h82 => wv h82 (r_makeFunc rfl rfl rfl) rfl rfl fun a83 h83 => wl_ex (x_call h83 bd_70 rfl rfl rfl rfl rfl (moved_c (nth code.l t) 74 [] [.pointer (some ⟨b3, 0, none⟩)] (linkB words.l.length) (Asn.ro [.blk b3 28 [code.v, words.v, .int .i64 locks, .int .i64 regs], .at_ words]) _ ((h83.sh.at 6 rfl).nth t (show t < code.l.length from (by omega))) (show ((nth code.l t).l).length ≤ 5000 from (by omega)) bd_74 (fun _ h => h) (by intro A hA; simp at hA; rcases hA with rfl | rfl; exact h83.sh.ok _ (List.mem_of_getElem? (i := 5) rfl); exact h83.sh.ok _ (List.mem_of_getElem? (i := 7) rfl)) (fun w i hE (hi : i < (nth code.l t).l.length) => link1_c i _ b3 code words locks regs w (by omega) (hE (.blk b3 28 [code.v, words.v, .int .i64 locks, .int .i64 regs]) (by simp)) (hE (.at_ words) (by simp)) (ok_as hok t i (by omega) hi)) (fun i hi => by have := linkB_len words.l.length i (nth (nth code.l t).l i); exact Nat.le_trans this (by omega)) (linkB_ok _ _ hjt))) (wanted_none rfl _) ?_; clear h80 h82
  rintro a84 w84 ⟨_, ⟨s84, rfl, hl84, hs84⟩, hf84⟩
  have h84 := (⟨hf84, h83.sh.call hs84 (by intro A hA b hb; first | (simp at hA; done) | (simp at hA; subst hA; first | exact Flat.noRd hb | exact (hb : False).elim) | (simp at hA; rcases hA with rfl | rfl <;> first | exact Flat.noRd hb | exact (hb : False).elim))⟩ : St 91 (fun _ => False) W a84 w84 _ _)
  clear hf84 hs84
  clear h83
  refine wms 1 h84 rfl fun a85 h85 => wpList_nil <| hK81 _ _ ?_; clear h84
  have hlen8 : s84.l.length ≤ 140737488355328 := ((h85.sh.own 0 rfl)).len
  refine wp_seq_k fun K86 hK86 => wp_seq_k fun K87 hK87 => wp_region_lit <| wms 1 h85 rfl fun a88 h88 => ?_; clear h85
  have hl89 : s84.l.length ≤ 140737488355328 := (h88.sh.own 0 rfl).len
  refine wv h88 (r_len (s := s84) (n := s84.l.length) sl_64 rfl rfl (fun w h => (h.own 0 rfl)) rfl) rfl rfl fun a90 h90 => wms 1 h90 rfl fun a91 h91 => wpList_nil <| hK87 _ _ <| wp_block <| x_loop (fun m a w => ∃ (k3 : Nat) (ou : List Ins), (k3 ≤ s84.l.length) ∧ (ou.length = s84.l.length) ∧ (∀ j, j < k3 → nth ou j = fix1 j (nth s84.l j)) ∧ (∀ j, k3 ≤ j → nth ou j = nth s84.l j) ∧ St 91 (fun _ => False) W a w [(1, .pointer (some ⟨b3, 0, none⟩)), (2, .pointer (some ⟨b4, 0, none⟩)), (3, .pointer (some ⟨b5, 0, none⟩)), (5, .pointer (some ⟨b7007, 0, none⟩)), (6, .int .i64 ((t : Nat) : Int)), (8, s84.v), (40, code.v), (41, .int .i64 ((code.l.length : Nat) : Int)), (42, .int .i64 ((t : Nat) : Int)), (51, .int .i64 ((s84.l.length : Nat) : Int)), (52, .int .i64 ((k3 : Nat) : Int))] [.own 73 (⟨s84.v, ou⟩ : Ls Ins), .blk b7007 28 [vq, v7005, .int .i64 0, .int .i64 8], .own 3 (⟨v7005, words.l ++ List.replicate locks.toNat 0⟩ : Ls Int), .blk b10 31 [.int .i64 ((checkG (pgOf code words locks regs)).code), .int .i64 ((checkG (pgOf code words locks regs)).thread), .int .i64 ((checkG (pgOf code words locks regs)).at_)], .blk b5 31 [.int .i64 0, .int .i64 0, .int .i64 0], .blk b4 28 [(.slice none 0 0), (.slice none 0 0), .int .i64 0, .int .i64 0], .blk b3 28 [code.v, words.v, .int .i64 locks, .int .i64 regs], .at_ code, .at_ words, .deep 64 (⟨vq, qs⟩ : Ls (Ls Ins))] ∧ m = s84.l.length - k3) ⟨_, 0, s84.l, (by omega), (rfl), (fun j hj => absurd hj (by omega)), (fun j hj => rfl), h91.nrm ⟨rfl, rfl, rfl, rfl, rfl, rfl, rfl, rfl, rfl, rfl, rfl, trivial⟩ [0, 1, 2, 3, 4, 5, 6, 7, 8, 9] (by decide) ⟨rfl, rfl, rfl, rfl, rfl, rfl, rfl, rfl, rfl, rfl, trivial⟩, rfl⟩ ?_; clear h88 h90
  clear h91
  rintro m92 a92 w92 ⟨k3, ou, hk3, hol, hdone, hrest, h92, hm92⟩
  refine wp_seq_k fun K93 hK93 => wp_region_lit <| wv h92 (r_lssN (p := k3) (q := s84.l.length) rfl rfl rfl) rfl rfl fun a94 h94 => wpList_nil <| hK93 _ _ <| wp_seq_k fun K95 hK95 => x_cond h94 rfl (fun hb96 => ?_) (fun hb96 => ?_); clear h92
  ·
   have hp96 : k3 < s84.l.length := of_decide_eq_true hb96
   refine wp_skip <| hK95 _ _ <| wp_seq_k fun K97 hK97 => wp_block <| wp_seq_k fun K98 hK98 => wp_region_lit <| wms 2 h94 rfl fun a99 h99 => wpList_nil <| hK98 _ _ <| wp_seq_k fun K100 hK100 => wp_region_lit <| wms 2 h99 rfl fun a101 h101 => ?_; clear h94 h99
   have hl102 : ou.length ≤ 140737488355328 := (h101.sh.own 0 rfl).len
   refine wv h101 (r_ixN (s := (⟨s84.v, ou⟩ : Ls Ins)) (q := k3) sl_64 ti_73 rfl rfl rfl (fun w h => (h.own 0 rfl)) (show k3 < ou.length from (by omega))) rfl rfl fun a103 h103 => wms 1 h103 rfl fun a104 h104 => wpList_nil <| hK100 _ _ <| wp_seq_k fun K105 hK105 => wp_region_lit <| wms 1 h104 rfl fun a106 h106 => wv h106 (r_nil rfl rfl) rfl rfl fun a107 h107 => wv h107 (r_fieldE (r := 0) fl_73_0 rfl rfl rfl) rfl rfl fun a108 h108 => wv h108 (r_lde (s := (⟨s84.v, ou⟩ : Ls Ins)) (i := k3) (v := .int .i64 ((nth ou k3).op)) ti_3 rfl rfl rfl (fun w h => (h.own 0 rfl)) (show k3 < ou.length from (by omega)) (Nat.le_of_ble_eq_true rfl) rfl) rfl rfl fun a109 h109 => wv h109 (r_eqlI (p := (nth ou k3).op) (q := 15) rfl rfl rfl) rfl rfl fun a110 h110 => wms 1 h110 rfl fun a111 h111 => ?_; clear h101 h103 h104 h106 h107 h108 h109 h110
   rcases Bool.eq_false_or_eq_true (decide ((nth ou k3).op = 15)) with hb112 | hb112
   ·
    have hp112 : (nth ou k3).op = 15 := of_decide_eq_true hb112
    refine wl_val h111 (r_move rfl rfl) (wanted_yes h111.fr rfl rfl rfl rfl hb112) rfl rfl fun a113 h113 => wl_val h113 (r_nil rfl rfl) (wanted_yes h113.fr rfl rfl rfl rfl hb112) rfl rfl fun a114 h114 => wl_val h114 (r_fieldE (r := 2) fl_73_2 rfl rfl rfl) (wanted_yes h114.fr rfl rfl rfl rfl hb112) rfl rfl fun a115 h115 => wl_val h115 (r_lde (s := (⟨s84.v, ou⟩ : Ls Ins)) (i := k3) (v := .int .i64 ((nth ou k3).b)) ti_3 rfl rfl rfl (fun w h => (h.own 0 rfl)) (show k3 < ou.length from (by omega)) (Nat.le_of_ble_eq_true rfl) rfl) (wanted_yes h115.fr rfl rfl rfl rfl hb112) rfl rfl fun a116 h116 => wl_val h116 (r_eqlI (p := (nth ou k3).b) (q := (-1)) rfl rfl rfl) (wanted_yes h116.fr rfl rfl rfl rfl hb112) rfl rfl fun a117 h117 => wv h117 (r_pickT rfl rfl hb112 rfl) rfl rfl fun a118 h118 => wpList_nil <| hK105 _ _ <| x_cond h118 rfl (fun hb119 => ?_) (fun hb119 => ?_); clear h111 h113 h114 h115 h116 h117
    ·
     have hp119 : (nth ou k3).b = (-1) := of_decide_eq_true hb119
     refine wp_region_lit <| wms 2 h118 rfl fun a120 h120 => wv h120 (r_subI (p := ((k3 : Nat) : Int)) (q := 3) rfl rfl rfl (show -9223372036854775808 ≤ ((k3 : Nat) : Int) - 3 ∧ ((k3 : Nat) : Int) - 3 < 9223372036854775808 from (by omega))) rfl rfl fun a121 h121 => wv h121 (r_nil rfl rfl) rfl rfl fun a122 h122 => wv h122 (r_fieldE (r := 2) fl_73_2 rfl rfl rfl) rfl rfl fun a123 h123 => wl_ex (x_ste (s := (⟨s84.v, ou⟩ : Ls Ins)) (r := 0) (i := k3) (j := 2) (x' := ({ nth ou k3 with b := ((k3 : Nat) : Int) - 3 } : Ins)) h123 ti_3 rfl rfl rfl rfl rfl (show k3 < ou.length from (by omega)) (Nat.le_of_ble_eq_true rfl) rfl rfl rfl (by intro q hq; rcases q with _ | _ | _ | _ | q <;> first | rfl | omega) (fun w h => Flat.inner _ _) (fun b hb => (Flat.on _ _ hb).elim)) (wanted_none rfl _) ?_; clear h118 h120 h121 h122
     rintro a124 w124 h124
     clear h123
     refine wpList_nil <| hK97 _ _ ?_
     have h125 : St 91 (fun _ => False) W a124 w124 [(1, .pointer (some ⟨b3, 0, none⟩)), (2, .pointer (some ⟨b4, 0, none⟩)), (3, .pointer (some ⟨b5, 0, none⟩)), (5, .pointer (some ⟨b7007, 0, none⟩)), (6, .int .i64 ((t : Nat) : Int)), (8, s84.v), (40, code.v), (41, .int .i64 ((code.l.length : Nat) : Int)), (42, .int .i64 ((t : Nat) : Int)), (51, .int .i64 ((s84.l.length : Nat) : Int)), (52, .int .i64 ((k3 : Nat) : Int))] [.own 73 (⟨s84.v, ou.set k3 ({ nth ou k3 with b := ((k3 : Nat) : Int) - 3 })⟩ : Ls Ins), .blk b7007 28 [vq, v7005, .int .i64 0, .int .i64 8], .own 3 (⟨v7005, words.l ++ List.replicate locks.toNat 0⟩ : Ls Int), .blk b10 31 [.int .i64 ((checkG (pgOf code words locks regs)).code), .int .i64 ((checkG (pgOf code words locks regs)).thread), .int .i64 ((checkG (pgOf code words locks regs)).at_)], .blk b5 31 [.int .i64 0, .int .i64 0, .int .i64 0], .blk b4 28 [(.slice none 0 0), (.slice none 0 0), .int .i64 0, .int .i64 0], .blk b3 28 [code.v, words.v, .int .i64 locks, .int .i64 regs], .at_ code, .at_ words, .deep 64 (⟨vq, qs⟩ : Ls (Ls Ins))] := h124.nrm ⟨rfl, rfl, rfl, rfl, rfl, rfl, rfl, rfl, rfl, rfl, rfl, trivial⟩ [0, 1, 2, 3, 4, 5, 6, 7, 8, 9] (by decide) ⟨rfl, rfl, rfl, rfl, rfl, rfl, rfl, rfl, rfl, rfl, trivial⟩
     clear h124
     refine wp_region_lit <| wv h125 (r_addN (p := k3) (q := 1) rfl rfl rfl (show k3 + 1 < 9223372036854775808 from (by omega))) rfl rfl fun a126 h126 => wms 1 h126 rfl fun a127 h127 => wpList_nil <| x_again ⟨_, ?_, k3 + 1, ou.set k3 ({ nth ou k3 with b := ((k3 : Nat) : Int) - 3 }), ?_, ?_, ?_, ?_, h127.nrm ⟨rfl, rfl, rfl, rfl, rfl, rfl, rfl, rfl, rfl, rfl, rfl, trivial⟩ [0, 1, 2, 3, 4, 5, 6, 7, 8, 9] (by decide) ⟨rfl, rfl, rfl, rfl, rfl, rfl, rfl, rfl, rfl, rfl, trivial⟩, rfl⟩; clear h125 h126
     · rw [hm92]; first | omega | (simp only [lens9]; omega)
     · omega
     · first | simpa using hol | exact hol
     · intro j hj; rcases Nat.lt_or_ge j k3 with h | h; (first | (rw [nth_set, if_neg (by omega)]; exact hdone j h) | exact hdone j h); obtain rfl : j = k3 := (by omega); have hr := hrest j (by omega); have hr1 := congrArg Ins.op hr; have hr2 := congrArg Ins.b hr; (try rw [nth_set, if_pos ⟨rfl, by omega⟩]); rw [hr]; unfold fix1; (repeat' split) <;> first | (exfalso; omega) | rfl
     · intro j hj; first | (rw [nth_set, if_neg (by omega)]; exact hrest j (by omega)) | exact hrest j (by omega)
    have hp119 : ¬ ((nth ou k3).b = (-1)) := of_decide_eq_false hb119
    refine wp_skip <| hK97 _ _ <| wp_region_lit <| wv h118 (r_addN (p := k3) (q := 1) rfl rfl rfl (show k3 + 1 < 9223372036854775808 from (by omega))) rfl rfl fun a128 h128 => wms 1 h128 rfl fun a129 h129 => wpList_nil <| x_again ⟨_, ?_, k3 + 1, ou, ?_, ?_, ?_, ?_, h129.nrm ⟨rfl, rfl, rfl, rfl, rfl, rfl, rfl, rfl, rfl, rfl, rfl, trivial⟩ [0, 1, 2, 3, 4, 5, 6, 7, 8, 9] (by decide) ⟨rfl, rfl, rfl, rfl, rfl, rfl, rfl, rfl, rfl, rfl, trivial⟩, rfl⟩; clear h118 h128
    · rw [hm92]; first | omega | (simp only [lens9]; omega)
    · omega
    · first | simpa using hol | exact hol
    · intro j hj; rcases Nat.lt_or_ge j k3 with h | h; (first | (rw [nth_set, if_neg (by omega)]; exact hdone j h) | exact hdone j h); obtain rfl : j = k3 := (by omega); have hr := hrest j (by omega); have hr1 := congrArg Ins.op hr; have hr2 := congrArg Ins.b hr; (try rw [nth_set, if_pos ⟨rfl, by omega⟩]); rw [hr]; unfold fix1; (repeat' split) <;> first | (exfalso; omega) | rfl
    · intro j hj; first | (rw [nth_set, if_neg (by omega)]; exact hrest j (by omega)) | exact hrest j (by omega)
   have hp112 : ¬ ((nth ou k3).op = 15) := of_decide_eq_false hb112
   refine wl_skip h111 (wanted_no h111.fr rfl rfl rfl rfl hb112) rfl rfl fun a130 h130 => wl_skip h130 (wanted_no h130.fr rfl rfl rfl rfl hb112) rfl rfl fun a131 h131 => wl_skip h131 (wanted_no h131.fr rfl rfl rfl rfl hb112) rfl rfl fun a132 h132 => wl_skip h132 (wanted_no h132.fr rfl rfl rfl rfl hb112) rfl rfl fun a133 h133 => wl_skip h133 (wanted_no h133.fr rfl rfl rfl rfl hb112) rfl rfl fun a134 h134 => wv h134 (r_pickF rfl rfl hb112 rfl) rfl rfl fun a135 h135 => wpList_nil <| hK105 _ _ <| x_condF h135 rfl rfl <| wp_skip <| hK97 _ _ <| wp_region_lit <| wv h135 (r_addN (p := k3) (q := 1) rfl rfl rfl (show k3 + 1 < 9223372036854775808 from (by omega))) rfl rfl fun a136 h136 => wms 1 h136 rfl fun a137 h137 => ?_; clear h111 h130 h131 h132 h133 h134 h135 h136
   refine wpList_nil <| x_again ⟨_, ?_, k3 + 1, ou, ?_, ?_, ?_, ?_, h137.nrm ⟨rfl, rfl, rfl, rfl, rfl, rfl, rfl, rfl, rfl, rfl, rfl, trivial⟩ [0, 1, 2, 3, 4, 5, 6, 7, 8, 9] (by decide) ⟨rfl, rfl, rfl, rfl, rfl, rfl, rfl, rfl, rfl, rfl, trivial⟩, rfl⟩
   · rw [hm92]; first | omega | (simp only [lens9]; omega)
   · omega
   · first | simpa using hol | exact hol
   · intro j hj; rcases Nat.lt_or_ge j k3 with h | h; (first | (rw [nth_set, if_neg (by omega)]; exact hdone j h) | exact hdone j h); obtain rfl : j = k3 := (by omega); have hr := hrest j (by omega); have hr1 := congrArg Ins.op hr; have hr2 := congrArg Ins.b hr; (try rw [nth_set, if_pos ⟨rfl, by omega⟩]); rw [hr]; unfold fix1; (repeat' split) <;> first | (exfalso; omega) | rfl
   · intro j hj; first | (rw [nth_set, if_neg (by omega)]; exact hrest j (by omega)) | exact hrest j (by omega)
  have hp96 : ¬ (k3 < s84.l.length) := of_decide_eq_false hb96
  refine wp_exit <| hK86 _ _ ?_
  have hq1 : ou = linkL words.l.length (nth code.l t).l := by rw [← linkB_eq, ← hl84]; exact eq_fix _ _ hol (fun j hj => hdone j (by omega))
  refine wp_seq_k fun K138 hK138 => wp_seq_k fun K139 hK139 => wp_region_lit <| wms 1 h94 rfl fun a140 h140 => ?_; clear h94
  have hl141 : ou.length ≤ 140737488355328 := (h140.sh.own 0 rfl).len
  refine wv h140 (r_len (s := (⟨s84.v, ou⟩ : Ls Ins)) (n := ou.length) sl_64 rfl rfl (fun w h => (h.own 0 rfl)) rfl) rfl rfl fun a142 h142 => wv h142 (r_gtrN (p := ou.length) (q := 400) rfl rfl rfl) rfl rfl fun a143 h143 => wpList_nil <| hK139 _ _ <| x_cond h143 rfl (fun hb144 => ?_) (fun hb144 => ?_); clear h140 h142
  ·
   have hp144 : 400 < ou.length := of_decide_eq_true hb144
   refine wp_seq_k fun K145 hK145 => wp_region_lit <| wv h143 (r_build (cs := [(.slice none 0 0), (.slice none 0 0), .int .i64 0, .int .i64 0]) rfl rfl (by kernel_rfl)) rfl rfl fun a146 h146 => wms 1 h146 rfl fun a147 h147 => wv h147 (r_build (cs := [.int .i64 1, .int .i64 ((t : Nat) : Int), .int .i64 0]) rfl rfl (by kernel_rfl)) rfl rfl fun a148 h148 => wl_ex (x_stb (i := 5) (vs := [(.slice none 0 0), (.slice none 0 0), .int .i64 0, .int .i64 0]) (cs' := [(.slice none 0 0), (.slice none 0 0), .int .i64 0, .int .i64 0]) h148 ti_28 rfl rfl rfl rfl rfl rfl rfl (allOne_cons rfl (allOne_cons rfl (allOne_cons rfl (allOne_cons rfl allOne_nil)))) (Nat.le_of_ble_eq_true rfl) rfl) (wanted_none rfl _) ?_; clear h143 h146 h147
   rintro a149 w149 h149
   clear h148
   refine wl_ex (x_stb (i := 4) (vs := [.int .i64 1, .int .i64 ((t : Nat) : Int), .int .i64 0]) (cs' := [.int .i64 1, .int .i64 ((t : Nat) : Int), .int .i64 0]) h149 ti_31 rfl rfl rfl rfl rfl rfl rfl (allOne_cons rfl (allOne_cons rfl (allOne_cons rfl allOne_nil))) (Nat.le_of_ble_eq_true rfl) rfl) (wanted_none rfl _) ?_
   rintro a150 w150 h150
   clear h149
   refine wpList_nil <| hK145 _ _ <| wp_ret ?_
   try simp only [Exit.then, Exit.inBlock]
   refine x_ret2c (fn := Try.f31) (t := 2) (t2 := 3) (i := 5) (i2 := 4) ti_28 ti_31 rfl h150 rfl rfl rfl rfl rfl rfl ?_
   exact .inr ⟨t, by omega, by rw [← hq1]; omega, hbf, rfl, (h150.sh.sel [] (by decide) trivial)⟩
  have hp144 : ¬ (400 < ou.length) := of_decide_eq_false hb144
  refine wp_skip <| hK138 _ _ <| wp_region_lit <| wv h143 (r_fieldB (r := 0) fl_28_0 rfl rfl rfl) rfl rfl fun a151 h151 => wv h151 (r_ldb (i := 1) ti_26 rfl rfl rfl rfl) rfl rfl fun a152 h152 => wms 1 h152 rfl fun a153 h153 => wl_ex (x_litD (E := 0) (x := (⟨s84.v, ou⟩ : Ls Ins)) h153 sl_26 ti_64 rfl rfl rfl ((h153.sh.own 0 rfl)) (fun b hb => (own_on (h153.sh.ok _ (List.mem_of_getElem? (i := 0) rfl)) hb).elim (fun h => h) (fun h => Flat.noRd h)) (fun b hb => Flat.noRd hb) rfl rfl) (wanted_none rfl _) ?_; clear h143 h151 h152
  rintro a154 w154 ⟨v154, h154⟩; clear h153
  have h155 := h154.sel (L' := [.deep 64 (⟨vq, qs⟩ : Ls (Ls Ins)), .deep 64 (⟨v154, [(⟨s84.v, ou⟩ : Ls Ins)]⟩ : Ls (Ls Ins)), .blk b7007 28 [vq, v7005, .int .i64 0, .int .i64 8], .own 3 (⟨v7005, words.l ++ List.replicate locks.toNat 0⟩ : Ls Int), .blk b10 31 [.int .i64 ((checkG (pgOf code words locks regs)).code), .int .i64 ((checkG (pgOf code words locks regs)).thread), .int .i64 ((checkG (pgOf code words locks regs)).at_)], .blk b5 31 [.int .i64 0, .int .i64 0, .int .i64 0], .blk b4 28 [(.slice none 0 0), (.slice none 0 0), .int .i64 0, .int .i64 0], .blk b3 28 [code.v, words.v, .int .i64 locks, .int .i64 regs], .at_ code, .at_ words]) [9, 0, 1, 2, 3, 4, 5, 6, 7, 8] (by decide) ⟨rfl, rfl, rfl, rfl, rfl, rfl, rfl, rfl, rfl, rfl, trivial⟩
  refine wl_ex (x_appD (s := (⟨vq, qs⟩ : Ls (Ls Ins))) (m := (⟨v154, [(⟨s84.v, ou⟩ : Ls Ins)]⟩ : Ls (Ls Ins))) h155 sl_26 ti_64 rfl rfl rfl rfl rfl rfl rfl inferInstance (show (qs.length + ([(⟨s84.v, ou⟩ : Ls Ins)]).length) * 24 ≤ 140737488355328 ∧ qs.length + ([(⟨s84.v, ou⟩ : Ls Ins)]).length ≤ 140737488355328 from (by first | omega | (simp only [lens9]; omega))) rfl rfl) (wanted_none rfl _) ?_
  rintro a156 w156 ⟨v156, h156⟩; clear h155
  refine wv h156 (r_fieldB (r := 0) fl_28_0 rfl rfl rfl) rfl rfl fun a157 h157 => wl_ex (x_stb (i := 1) (vs := [v156]) (cs' := [v156, v7005, .int .i64 0, .int .i64 8]) h157 ti_26 rfl rfl rfl rfl rfl (cells_oneL ((h157.sh.deep 0 rfl)).one) rfl (allOne_cons ((h157.sh.deep 0 rfl)).one allOne_nil) (Nat.le_of_ble_eq_true rfl) rfl) (wanted_none rfl _) ?_; clear h156
  rintro a158 w158 h158
  clear h157
  refine wpList_nil <| hK75 _ _ <| wp_region_lit <| wv h158 (r_addN (p := t) (q := 1) rfl rfl rfl (show t + 1 < 9223372036854775808 from (by omega))) rfl rfl fun a159 h159 => wms 1 h159 rfl fun a160 h160 => wpList_nil <| x_again ⟨_, ?_, t + 1, qs ++ ([(⟨s84.v, ou⟩ : Ls Ins)]), v156, ?_, ?_, ?_, ?_, h160.nrm ⟨rfl, rfl, rfl, rfl, rfl, rfl, rfl, trivial⟩ [1, 2, 3, 4, 5, 6, 7, 8, 0] (by decide) ⟨rfl, rfl, rfl, rfl, rfl, rfl, rfl, rfl, rfl, trivial⟩, rfl⟩; clear h158 h159
  · rw [hm69]; first | omega | (simp only [lens9]; omega)
  · omega
  · rw [List.map_append, hqs, take_succ_nth _ _ (by omega)]; simp [hq1]
  · simp [hql]
  · intro j hj; rcases Nat.lt_or_ge j t with h9 | h9; exact hbf j h9; obtain rfl : j = t := (by omega); rw [← hq1]; omega
 have hp74 : ¬ (t < code.l.length) := of_decide_eq_false hb74
 refine wp_exit <| hK62 _ _ <| wp_seq_k fun K161 hK161 => wp_region_lit <| wv h72 (r_ldbw (i := 0) (vs := [vq, v7005, .int .i64 0, .int .i64 8]) ti_28 rfl rfl rfl rfl rfl) rfl rfl fun a162 h162 => wv h162 (r_build (cs := [.int .i64 0, .int .i64 0, .int .i64 0]) rfl rfl (by kernel_rfl)) rfl rfl fun a163 h163 => wl_ex (x_stb (i := 4) (vs := [vq, v7005, .int .i64 0, .int .i64 8]) (cs' := [vq, v7005, .int .i64 0, .int .i64 8]) h163 ti_28 rfl rfl rfl rfl rfl rfl rfl (allOne_cons ((h163.sh.deep 8 rfl)).one (allOne_cons ((h163.sh.own 1 rfl)).one (allOne_cons rfl (allOne_cons rfl allOne_nil)))) (Nat.le_of_ble_eq_true rfl) rfl) (wanted_none rfl _) ?_; clear h72 h162
 rintro a164 w164 h164
 clear h163
 refine wl_ex (x_stb (i := 3) (vs := [.int .i64 0, .int .i64 0, .int .i64 0]) (cs' := [.int .i64 0, .int .i64 0, .int .i64 0]) h164 ti_31 rfl rfl rfl rfl rfl rfl rfl (allOne_cons rfl (allOne_cons rfl (allOne_cons rfl allOne_nil))) (Nat.le_of_ble_eq_true rfl) rfl) (wanted_none rfl _) ?_
 rintro a165 w165 h165
 clear h164
 refine wpList_nil <| hK161 _ _ <| wp_ret ?_
 try simp only [Exit.then, Exit.inBlock]
 refine x_ret2c (fn := Try.f31) (t := 2) (t2 := 3) (i := 4) (i2 := 3) ti_28 ti_31 rfl h165 rfl rfl rfl rfl rfl rfl <| .inl ⟨fun j hj => hbf j (by omega), ?_⟩
 refine ⟨⟨vq, qs⟩, ⟨v7005, words.l ++ List.replicate locks.toNat 0⟩, rfl, ?_, rfl, (h165.sh.sel (L' := [.deep 64 (⟨vq, qs⟩ : Ls (Ls Ins)), .own 3 (⟨v7005, words.l ++ List.replicate locks.toNat 0⟩ : Ls Int)]) [8, 1] (by decide) ⟨rfl, rfl, trivial⟩)⟩
 show qs.map (·.l) = _; rw [hqs, List.take_of_length_le (by omega)]

set_option maxRecDepth 100000 in
set_option maxHeartbeats 8000000 in
theorem link_r (code : Ls (Ls Ins)) (words : Ls Int) (locks regs : Int) (W : World) (hcode : code.At W) (hwords : words.At W) (hok : OkPg (pgOf code words locks regs)) (hr : 6 < regs) :
    Rets Try.prog 31 [.agg #[code.v, words.v, .int .i64 locks, .int .i64 regs]] W (fun v w' => v = .tuple #[.agg #[.slice none 0 0, .slice none 0 0, .int .i64 0, .int .i64 0], (⟨3, 0, 0⟩ : Flt).val] ∧ Sh0 W w' []) := by
 have hz := checkG_ok hok
 obtain ⟨hl1, hl2, hl3, hl4', hl5, hl6, hl7⟩ := ok_len hok
 refine x_enter (N := 91) Try.func31 rfl Try.ntmps31 (Nat.le_of_ble_eq_true rfl) fun a1 hf1 => ?_
 have h1 : St 91 (fun _ => False) W a1 W [(0, .agg #[code.v, words.v, .int .i64 locks, .int .i64 regs])] [.at_ code, .at_ words] := ⟨hf1.sub ⟨rfl, trivial⟩, Sh0.ext2 hcode hwords⟩
 clear hf1
 refine wp_seq_k fun K2 hK2 => wp_region_lit <| wl_ex (x_box (cs := [code.v, words.v, .int .i64 locks, .int .i64 regs]) h1 rfl rfl rfl rfl rfl) (wanted_none rfl _) ?_
 rintro a3 w3 ⟨b3, h3⟩; clear h1
 refine wl_ex (x_alloc h3 ti_28 rfl rfl rfl) (wanted_none rfl _) ?_
 rintro a4 w4 ⟨b4, h4⟩; clear h3
 refine wl_ex (x_alloc h4 ti_31 rfl rfl rfl) (wanted_none rfl _) ?_
 rintro a5 w5 ⟨b5, h5⟩; clear h4
 refine wpList_nil <| hK2 _ _ <| wp_seq_k fun K6 hK6 => wp_seq_k fun K7 hK7 => wp_region_lit <| wv h5 (r_ldbw (i := 2) (vs := [code.v, words.v, .int .i64 locks, .int .i64 regs]) ti_28 rfl rfl rfl rfl rfl) rfl rfl fun a8 h8 => wl_ex (x_call h8 bd_19 rfl rfl rfl rfl rfl (asmCheck_c (code := code) (words := words) (locks := locks) (regs := regs) (h8.sh.at 3 rfl) (h8.sh.at 4 rfl))) (wanted_none rfl _) ?_; clear h5
 rintro a9 w9 ⟨_, ⟨rfl, hs9⟩, hf9⟩
 have h9 : St 91 (fun _ => False) W a9 w9 _ _ := ⟨hf9, h8.sh.call0 hs9⟩
 clear hf9 hs9
 clear h8
 refine wl_ex (x_alloc h9 ti_31 rfl rfl rfl) (wanted_none rfl _) ?_
 rintro a10 w10 ⟨b10, h10⟩; clear h9
 refine wl_ex (x_stb (i := 0) (vs := [.int .i64 ((checkG (pgOf code words locks regs)).code), .int .i64 ((checkG (pgOf code words locks regs)).thread), .int .i64 ((checkG (pgOf code words locks regs)).at_)]) (cs' := [.int .i64 ((checkG (pgOf code words locks regs)).code), .int .i64 ((checkG (pgOf code words locks regs)).thread), .int .i64 ((checkG (pgOf code words locks regs)).at_)]) h10 ti_31 rfl rfl rfl rfl rfl rfl rfl (allOne_cons rfl (allOne_cons rfl (allOne_cons rfl allOne_nil))) (Nat.le_of_ble_eq_true rfl) rfl) (wanted_none rfl _) ?_
 rintro a11 w11 h11
 clear h10
 refine wpList_nil <| hK7 _ _ <| wp_seq_k fun K12 hK12 => wp_region_lit <| wv h11 (r_fieldB (r := 0) fl_31_0 rfl rfl rfl) rfl rfl fun a13 h13 => wv h13 (r_ldb (i := 0) ti_22 rfl rfl rfl rfl) rfl rfl fun a14 h14 => wv h14 (r_neqI (p := (checkG (pgOf code words locks regs)).code) (q := 0) rfl rfl rfl) rfl rfl fun a15 h15 => wpList_nil <| hK12 _ _ <| x_condF h15 rfl (by rw [hz]; rfl) ?_; clear h11 h13 h14
 refine wp_skip <| hK6 _ _ <| wp_seq_k fun K16 hK16 => wp_seq_k fun K17 hK17 => wp_region_lit <| wv h15 (r_fieldB (r := 3) fl_28_3 rfl rfl rfl) rfl rfl fun a18 h18 => wv h18 (r_ldb (i := 3) ti_3 rfl rfl rfl rfl) rfl rfl fun a19 h19 => wv h19 (r_gtrI (p := regs) (q := 6) rfl rfl rfl) rfl rfl fun a20 h20 => wpList_nil <| hK17 _ _ <| x_condT h20 rfl (decide_eq_true hr) <| wp_seq_k fun K21 hK21 => wp_region_lit <| wv h20 (r_build (cs := [(.slice none 0 0), (.slice none 0 0), .int .i64 0, .int .i64 0]) rfl rfl (by kernel_rfl)) rfl rfl fun a22 h22 => ?_; clear h15 h18 h19 h20
 refine wv h22 (r_build (cs := [.int .i64 3, .int .i64 0, .int .i64 0]) rfl rfl (by kernel_rfl)) rfl rfl fun a23 h23 => wl_ex (x_stb (i := 2) (vs := [(.slice none 0 0), (.slice none 0 0), .int .i64 0, .int .i64 0]) (cs' := [(.slice none 0 0), (.slice none 0 0), .int .i64 0, .int .i64 0]) h23 ti_28 rfl rfl rfl rfl rfl rfl rfl (allOne_cons rfl (allOne_cons rfl (allOne_cons rfl (allOne_cons rfl allOne_nil)))) (Nat.le_of_ble_eq_true rfl) rfl) (wanted_none rfl _) ?_; clear h22
 rintro a24 w24 h24
 clear h23
 refine wl_ex (x_stb (i := 1) (vs := [.int .i64 3, .int .i64 0, .int .i64 0]) (cs' := [.int .i64 3, .int .i64 0, .int .i64 0]) h24 ti_31 rfl rfl rfl rfl rfl rfl rfl (allOne_cons rfl (allOne_cons rfl (allOne_cons rfl allOne_nil))) (Nat.le_of_ble_eq_true rfl) rfl) (wanted_none rfl _) ?_
 rintro a25 w25 h25
 clear h24
 refine wpList_nil <| hK21 _ _ <| wp_ret ?_
 try simp only [Exit.then, Exit.inBlock]
 refine x_ret2c (fn := Try.f31) (t := 2) (t2 := 3) (i := 2) (i2 := 1) ti_28 ti_31 rfl h25 rfl rfl rfl rfl rfl rfl ?_
 exact ⟨rfl, (h25.sh.sel [] (by decide) trivial)⟩

set_option maxRecDepth 100000 in
set_option maxHeartbeats 8000000 in
theorem link_s (code : Ls (Ls Ins)) (words : Ls Int) (locks regs : Int) (W : World) (hcode : code.At W) (hwords : words.At W) (hok : OkPg (pgOf code words locks regs)) (hr : regs ≤ 6) (hs : 64 < (words.l.length : Int) + locks) :
    Rets Try.prog 31 [.agg #[code.v, words.v, .int .i64 locks, .int .i64 regs]] W (fun v w' => v = .tuple #[.agg #[.slice none 0 0, .slice none 0 0, .int .i64 0, .int .i64 0], (⟨1, 0, 0⟩ : Flt).val] ∧ Sh0 W w' []) := by
 have hz := checkG_ok hok
 obtain ⟨hl1, hl2, hl3, hl4', hl5, hl6, hl7⟩ := ok_len hok
 refine x_enter (N := 91) Try.func31 rfl Try.ntmps31 (Nat.le_of_ble_eq_true rfl) fun a1 hf1 => ?_
 have h1 : St 91 (fun _ => False) W a1 W [(0, .agg #[code.v, words.v, .int .i64 locks, .int .i64 regs])] [.at_ code, .at_ words] := ⟨hf1.sub ⟨rfl, trivial⟩, Sh0.ext2 hcode hwords⟩
 clear hf1
 refine wp_seq_k fun K2 hK2 => wp_region_lit <| wl_ex (x_box (cs := [code.v, words.v, .int .i64 locks, .int .i64 regs]) h1 rfl rfl rfl rfl rfl) (wanted_none rfl _) ?_
 rintro a3 w3 ⟨b3, h3⟩; clear h1
 refine wl_ex (x_alloc h3 ti_28 rfl rfl rfl) (wanted_none rfl _) ?_
 rintro a4 w4 ⟨b4, h4⟩; clear h3
 refine wl_ex (x_alloc h4 ti_31 rfl rfl rfl) (wanted_none rfl _) ?_
 rintro a5 w5 ⟨b5, h5⟩; clear h4
 refine wpList_nil <| hK2 _ _ <| wp_seq_k fun K6 hK6 => wp_seq_k fun K7 hK7 => wp_region_lit <| wv h5 (r_ldbw (i := 2) (vs := [code.v, words.v, .int .i64 locks, .int .i64 regs]) ti_28 rfl rfl rfl rfl rfl) rfl rfl fun a8 h8 => wl_ex (x_call h8 bd_19 rfl rfl rfl rfl rfl (asmCheck_c (code := code) (words := words) (locks := locks) (regs := regs) (h8.sh.at 3 rfl) (h8.sh.at 4 rfl))) (wanted_none rfl _) ?_; clear h5
 rintro a9 w9 ⟨_, ⟨rfl, hs9⟩, hf9⟩
 have h9 : St 91 (fun _ => False) W a9 w9 _ _ := ⟨hf9, h8.sh.call0 hs9⟩
 clear hf9 hs9
 clear h8
 refine wl_ex (x_alloc h9 ti_31 rfl rfl rfl) (wanted_none rfl _) ?_
 rintro a10 w10 ⟨b10, h10⟩; clear h9
 refine wl_ex (x_stb (i := 0) (vs := [.int .i64 ((checkG (pgOf code words locks regs)).code), .int .i64 ((checkG (pgOf code words locks regs)).thread), .int .i64 ((checkG (pgOf code words locks regs)).at_)]) (cs' := [.int .i64 ((checkG (pgOf code words locks regs)).code), .int .i64 ((checkG (pgOf code words locks regs)).thread), .int .i64 ((checkG (pgOf code words locks regs)).at_)]) h10 ti_31 rfl rfl rfl rfl rfl rfl rfl (allOne_cons rfl (allOne_cons rfl (allOne_cons rfl allOne_nil))) (Nat.le_of_ble_eq_true rfl) rfl) (wanted_none rfl _) ?_
 rintro a11 w11 h11
 clear h10
 refine wpList_nil <| hK7 _ _ <| wp_seq_k fun K12 hK12 => wp_region_lit <| wv h11 (r_fieldB (r := 0) fl_31_0 rfl rfl rfl) rfl rfl fun a13 h13 => wv h13 (r_ldb (i := 0) ti_22 rfl rfl rfl rfl) rfl rfl fun a14 h14 => wv h14 (r_neqI (p := (checkG (pgOf code words locks regs)).code) (q := 0) rfl rfl rfl) rfl rfl fun a15 h15 => wpList_nil <| hK12 _ _ <| x_condF h15 rfl (by rw [hz]; rfl) ?_; clear h11 h13 h14
 refine wp_skip <| hK6 _ _ <| wp_seq_k fun K16 hK16 => wp_seq_k fun K17 hK17 => wp_region_lit <| wv h15 (r_fieldB (r := 3) fl_28_3 rfl rfl rfl) rfl rfl fun a18 h18 => wv h18 (r_ldb (i := 3) ti_3 rfl rfl rfl rfl) rfl rfl fun a19 h19 => wv h19 (r_gtrI (p := regs) (q := 6) rfl rfl rfl) rfl rfl fun a20 h20 => wpList_nil <| hK17 _ _ <| x_condF h20 rfl (decide_eq_false (by omega)) <| wp_skip <| hK16 _ _ <| wp_seq_k fun K21 hK21 => ?_; clear h15 h18 h19
 refine wp_seq_k fun K22 hK22 => wp_region_lit <| wv h20 (r_fieldB (r := 1) fl_28_1 rfl rfl rfl) rfl rfl fun a23 h23 => wv h23 (r_ldb (i := 3) ti_24 rfl rfl rfl rfl) rfl rfl fun a24 h24 => ?_; clear h20 h23
 have hl25 : words.l.length ≤ 140737488355328 := (h24.sh.at 5 rfl).len
 refine wv h24 (r_len (s := words) (n := words.l.length) sl_24 rfl rfl (fun w h => (h.at 5 rfl)) rfl) rfl rfl fun a26 h26 => wv h26 (r_fieldB (r := 2) fl_28_2 rfl rfl rfl) rfl rfl fun a27 h27 => wv h27 (r_ldb (i := 3) ti_3 rfl rfl rfl rfl) rfl rfl fun a28 h28 => wv h28 (r_addI (p := ((words.l.length : Nat) : Int)) (q := locks) rfl rfl rfl (show -9223372036854775808 ≤ ((words.l.length : Nat) : Int) + locks ∧ ((words.l.length : Nat) : Int) + locks < 9223372036854775808 from (by omega))) rfl rfl fun a29 h29 => wv h29 (r_gtrI (p := ((words.l.length : Nat) : Int) + locks) (q := 64) rfl rfl rfl) rfl rfl fun a30 h30 => wpList_nil <| hK22 _ _ <| x_condT h30 rfl (decide_eq_true (by omega)) <| wp_seq_k fun K31 hK31 => wp_region_lit <| wv h30 (r_build (cs := [(.slice none 0 0), (.slice none 0 0), .int .i64 0, .int .i64 0]) rfl rfl (by kernel_rfl)) rfl rfl fun a32 h32 => wv h32 (r_build (cs := [.int .i64 1, .int .i64 0, .int .i64 0]) rfl rfl (by kernel_rfl)) rfl rfl fun a33 h33 => wl_ex (x_stb (i := 2) (vs := [(.slice none 0 0), (.slice none 0 0), .int .i64 0, .int .i64 0]) (cs' := [(.slice none 0 0), (.slice none 0 0), .int .i64 0, .int .i64 0]) h33 ti_28 rfl rfl rfl rfl rfl rfl rfl (allOne_cons rfl (allOne_cons rfl (allOne_cons rfl (allOne_cons rfl allOne_nil)))) (Nat.le_of_ble_eq_true rfl) rfl) (wanted_none rfl _) ?_; clear h24 h26 h27 h28 h29 h30 h32
 rintro a34 w34 h34
 clear h33
 refine wl_ex (x_stb (i := 1) (vs := [.int .i64 1, .int .i64 0, .int .i64 0]) (cs' := [.int .i64 1, .int .i64 0, .int .i64 0]) h34 ti_31 rfl rfl rfl rfl rfl rfl rfl (allOne_cons rfl (allOne_cons rfl (allOne_cons rfl allOne_nil))) (Nat.le_of_ble_eq_true rfl) rfl) (wanted_none rfl _) ?_
 rintro a35 w35 h35
 clear h34
 refine wpList_nil <| hK31 _ _ <| wp_ret ?_
 try simp only [Exit.then, Exit.inBlock]
 refine x_ret2c (fn := Try.f31) (t := 2) (t2 := 3) (i := 2) (i2 := 1) ti_28 ti_31 rfl h35 rfl rfl rfl rfl rfl rfl ?_
 exact ⟨rfl, (h35.sh.sel [] (by decide) trivial)⟩

set_option maxRecDepth 100000 in
set_option maxHeartbeats 8000000 in
theorem link_b (code : Ls (Ls Ins)) (words : Ls Int) (locks regs : Int) (W : World) (hcode : code.At W) (hwords : words.At W) (hz : (checkG (pgOf code words locks regs)).code ≠ 0) :
    Rets Try.prog 31 [.agg #[code.v, words.v, .int .i64 locks, .int .i64 regs]] W (fun v w' => v = .tuple #[.agg #[.slice none 0 0, .slice none 0 0, .int .i64 0, .int .i64 0], (checkG (pgOf code words locks regs)).val] ∧ Sh0 W w' []) := by
 refine x_enter (N := 91) Try.func31 rfl Try.ntmps31 (Nat.le_of_ble_eq_true rfl) fun a1 hf1 => ?_
 have h1 : St 91 (fun _ => False) W a1 W [(0, .agg #[code.v, words.v, .int .i64 locks, .int .i64 regs])] [.at_ code, .at_ words] := ⟨hf1.sub ⟨rfl, trivial⟩, Sh0.ext2 hcode hwords⟩
 clear hf1
 refine wp_seq_k fun K2 hK2 => wp_region_lit <| wl_ex (x_box (cs := [code.v, words.v, .int .i64 locks, .int .i64 regs]) h1 rfl rfl rfl rfl rfl) (wanted_none rfl _) ?_
 rintro a3 w3 ⟨b3, h3⟩; clear h1
 refine wl_ex (x_alloc h3 ti_28 rfl rfl rfl) (wanted_none rfl _) ?_
 rintro a4 w4 ⟨b4, h4⟩; clear h3
 refine wl_ex (x_alloc h4 ti_31 rfl rfl rfl) (wanted_none rfl _) ?_
 rintro a5 w5 ⟨b5, h5⟩; clear h4
 refine wpList_nil <| hK2 _ _ <| wp_seq_k fun K6 hK6 => wp_seq_k fun K7 hK7 => wp_region_lit <| wv h5 (r_ldbw (i := 2) (vs := [code.v, words.v, .int .i64 locks, .int .i64 regs]) ti_28 rfl rfl rfl rfl rfl) rfl rfl fun a8 h8 => wl_ex (x_call h8 bd_19 rfl rfl rfl rfl rfl (asmCheck_c (code := code) (words := words) (locks := locks) (regs := regs) (h8.sh.at 3 rfl) (h8.sh.at 4 rfl))) (wanted_none rfl _) ?_; clear h5
 rintro a9 w9 ⟨_, ⟨rfl, hs9⟩, hf9⟩
 have h9 : St 91 (fun _ => False) W a9 w9 _ _ := ⟨hf9, h8.sh.call0 hs9⟩
 clear hf9 hs9
 clear h8
 refine wl_ex (x_alloc h9 ti_31 rfl rfl rfl) (wanted_none rfl _) ?_
 rintro a10 w10 ⟨b10, h10⟩; clear h9
 refine wl_ex (x_stb (i := 0) (vs := [.int .i64 ((checkG (pgOf code words locks regs)).code), .int .i64 ((checkG (pgOf code words locks regs)).thread), .int .i64 ((checkG (pgOf code words locks regs)).at_)]) (cs' := [.int .i64 ((checkG (pgOf code words locks regs)).code), .int .i64 ((checkG (pgOf code words locks regs)).thread), .int .i64 ((checkG (pgOf code words locks regs)).at_)]) h10 ti_31 rfl rfl rfl rfl rfl rfl rfl (allOne_cons rfl (allOne_cons rfl (allOne_cons rfl allOne_nil))) (Nat.le_of_ble_eq_true rfl) rfl) (wanted_none rfl _) ?_
 rintro a11 w11 h11
 clear h10
 refine wpList_nil <| hK7 _ _ <| wp_seq_k fun K12 hK12 => wp_region_lit <| wv h11 (r_fieldB (r := 0) fl_31_0 rfl rfl rfl) rfl rfl fun a13 h13 => wv h13 (r_ldb (i := 0) ti_22 rfl rfl rfl rfl) rfl rfl fun a14 h14 => wv h14 (r_neqI (p := (checkG (pgOf code words locks regs)).code) (q := 0) rfl rfl rfl) rfl rfl fun a15 h15 => wpList_nil <| hK12 _ _ <| x_condT h15 rfl (decide_eq_true hz) <| wp_seq_k fun K16 hK16 => ?_; clear h11 h13 h14
 have h17 : St 91 (fun _ => False) W a15 w11 [(0, .agg #[code.v, words.v, .int .i64 locks, .int .i64 regs]), (1, .pointer (some ⟨b3, 0, none⟩)), (2, .pointer (some ⟨b4, 0, none⟩)), (3, .pointer (some ⟨b5, 0, none⟩)), (4, .pointer (some ⟨b10, 0, none⟩)), (11, .agg #[code.v, words.v, .int .i64 locks, .int .i64 regs]), (12, .agg #[.int .i64 ((checkG (pgOf code words locks regs)).code), .int .i64 ((checkG (pgOf code words locks regs)).thread), .int .i64 ((checkG (pgOf code words locks regs)).at_)]), (13, .pointer (some ⟨b10, 0, none⟩)), (14, .int .i64 ((checkG (pgOf code words locks regs)).code)), (15, .bool (decide ((checkG (pgOf code words locks regs)).code ≠ 0)))] [.blk b10 31 [.int .i64 ((checkG (pgOf code words locks regs)).code), .int .i64 ((checkG (pgOf code words locks regs)).thread), .int .i64 ((checkG (pgOf code words locks regs)).at_)], .blk b5 31 [.int .i64 0, .int .i64 0, .int .i64 0], .blk b4 28 [(.slice none 0 0), (.slice none 0 0), .int .i64 0, .int .i64 0], .blk b3 28 [code.v, words.v, .int .i64 locks, .int .i64 regs], .at_ code, .at_ words] := h15.nrm ⟨rfl, rfl, rfl, rfl, rfl, rfl, rfl, rfl, rfl, rfl, trivial⟩ [0, 1, 2, 3, 4, 5] (by decide) ⟨rfl, rfl, rfl, rfl, rfl, rfl, trivial⟩
 clear h15
 refine x_any (fun S a w => (S 2 = false ∧ S 3 = false ∧ FrI 91 S [(0, .agg #[code.v, words.v, .int .i64 locks, .int .i64 regs]), (1, .pointer (some ⟨b3, 0, none⟩)), (2, .pointer (some ⟨b4, 0, none⟩)), (3, .pointer (some ⟨b5, 0, none⟩)), (4, .pointer (some ⟨b10, 0, none⟩)), (11, .agg #[code.v, words.v, .int .i64 locks, .int .i64 regs]), (12, .agg #[.int .i64 ((checkG (pgOf code words locks regs)).code), .int .i64 ((checkG (pgOf code words locks regs)).thread), .int .i64 ((checkG (pgOf code words locks regs)).at_)]), (13, .pointer (some ⟨b10, 0, none⟩)), (14, .int .i64 ((checkG (pgOf code words locks regs)).code)), (15, .bool (decide ((checkG (pgOf code words locks regs)).code ≠ 0)))] [(0, 16, .agg #[(.slice none 0 0), (.slice none 0 0), .int .i64 0, .int .i64 0]), (1, 17, .agg #[.int .i64 ((checkG (pgOf code words locks regs)).code), .int .i64 ((checkG (pgOf code words locks regs)).thread), .int .i64 ((checkG (pgOf code words locks regs)).at_)])] a ∧ Sh (fun _ => False) W w [.blk b10 31 [.int .i64 ((checkG (pgOf code words locks regs)).code), .int .i64 ((checkG (pgOf code words locks regs)).thread), .int .i64 ((checkG (pgOf code words locks regs)).at_)], .blk b5 31 [.int .i64 0, .int .i64 0, .int .i64 0], .blk b4 28 [(.slice none 0 0), (.slice none 0 0), .int .i64 0, .int .i64 0], .blk b3 28 [code.v, words.v, .int .i64 locks, .int .i64 regs], .at_ code, .at_ words]) ∨ (S 2 = true ∧ S 3 = false ∧ FrI 91 S [(0, .agg #[code.v, words.v, .int .i64 locks, .int .i64 regs]), (1, .pointer (some ⟨b3, 0, none⟩)), (2, .pointer (some ⟨b4, 0, none⟩)), (3, .pointer (some ⟨b5, 0, none⟩)), (4, .pointer (some ⟨b10, 0, none⟩)), (11, .agg #[code.v, words.v, .int .i64 locks, .int .i64 regs]), (12, .agg #[.int .i64 ((checkG (pgOf code words locks regs)).code), .int .i64 ((checkG (pgOf code words locks regs)).thread), .int .i64 ((checkG (pgOf code words locks regs)).at_)]), (13, .pointer (some ⟨b10, 0, none⟩)), (14, .int .i64 ((checkG (pgOf code words locks regs)).code)), (15, .bool (decide ((checkG (pgOf code words locks regs)).code ≠ 0)))] [(0, 16, .agg #[(.slice none 0 0), (.slice none 0 0), .int .i64 0, .int .i64 0]), (1, 17, .agg #[.int .i64 ((checkG (pgOf code words locks regs)).code), .int .i64 ((checkG (pgOf code words locks regs)).thread), .int .i64 ((checkG (pgOf code words locks regs)).at_)])] a ∧ Sh (fun _ => False) W w [.blk b10 31 [.int .i64 ((checkG (pgOf code words locks regs)).code), .int .i64 ((checkG (pgOf code words locks regs)).thread), .int .i64 ((checkG (pgOf code words locks regs)).at_)], .blk b5 31 [.int .i64 0, .int .i64 0, .int .i64 0], .blk b4 28 [(.slice none 0 0), (.slice none 0 0), .int .i64 0, .int .i64 0], .blk b3 28 [code.v, words.v, .int .i64 locks, .int .i64 regs], .at_ code, .at_ words]) ∨ (S 2 = true ∧ S 3 = true ∧ FrI 91 S [(0, .agg #[code.v, words.v, .int .i64 locks, .int .i64 regs]), (1, .pointer (some ⟨b3, 0, none⟩)), (2, .pointer (some ⟨b4, 0, none⟩)), (3, .pointer (some ⟨b5, 0, none⟩)), (4, .pointer (some ⟨b10, 0, none⟩)), (11, .agg #[code.v, words.v, .int .i64 locks, .int .i64 regs]), (12, .agg #[.int .i64 ((checkG (pgOf code words locks regs)).code), .int .i64 ((checkG (pgOf code words locks regs)).thread), .int .i64 ((checkG (pgOf code words locks regs)).at_)]), (13, .pointer (some ⟨b10, 0, none⟩)), (14, .int .i64 ((checkG (pgOf code words locks regs)).code)), (15, .bool (decide ((checkG (pgOf code words locks regs)).code ≠ 0)))] [(0, 16, .agg #[(.slice none 0 0), (.slice none 0 0), .int .i64 0, .int .i64 0]), (1, 17, .agg #[.int .i64 ((checkG (pgOf code words locks regs)).code), .int .i64 ((checkG (pgOf code words locks regs)).thread), .int .i64 ((checkG (pgOf code words locks regs)).at_)])] a ∧ Sh (fun _ => False) W w [.blk b10 31 [.int .i64 ((checkG (pgOf code words locks regs)).code), .int .i64 ((checkG (pgOf code words locks regs)).thread), .int .i64 ((checkG (pgOf code words locks regs)).at_)], .blk b5 31 [.int .i64 ((checkG (pgOf code words locks regs)).code), .int .i64 ((checkG (pgOf code words locks regs)).thread), .int .i64 ((checkG (pgOf code words locks regs)).at_)], .blk b4 28 [(.slice none 0 0), (.slice none 0 0), .int .i64 0, .int .i64 0], .blk b3 28 [code.v, words.v, .int .i64 locks, .int .i64 regs], .at_ code, .at_ words])) (by kernel_rfl) (by kernel_rfl) (Or.inl (⟨rfl, rfl, FrI.start h17.fr, h17.sh.drew⟩)) ?_ ?_
 ·intro S i o ho hSi hcl hdep a w hI
  clear h17
  rcases i with _ | _ | _ | _ | i
  ·
   obtain rfl : _ = o := Option.some.inj ho
   rcases hI with ⟨hw2, hw3, hfr, hsh⟩ | ⟨hw2, hw3, hfr, hsh⟩ | ⟨hw2, hw3, hfr, hsh⟩
   ·
    exact sq hfr hfr.fr0 hsh (r_build (cs := [(.slice none 0 0), (.slice none 0 0), .int .i64 0, .int .i64 0]) rfl rfl (by kernel_rfl)) 0 rfl rfl rfl rfl rfl rfl fun a hg => Or.inl (⟨un rfl hw2, un rfl hw3, hg, hsh⟩)
   ·
    exact no_way (cA hcl 2 0 rfl hw2) hSi
   ·
    exact no_way (cA hcl 2 0 rfl hw2) hSi
  ·
   obtain rfl : _ = o := Option.some.inj ho
   rcases hI with ⟨hw2, hw3, hfr, hsh⟩ | ⟨hw2, hw3, hfr, hsh⟩ | ⟨hw2, hw3, hfr, hsh⟩
   ·
    exact sq hfr hfr.fr0 hsh (r_ldbw (i := 0) (vs := [.int .i64 ((checkG (pgOf code words locks regs)).code), .int .i64 ((checkG (pgOf code words locks regs)).thread), .int .i64 ((checkG (pgOf code words locks regs)).at_)]) ti_31 rfl rfl rfl rfl rfl) 1 rfl rfl rfl rfl rfl rfl fun a hg => Or.inl (⟨un rfl hw2, un rfl hw3, hg, hsh⟩)
   ·
    exact sq hfr hfr.fr0 hsh (r_ldbw (i := 0) (vs := [.int .i64 ((checkG (pgOf code words locks regs)).code), .int .i64 ((checkG (pgOf code words locks regs)).thread), .int .i64 ((checkG (pgOf code words locks regs)).at_)]) ti_31 rfl rfl rfl rfl rfl) 1 rfl rfl rfl rfl rfl rfl fun a hg => Or.inr (Or.inl (⟨un rfl hw2, un rfl hw3, hg, hsh⟩))
   ·
    exact no_way (cA hcl 3 1 rfl hw3) hSi
  ·
   obtain rfl : _ = o := Option.some.inj ho
   have hd0 : S 0 = true := depAt hdep 0 rfl rfl
   rcases hI with ⟨hw2, hw3, hfr, hsh⟩ | ⟨hw2, hw3, hfr, hsh⟩ | ⟨hw2, hw3, hfr, hsh⟩
   ·
    have hs := St.mk (Fr.cons hfr.fr0 (hfr.at_ 0 0 16 _ rfl hd0)) hsh
    refine step_ex (x_stb (i := 2) (vs := [(.slice none 0 0), (.slice none 0 0), .int .i64 0, .int .i64 0]) (cs' := [(.slice none 0 0), (.slice none 0 0), .int .i64 0, .int .i64 0]) hs ti_28 rfl rfl rfl rfl rfl rfl rfl (allOne_cons rfl (allOne_cons rfl (allOne_cons rfl (allOne_cons rfl allOne_nil)))) (Nat.le_of_ble_eq_true rfl) rfl) (wanted_none rfl _) ?_
    rintro a22 w22 h22 ⟨v0, ht22⟩
    have hm22 : FrI 91 S [(0, .agg #[code.v, words.v, .int .i64 locks, .int .i64 regs]), (1, .pointer (some ⟨b3, 0, none⟩)), (2, .pointer (some ⟨b4, 0, none⟩)), (3, .pointer (some ⟨b5, 0, none⟩)), (4, .pointer (some ⟨b10, 0, none⟩)), (11, .agg #[code.v, words.v, .int .i64 locks, .int .i64 regs]), (12, .agg #[.int .i64 ((checkG (pgOf code words locks regs)).code), .int .i64 ((checkG (pgOf code words locks regs)).thread), .int .i64 ((checkG (pgOf code words locks regs)).at_)]), (13, .pointer (some ⟨b10, 0, none⟩)), (14, .int .i64 ((checkG (pgOf code words locks regs)).code)), (15, .bool (decide ((checkG (pgOf code words locks regs)).code ≠ 0)))] [(0, 16, .agg #[(.slice none 0 0), (.slice none 0 0), .int .i64 0, .int .i64 0]), (1, 17, .agg #[.int .i64 ((checkG (pgOf code words locks regs)).code), .int .i64 ((checkG (pgOf code words locks regs)).thread), .int .i64 ((checkG (pgOf code words locks regs)).at_)])] a := hfr.more (by
     intro k j d v hk hS
     rcases k with _ | _ | k
     ·obtain ⟨rfl, rfl, rfl⟩ : _ = j ∧ _ = d ∧ _ = v := by simpa using hk
      exact hfr.at_ 0 _ _ _ rfl hS
     ·obtain ⟨rfl, rfl, rfl⟩ : _ = j ∧ _ = d ∧ _ = v := by simpa using hk
      exact hfr.at_ 1 _ _ _ rfl hS
     · simp at hk)
    exact Or.inr (Or.inl (⟨upd_self _ _, un rfl hw3, hm22.none ht22 h22.fr.defers rfl, (h22.sh.sel (L' := [.blk b10 31 [.int .i64 ((checkG (pgOf code words locks regs)).code), .int .i64 ((checkG (pgOf code words locks regs)).thread), .int .i64 ((checkG (pgOf code words locks regs)).at_)], .blk b5 31 [.int .i64 0, .int .i64 0, .int .i64 0], .blk b4 28 [(.slice none 0 0), (.slice none 0 0), .int .i64 0, .int .i64 0], .blk b3 28 [code.v, words.v, .int .i64 locks, .int .i64 regs], .at_ code, .at_ words]) [0, 1, 2, 3, 4, 5] (by decide) ⟨rfl, rfl, rfl, rfl, rfl, rfl, trivial⟩)⟩))
   ·
    exact no_way hw2 hSi
   ·
    exact no_way hw2 hSi
  ·
   obtain rfl : _ = o := Option.some.inj ho
   have hd1 : S 1 = true := depAt hdep 0 rfl rfl
   have hd2 : S 2 = true := depAt hdep 1 rfl rfl
   rcases hI with ⟨hw2, hw3, hfr, hsh⟩ | ⟨hw2, hw3, hfr, hsh⟩ | ⟨hw2, hw3, hfr, hsh⟩
   ·
    exact no_way hd2 hw2
   ·
    have hs := St.mk (Fr.cons hfr.fr0 (hfr.at_ 1 1 17 _ rfl hd1)) hsh
    refine step_ex (x_stb (i := 1) (vs := [.int .i64 ((checkG (pgOf code words locks regs)).code), .int .i64 ((checkG (pgOf code words locks regs)).thread), .int .i64 ((checkG (pgOf code words locks regs)).at_)]) (cs' := [.int .i64 ((checkG (pgOf code words locks regs)).code), .int .i64 ((checkG (pgOf code words locks regs)).thread), .int .i64 ((checkG (pgOf code words locks regs)).at_)]) hs ti_31 rfl rfl rfl rfl rfl rfl rfl (allOne_cons rfl (allOne_cons rfl (allOne_cons rfl allOne_nil))) (Nat.le_of_ble_eq_true rfl) rfl) (wanted_none rfl _) ?_
    rintro a23 w23 h23 ⟨v0, ht23⟩
    have hm23 : FrI 91 S [(0, .agg #[code.v, words.v, .int .i64 locks, .int .i64 regs]), (1, .pointer (some ⟨b3, 0, none⟩)), (2, .pointer (some ⟨b4, 0, none⟩)), (3, .pointer (some ⟨b5, 0, none⟩)), (4, .pointer (some ⟨b10, 0, none⟩)), (11, .agg #[code.v, words.v, .int .i64 locks, .int .i64 regs]), (12, .agg #[.int .i64 ((checkG (pgOf code words locks regs)).code), .int .i64 ((checkG (pgOf code words locks regs)).thread), .int .i64 ((checkG (pgOf code words locks regs)).at_)]), (13, .pointer (some ⟨b10, 0, none⟩)), (14, .int .i64 ((checkG (pgOf code words locks regs)).code)), (15, .bool (decide ((checkG (pgOf code words locks regs)).code ≠ 0)))] [(0, 16, .agg #[(.slice none 0 0), (.slice none 0 0), .int .i64 0, .int .i64 0]), (1, 17, .agg #[.int .i64 ((checkG (pgOf code words locks regs)).code), .int .i64 ((checkG (pgOf code words locks regs)).thread), .int .i64 ((checkG (pgOf code words locks regs)).at_)])] a := hfr.more (by
     intro k j d v hk hS
     rcases k with _ | _ | k
     ·obtain ⟨rfl, rfl, rfl⟩ : _ = j ∧ _ = d ∧ _ = v := by simpa using hk
      exact hfr.at_ 0 _ _ _ rfl hS
     ·obtain ⟨rfl, rfl, rfl⟩ : _ = j ∧ _ = d ∧ _ = v := by simpa using hk
      exact hfr.at_ 1 _ _ _ rfl hS
     · simp at hk)
    exact Or.inr (Or.inr (⟨un rfl hw2, upd_self _ _, hm23.none ht23 h23.fr.defers rfl, (h23.sh.sel (L' := [.blk b10 31 [.int .i64 ((checkG (pgOf code words locks regs)).code), .int .i64 ((checkG (pgOf code words locks regs)).thread), .int .i64 ((checkG (pgOf code words locks regs)).at_)], .blk b5 31 [.int .i64 ((checkG (pgOf code words locks regs)).code), .int .i64 ((checkG (pgOf code words locks regs)).thread), .int .i64 ((checkG (pgOf code words locks regs)).at_)], .blk b4 28 [(.slice none 0 0), (.slice none 0 0), .int .i64 0, .int .i64 0], .blk b3 28 [code.v, words.v, .int .i64 locks, .int .i64 regs], .at_ code, .at_ words]) [0, 1, 2, 3, 4, 5] (by decide) ⟨rfl, rfl, rfl, rfl, rfl, rfl, trivial⟩)⟩))
   ·
    exact no_way hw3 hSi
  · simp at ho
 intro S hall a w hI
 clear h17
 rcases hI with ⟨hw2, hw3, hfr, hsh⟩ | ⟨hw2, hw3, hfr, hsh⟩ | ⟨hw2, hw3, hfr, hsh⟩
 · exact no_way (hall 2 (by decide)) hw2
 · exact no_way (hall 3 (by decide)) hw3
 have h24 : St 91 (fun _ => False) W a w _ [.blk b10 31 [.int .i64 ((checkG (pgOf code words locks regs)).code), .int .i64 ((checkG (pgOf code words locks regs)).thread), .int .i64 ((checkG (pgOf code words locks regs)).at_)], .blk b5 31 [.int .i64 ((checkG (pgOf code words locks regs)).code), .int .i64 ((checkG (pgOf code words locks regs)).thread), .int .i64 ((checkG (pgOf code words locks regs)).at_)], .blk b4 28 [(.slice none 0 0), (.slice none 0 0), .int .i64 0, .int .i64 0], .blk b3 28 [code.v, words.v, .int .i64 locks, .int .i64 regs], .at_ code, .at_ words] := ⟨hfr.fr0, hsh⟩
 clear hall hfr hsh hw2 hw3
 refine hK16 _ _ <| wp_ret ?_
 try simp only [Exit.then, Exit.inBlock]
 refine x_ret2c (fn := Try.f31) (t := 2) (t2 := 3) (i := 2) (i2 := 1) ti_28 ti_31 rfl h24 rfl rfl rfl rfl rfl rfl ?_
 exact ⟨rfl, (h24.sh.sel [] (by decide) trivial)⟩

theorem link_k (code : Ls (Ls Ins)) (words : Ls Int) (locks regs : Int) (W : World) (hcode : code.At W) (hwords : words.At W) (hok : OkPg (pgOf code words locks regs)) (hr : regs ≤ 6) (hs : (words.l.length : Int) + locks ≤ 64) (hshort : ∀ j, j < code.l.length → (linkL words.l.length (nth code.l j).l).length ≤ 400) :
    Rets Try.prog 31 [.agg #[code.v, words.v, .int .i64 locks, .int .i64 regs]] W (fun v w' => ∃ (c : Ls (Ls Ins)) (u : Ls Int), v = .tuple #[.agg #[c.v, u.v, .int .i64 0, .int .i64 8], .agg #[.int .i64 0, .int .i64 0, .int .i64 0]] ∧ c.l.map (·.l) = (code.l.map (·.l)).map (linkL words.l.length) ∧ u.l = words.l ++ List.replicate locks.toNat 0 ∧ Sh0 W w' [.deep 64 c, .own 3 u]) :=
  (link_kl code words locks regs W hcode hwords hok hr hs).mono fun v w' h => h.elim (fun h => h.2) fun ⟨k, hk, h4, _⟩ => absurd (hshort k hk) (by omega)
theorem link_l (code : Ls (Ls Ins)) (words : Ls Int) (locks regs : Int) (k : Nat) (W : World) (hcode : code.At W) (hwords : words.At W) (hok : OkPg (pgOf code words locks regs)) (hr : regs ≤ 6) (hs : (words.l.length : Int) + locks ≤ 64) (hk : k < code.l.length) (h400 : 400 < (linkL words.l.length (nth code.l k).l).length) (hbef : ∀ j, j < k → (linkL words.l.length (nth code.l j).l).length ≤ 400) :
    Rets Try.prog 31 [.agg #[code.v, words.v, .int .i64 locks, .int .i64 regs]] W (fun v w' => v = .tuple #[.agg #[.slice none 0 0, .slice none 0 0, .int .i64 0, .int .i64 0], (⟨1, k, 0⟩ : Flt).val] ∧ Sh0 W w' []) :=
  (link_kl code words locks regs W hcode hwords hok hr hs).mono fun v w' h => h.elim (fun h => absurd (h.1 k hk) (by omega)) fun ⟨k', hk', h4, hb, h⟩ => by
    obtain rfl : k' = k := by
      rcases Nat.lt_trichotomy k' k with hq | hq | hq
      · have := hbef k' hq; omega
      · exact hq
      · have := hb k hq; omega
    exact h

end Go.Proofs.Ytanhbpofhebbaaa
