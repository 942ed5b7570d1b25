/-
  Contracts of functions of this program and of the references, each walked once.
-/
import Derived.Test.YtanhbpofhebbaaaX35
import Derived.Test.YtanhbpofhebbaaaX5
namespace Go.Proofs.Ytanhbpofhebbaaa
open Go.RowKit
set_option linter.unusedSimpArgs false
set_option linter.unusedVariables false


theorem liveA_len (f : Nat → Nat → Bool) (n : Nat) : (liveA f n).length = n + 1 := by simp [liveA]
theorem liveA_nth {f : Nat → Nat → Bool} {n j : Nat} (h : j < n + 1) : (nth (liveA f n) j).l = (List.range 200).map fun r => f r j := by
  unfold liveA
  rw [nth_mapR h]
theorem liveA_200 {f : Nat → Nat → Bool} {n j : Nat} (h : j < n + 1) : (nth (liveA f n) j).l.length = 200 := by rw [liveA_nth h, List.length_map, List.length_range]
def aheadL (f : Nat → Nat → Bool) (m : Nat) : List (List Int) := (List.range m).map fun j => listB ((List.range 200).map fun r => f r j)
theorem aheadL_succ (f : Nat → Nat → Bool) (m : Nat) : aheadL f (m + 1) = aheadL f m ++ [listB ((List.range 200).map fun r => f r m)] := by unfold aheadL; rw [List.range_succ (n := m), List.map_append]; rfl
def clashL (code : List Ins) (f : Nat → Nat → Bool) (m : Nat) : List (List Int) := (List.range m).map fun r => listB ((List.range 200).map fun b => clTo code f code.length r b)
theorem zerosA (n a b : Nat) : get2 BArr.l (List.replicate n ⟨List.replicate 200 false⟩) a b = false := col_zero n b a
theorem set_lenA {M : List BArr} {i q : Nat} {b : Bool} (h : ∀ a, a < M.length → (nth M a).l.length = 200) : ∀ a, a < (M.set i ⟨(nth M i).l.set q b⟩).length → (nth (M.set i ⟨(nth M i).l.set q b⟩) a).l.length = 200 := by
  intro a ha
  rw [List.length_set] at ha
  rw [nth_set]
  split
  · rename_i h9; rw [List.length_set, h9.1]; exact h a ha
  · exact h a ha
theorem lenA_zero (n : Nat) : ∀ a, a < (List.replicate n (⟨List.replicate 200 false⟩ : BArr)).length → (nth (List.replicate n (⟨List.replicate 200 false⟩ : BArr)) a).l.length = 200 := by
  intro a ha
  rw [List.length_replicate] at ha
  have : nth (List.replicate n (⟨List.replicate 200 false⟩ : BArr)) a = ⟨List.replicate 200 false⟩ := by simp [nth, ha]
  rw [this]
  exact List.length_replicate
theorem rowsI_eq {M : List (Ls Int)} {m : Nat} {h : Nat → List Int} (hl : M.length = m) (hv : ∀ a, a < m → (nth M a).l = h a) : M.map (·.l) = (List.range m).map h := by
  apply List.ext_getElem (by simp [hl])
  intro i h1 h2
  have := hv i (by simpa [hl] using h1)
  rw [nth_lt _ _ (by simpa using h1)] at this
  simpa using this
theorem barr_noRd {E : TypeId} {s : Ls BArr} {X : Prop} {b : Nat} (h : (Asn.own E s).rd b) : X := by
  obtain ⟨i, _, hi⟩ := h
  exact hi.elim
theorem list_ls {P : Program} {f : FuncId} {vs : List Value} {W : World} {l : List Int} {E : TypeId} (h : Rets P f vs W (fun v w' => ∃ s : Ls Int, v = s.v ∧ s.l = l ∧ Sh0 W w' [.own E s])) : Rets P f vs W (fun v w' => ∃ s : Ls Int, v = s.v ∧ Sh0 W w' [.own E (⟨s.v, l⟩ : Ls Int)]) :=
  h.mono fun v w' ⟨s, h1, h2, h3⟩ => ⟨s, h1, by subst h2; exact h3⟩

set_option maxRecDepth 100000 in
set_option maxHeartbeats 1000000 in
theorem clip_c (s : Ls Int) (W : World) (hs : s.At W) :
    Rets Try.prog 82 [s.v] W (fun v w' => v = vclip s.v ∧ Sh0 W w' []) := by
 refine x_enter (N := 9) Try.func82 rfl Try.ntmps82 (Nat.le_of_ble_eq_true rfl) fun a1 hf1 => ?_
 have h1 : St 9 (fun _ => False) W a1 W [(0, s.v)] [.at_ s] := ⟨hf1.sub ⟨rfl, trivial⟩, Sh0.ext1 hs⟩
 clear hf1
 refine wp_seq_k fun K2 hK2 => wp_region_lit ?_
 refine wms 1 h1 rfl fun a3 h3 => ?_; clear h1
 refine wpList_nil (hK2 _ _ ?_)
 refine wp_seq_k fun K4 hK4 => wp_region_lit ?_
 refine wms 2 h3 rfl fun a5 h5 => ?_; clear h3
 have hl6 : s.l.length ≤ 140737488355328 := (h5.sh.at 0 rfl).len
 refine wv h5 (r_len (s := s) (n := s.l.length) sl_24 rfl rfl (fun w h => (h.at 0 rfl)) rfl) rfl rfl fun a7 h7 => ?_; clear h5
 refine wms 1 h7 rfl fun a8 h8 => ?_; clear h7
 refine wv h8 (r_len (s := s) (n := s.l.length) sl_24 rfl rfl (fun w h => (h.at 0 rfl)) rfl) rfl rfl fun a9 h9 => ?_; clear h8
 refine wv h9 (r_slClip (s := s) sl_24 ti_3 rfl rfl rfl rfl (fun w h => (h.at 0 rfl))) rfl rfl fun a10 h10 => ?_; clear h9
 refine wms 1 h10 rfl fun a11 h11 => ?_; clear h10
 refine wpList_nil (hK4 _ _ ?_)
 refine wp_ret ?_
 try simp only [Exit.then, Exit.inBlock]
 refine x_ret1 (fn := Try.f82) (t := 2) rfl h11 rfl ?_
 exact ⟨rfl, (h11.sh.sel [] (by decide) trivial)⟩

set_option maxRecDepth 100000 in
set_option maxHeartbeats 4000000 in
theorem ahead_k (code : Ls (Ls Ins)) (words : Ls Int) (locks regs : Int) (f : Nat → Nat → Nat → Bool) (W : World) (hcode : code.At W) (hwords : words.At W) (hok : OkPg (pgOf code words locks regs)) (hF : ∀ t, t < code.l.length → ∀ r j, (f t r j = true ↔ LiveI (nth code.l t).l r j)) :
    Rets Try.prog 36 [.agg #[code.v, words.v, .int .i64 locks, .int .i64 regs]] W (fun v w' => ∃ s : Ls (Ls (Ls Int)), v = .tuple #[s.v, .agg #[.int .i64 0, .int .i64 0, .int .i64 0]] ∧ s.l.map (fun y => y.l.map (·.l)) = (List.range code.l.length).map (fun t => aheadL (f t) ((nth code.l t).l.length + 1)) ∧ Sh0 W w' [.deep 46 s]) := by
 have hz := checkG_ok hok
 obtain ⟨hl1, hl2, hl3, hl4', hl5, hl6, hl7⟩ := ok_len hok
 have hrg := hok.regs
 have hrg1 : (pgOf code words locks regs).regs = regs := rfl
 rw [hrg1] at hrg
 refine x_enter (N := 44) Try.func36 rfl Try.ntmps36 (Nat.le_of_ble_eq_true rfl) fun a1 hf1 => ?_
 have h1 : St 44 (fun _ => False) W a1 W [(0, .agg #[code.v, words.v, .int .i64 locks, .int .i64 regs])] [.at_ code, .at_ words] := ⟨hf1.sub ⟨rfl, trivial⟩, Sh0.ext2 hcode hwords⟩
 clear hf1
 refine wp_seq_k fun K2 hK2 => wp_region_lit ?_
 refine wl_ex (x_box (cs := [code.v, words.v, .int .i64 locks, .int .i64 regs]) h1 rfl rfl rfl rfl rfl) (wanted_none rfl _) ?_
 rintro a3 w3 ⟨b3, h3⟩; clear h1
 refine wms 1 h3 rfl fun a4 h4 => ?_; clear h3
 refine wl_ex (x_alloc h4 ti_31 rfl rfl rfl) (wanted_none rfl _) ?_
 rintro a5 w5 ⟨b5, h5⟩; clear h4
 refine wpList_nil (hK2 _ _ ?_)
 refine wp_seq_k fun K6 hK6 => ?_
 refine wp_seq_k fun K7 hK7 => wp_region_lit ?_
 refine wv h5 (r_ldbw (i := 1) (vs := [code.v, words.v, .int .i64 locks, .int .i64 regs]) ti_28 rfl rfl rfl rfl rfl) rfl rfl fun a8 h8 => ?_; clear h5
 refine wl_ex (x_call h8 bd_19 rfl rfl rfl rfl rfl (asmCheck_c (code := code) (words := words) (locks := locks) (regs := regs) (h8.sh.at 2 rfl) (h8.sh.at 3 rfl))) (wanted_none rfl _) ?_
 rintro a9 w9 ⟨_, ⟨rfl, hs9⟩, hf9⟩
 have h9 : St 44 (fun _ => False) W a9 w9 _ _ := ⟨hf9, h8.sh.call0 hs9⟩
 clear hf9 hs9
 clear h8
 refine wl_ex (x_alloc h9 ti_31 rfl rfl rfl) (wanted_none rfl _) ?_
 rintro a10 w10 ⟨b10, h10⟩; clear h9
 refine wl_ex (x_stb (i := 0) (vs := [.int .i64 ((checkG (pgOf code words locks regs)).code), .int .i64 ((checkG (pgOf code words locks regs)).thread), .int .i64 ((checkG (pgOf code words locks regs)).at_)]) (cs' := [.int .i64 ((checkG (pgOf code words locks regs)).code), .int .i64 ((checkG (pgOf code words locks regs)).thread), .int .i64 ((checkG (pgOf code words locks regs)).at_)]) h10 ti_31 rfl rfl rfl rfl rfl rfl rfl (allOne_cons rfl (allOne_cons rfl (allOne_cons rfl allOne_nil))) (Nat.le_of_ble_eq_true rfl) rfl) (wanted_none rfl _) ?_
 rintro a11 w11 h11
 clear h10
 refine wpList_nil (hK7 _ _ ?_)
 refine wp_seq_k fun K12 hK12 => wp_region_lit ?_
 refine wv h11 (r_fieldB (r := 0) fl_31_0 rfl rfl rfl) rfl rfl fun a13 h13 => ?_; clear h11
 refine wv h13 (r_ldb (i := 0) ti_22 rfl rfl rfl rfl) rfl rfl fun a14 h14 => ?_; clear h13
 refine wv h14 (r_neqI (p := (checkG (pgOf code words locks regs)).code) (q := 0) rfl rfl rfl) rfl rfl fun a15 h15 => ?_; clear h14
 refine wpList_nil (hK12 _ _ ?_)
 refine x_condF h15 rfl (by rw [hz]; rfl) ?_
 refine wp_skip ?_
 refine hK6 _ _ ?_
 refine wp_seq_k fun K16 hK16 => wp_region_lit ?_
 refine wms 1 h15 rfl fun a17 h17 => ?_; clear h15
 refine wpList_nil (hK16 _ _ ?_)
 refine wp_seq_k fun K18 hK18 => ?_
 refine wp_seq_k fun K19 hK19 => wp_region_lit ?_
 refine wv h17 (r_fieldB (r := 0) fl_28_0 rfl rfl rfl) rfl rfl fun a20 h20 => ?_; clear h17
 refine wv h20 (r_ldb (i := 2) ti_26 rfl rfl rfl rfl) rfl rfl fun a21 h21 => ?_; clear h20
 have hl22 : code.l.length ≤ 140737488355328 := (h21.sh.at 3 rfl).len
 refine wv h21 (r_len (s := code) (n := code.l.length) sl_26 rfl rfl (fun w h => (h.at 3 rfl)) rfl) rfl rfl fun a23 h23 => ?_; clear h21
 refine wms 1 h23 rfl fun a24 h24 => ?_; clear h23
 refine wpList_nil (hK19 _ _ ?_)
 refine wp_block ?_
 have h26 := h24.nilDeep (α := Ls (Ls Int)) 46
 clear h24
 refine x_loop (fun m a w => ∃ (t : Nat) (os : List (Ls (Ls Int))) (vo : Value), (t ≤ code.l.length) ∧ (os.map (fun y => y.l.map (·.l)) = (List.range t).map (fun t => aheadL (f t) ((nth code.l t).l.length + 1))) ∧ (os.length = t) ∧ St 44 (fun _ => False) W a w [(3, .pointer (some ⟨b5, 0, none⟩)), (5, vo), (18, code.v), (19, .int .i64 ((code.l.length : Nat) : Int)), (20, .int .i64 ((t : Nat) : Int))] [.blk b10 31 [.int .i64 ((checkG (pgOf code words locks regs)).code), .int .i64 ((checkG (pgOf code words locks regs)).thread), .int .i64 ((checkG (pgOf code words locks regs)).at_)], .blk b5 31 [.int .i64 0, .int .i64 0, .int .i64 0], .blk b3 28 [code.v, words.v, .int .i64 locks, .int .i64 regs], .at_ code, .at_ words, .deep 46 (⟨vo, os⟩ : Ls (Ls (Ls Int)))] ∧ m = code.l.length - t) ⟨_, 0, [], (.slice none 0 0), (by omega), (rfl), (rfl), h26.nrm ⟨rfl, rfl, rfl, rfl, rfl, trivial⟩ [1, 2, 3, 4, 5, 0] (by decide) ⟨rfl, rfl, rfl, rfl, rfl, rfl, trivial⟩, rfl⟩ ?_
 clear h26
 rintro m25 a25 w25 ⟨t, os, vo, ht, hos, hol, h25, hm25⟩
 refine wp_seq_k fun K27 hK27 => wp_region_lit ?_
 refine wv h25 (r_lssN (p := t) (q := code.l.length) rfl rfl rfl) rfl rfl fun a28 h28 => ?_; clear h25
 refine wpList_nil (hK27 _ _ ?_)
 refine wp_seq_k fun K29 hK29 => ?_
 refine x_cond h28 rfl (fun hb30 => ?_) (fun hb30 => ?_)
 ·
  have hp30 : t < code.l.length := of_decide_eq_true hb30
  refine wp_skip ?_
  refine hK29 _ _ ?_
  refine wp_seq_k fun K31 hK31 => ?_
  refine wp_block ?_
  refine wp_seq_k fun K32 hK32 => wp_region_lit ?_
  refine wv h28 (r_ixN (s := code) (q := t) sl_26 ti_64 rfl rfl rfl (fun w h => (h.at 3 rfl)) (show t < code.l.length from (by omega))) rfl rfl fun a33 h33 => ?_; clear h28
  refine wv h33 (r_lde (s := code) (i := t) (v := (nth code.l t).v) ti_64 rfl rfl rfl (fun w h => (h.at 3 rfl)) (show t < code.l.length from (by omega)) (Nat.le_of_ble_eq_true rfl) rfl) rfl rfl fun a34 h34 => ?_; clear h33
  refine wms 1 h34 rfl fun a35 h35 => ?_; clear h34
  refine wpList_nil (hK32 _ _ ?_)
  obtain ⟨hl4, hjt⟩ := ok_thread hok t (by omega)
  refine wp_seq_k fun K36 hK36 => wp_region_lit ?_
  refine wms 1 h35 rfl fun a37 h37 => ?_; clear h35
  refine wpList_nil (hK36 _ _ ?_)
  refine wp_seq_k fun K38 hK38 => ?_
  refine wp_seq_k fun K39 hK39 => wp_region_lit ?_
  refine wms 1 h37 rfl fun a40 h40 => ?_; clear h37
  refine wl_ex (x_call h40 bd_78 rfl rfl rfl rfl rfl (sets_ls (sets_c (nth code.l t) regs (f t) _ ((h40.sh.at 3 rfl).nth t (show t < code.l.length from (by omega))) (by omega) hjt (okV_of hok t (by omega)) (hF t (by omega)) (by omega)))) (wanted_none rfl _) ?_
  rintro a41 w41 ⟨_, ⟨s41, rfl, hs41⟩, hf41⟩
  have h41 := (⟨hf41, h40.sh.call hs41 (by intro A hA b hb; first | (simp at hA; done) | (simp at hA; subst hA; first | exact Flat.noRd hb | exact barr_noRd hb | exact (hb : False).elim))⟩ : St 44 (fun _ => False) W a41 w41 _ _)
  clear hf41 hs41
  clear h40
  have hl42 : (liveA (f t) (nth code.l t).l.length).length ≤ 140737488355328 := (h41.sh.own 0 rfl).len
  refine wv h41 (r_len (s := (⟨s41.v, liveA (f t) (nth code.l t).l.length⟩ : Ls BArr)) (n := (liveA (f t) (nth code.l t).l.length).length) sl_118 rfl rfl (fun w h => (h.own 0 rfl)) rfl) rfl rfl fun a43 h43 => ?_; clear h41
  refine wms 1 h43 rfl fun a44 h44 => ?_; clear h43
  refine wpList_nil (hK39 _ _ ?_)
  refine wp_block ?_
  have h46 := h44.nilDeep (α := Ls Int) 24
  clear h44
  have hal := liveA_len (f t) (nth code.l t).l.length
  refine x_loop (fun m a w => ∃ (j : Nat) (ls : List (Ls Int)) (vl : Value), (j ≤ (nth code.l t).l.length + 1) ∧ (ls.map (·.l) = aheadL (f t) j) ∧ (ls.length = j) ∧ St 44 (fun _ => False) W a w [(3, .pointer (some ⟨b5, 0, none⟩)), (5, vo), (8, vl), (18, code.v), (19, .int .i64 ((code.l.length : Nat) : Int)), (20, .int .i64 ((t : Nat) : Int)), (25, s41.v), (26, .int .i64 (((liveA (f t) (nth code.l t).l.length).length : Nat) : Int)), (27, .int .i64 ((j : Nat) : Int))] [.own 121 (⟨s41.v, liveA (f t) (nth code.l t).l.length⟩ : Ls BArr), .blk b10 31 [.int .i64 ((checkG (pgOf code words locks regs)).code), .int .i64 ((checkG (pgOf code words locks regs)).thread), .int .i64 ((checkG (pgOf code words locks regs)).at_)], .blk b5 31 [.int .i64 0, .int .i64 0, .int .i64 0], .blk b3 28 [code.v, words.v, .int .i64 locks, .int .i64 regs], .at_ code, .at_ words, .deep 46 (⟨vo, os⟩ : Ls (Ls (Ls Int))), .deep 24 (⟨vl, ls⟩ : Ls (Ls Int))] ∧ m = (nth code.l t).l.length + 1 - j) ⟨_, 0, [], (.slice none 0 0), (by omega), (rfl), (rfl), h46.nrm ⟨rfl, rfl, rfl, rfl, rfl, rfl, rfl, rfl, rfl, trivial⟩ [1, 2, 3, 4, 5, 6, 7, 0] (by decide) ⟨rfl, rfl, rfl, rfl, rfl, rfl, rfl, rfl, trivial⟩, rfl⟩ ?_
  clear h46
  rintro m45 a45 w45 ⟨j, ls, vl, hj, hls, hll, h45, hm45⟩
  refine wp_seq_k fun K47 hK47 => wp_region_lit ?_
  refine wv h45 (r_lssN (p := j) (q := (liveA (f t) (nth code.l t).l.length).length) rfl rfl rfl) rfl rfl fun a48 h48 => ?_; clear h45
  refine wpList_nil (hK47 _ _ ?_)
  refine wp_seq_k fun K49 hK49 => ?_
  refine x_cond h48 rfl (fun hb50 => ?_) (fun hb50 => ?_)
  ·
   have hp50 : j < (liveA (f t) (nth code.l t).l.length).length := of_decide_eq_true hb50
   have hA9 := liveA_200 (f := f t) (n := (nth code.l t).l.length) (j := j) (by omega)
   refine wp_skip ?_
   refine hK49 _ _ ?_
   refine wp_seq_k fun K51 hK51 => ?_
   refine wp_block ?_
   refine wp_seq_k fun K52 hK52 => wp_region_lit ?_
   refine wv h48 (r_ixN (s := (⟨s41.v, liveA (f t) (nth code.l t).l.length⟩ : Ls BArr)) (q := j) sl_118 ti_121 rfl rfl rfl (fun w h => (h.own 0 rfl)) (show j < (liveA (f t) (nth code.l t).l.length).length from (by omega))) rfl rfl fun a53 h53 => ?_; clear h48
   refine wv h53 (r_ldewAr (n := 0) (i := j) (s := (⟨s41.v, liveA (f t) (nth code.l t).l.length⟩ : Ls BArr)) ti_121 rfl rfl (fun w h => (h.own 0 rfl)) (show j < (liveA (f t) (nth code.l t).l.length).length from (by omega))) rfl rfl fun a54 h54 => ?_; clear h53
   refine wl_ex (x_allocAr (k := 200) h54 ti_121 (by kernel_rfl) rfl rfl rfl) (wanted_none rfl _) ?_
   rintro a55 w55 ⟨b55, h55⟩; clear h54
   refine wl_ex (x_stwAr (i := 0) (l := (List.replicate 200 false)) (m := ((nth (liveA (f t) (nth code.l t).l.length) j).l)) h55 ti_121 rfl rfl rfl rfl (by first | assumption | (simp only [lens9]; done) | (simp only [lens9]; first | assumption | omega) | rfl) (by first | assumption | (simp only [lens9]; done) | (simp only [lens9]; first | assumption | omega) | rfl) rfl) (wanted_none rfl _) ?_
   rintro a56 w56 h56
   clear h55
   refine wpList_nil (hK52 _ _ ?_)
   refine wp_region_lit ?_
   refine wms 1 h56 rfl fun a57 h57 => ?_; clear h56
   refine wv h57 (r_ldwAr (i := 0) (l := ((nth (liveA (f t) (nth code.l t).l.length) j).l)) ti_121 rfl rfl rfl (by first | assumption | (simp only [lens9]; done) | (simp only [lens9]; first | assumption | omega) | rfl)) rfl rfl fun a58 h58 => ?_; clear h57
   refine wl_ex (x_call h58 bd_79 rfl rfl rfl rfl rfl (list_ls (list_c ((nth (liveA (f t) (nth code.l t).l.length) j).l) _ (by first | assumption | (simp only [lens9]; done) | (simp only [lens9]; first | assumption | omega) | rfl)))) (wanted_none rfl _) ?_
   rintro a59 w59 ⟨_, ⟨s59, rfl, hs59⟩, hf59⟩
   have h59 := (⟨hf59, h58.sh.call hs59 (by intro A hA b hb; first | (simp at hA; done) | (simp at hA; subst hA; first | exact Flat.noRd hb | exact barr_noRd hb | exact (hb : False).elim))⟩ : St 44 (fun _ => False) W a59 w59 _ _)
   clear hf59 hs59
   clear h58
   refine wl_ex (x_litD (E := 0) (x := (⟨s59.v, listB ((nth (liveA (f t) (nth code.l t).l.length) j).l)⟩ : Ls Int)) h59 sl_46 ti_24 rfl rfl rfl ((h59.sh.own 0 rfl)) (fun b hb => (own_on (h59.sh.ok _ (List.mem_of_getElem? (i := 0) rfl)) hb).elim (fun h => h) (fun h => Flat.noRd h)) (fun b hb => Flat.noRd hb) rfl rfl) (wanted_none rfl _) ?_
   rintro a60 w60 ⟨v60, h60⟩; clear h59
   have h61 := h60.sel (L' := [.deep 24 (⟨vl, ls⟩ : Ls (Ls Int)), .deep 24 (⟨v60, [(⟨s59.v, listB ((nth (liveA (f t) (nth code.l t).l.length) j).l)⟩ : Ls Int)]⟩ : Ls (Ls Int)), .blk b55 121 (((nth (liveA (f t) (nth code.l t).l.length) j).l).map Value.bool), .own 121 (⟨s41.v, liveA (f t) (nth code.l t).l.length⟩ : Ls BArr), .blk b10 31 [.int .i64 ((checkG (pgOf code words locks regs)).code), .int .i64 ((checkG (pgOf code words locks regs)).thread), .int .i64 ((checkG (pgOf code words locks regs)).at_)], .blk b5 31 [.int .i64 0, .int .i64 0, .int .i64 0], .blk b3 28 [code.v, words.v, .int .i64 locks, .int .i64 regs], .at_ code, .at_ words, .deep 46 (⟨vo, os⟩ : Ls (Ls (Ls Int)))]) [9, 0, 1, 2, 3, 4, 5, 6, 7, 8] (by decide) ⟨rfl, rfl, rfl, rfl, rfl, rfl, rfl, rfl, rfl, rfl, trivial⟩
   refine wl_ex (x_appD (s := (⟨vl, ls⟩ : Ls (Ls Int))) (m := (⟨v60, [(⟨s59.v, listB ((nth (liveA (f t) (nth code.l t).l.length) j).l)⟩ : Ls Int)]⟩ : Ls (Ls Int))) h61 sl_46 ti_24 rfl rfl rfl rfl rfl rfl rfl inferInstance (show (ls.length + ([(⟨s59.v, listB ((nth (liveA (f t) (nth code.l t).l.length) j).l)⟩ : Ls Int)]).length) * 24 ≤ 140737488355328 ∧ ls.length + ([(⟨s59.v, listB ((nth (liveA (f t) (nth code.l t).l.length) j).l)⟩ : Ls Int)]).length ≤ 140737488355328 from (by first | omega | (simp only [lens9]; omega))) rfl rfl) (wanted_none rfl _) ?_
   rintro a62 w62 ⟨v62, h62⟩; clear h61
   refine wms 1 h62 rfl fun a63 h63 => ?_; clear h62
   refine wpList_nil (hK51 _ _ ?_)
   refine wp_region_lit ?_
   refine wv h63 (r_addN (p := j) (q := 1) rfl rfl rfl (show j + 1 < 9223372036854775808 from (by omega))) rfl rfl fun a64 h64 => ?_; clear h63
   refine wms 1 h64 rfl fun a65 h65 => ?_; clear h64
   refine wpList_nil ?_
   refine x_again ⟨_, ?_, j + 1, ls ++ ([(⟨s59.v, listB ((nth (liveA (f t) (nth code.l t).l.length) j).l)⟩ : Ls Int)]), v62, ?_, ?_, ?_, h65.nrm ⟨rfl, rfl, rfl, rfl, rfl, rfl, rfl, rfl, rfl, trivial⟩ [2, 3, 4, 5, 6, 7, 8, 0] (by decide) ⟨rfl, rfl, rfl, rfl, rfl, rfl, rfl, rfl, trivial⟩, rfl⟩
   · rw [hm45]; first | omega | (simp only [lens9]; omega)
   · omega
   · rw [List.map_append, hls, aheadL_succ, ← liveA_nth (n := (nth code.l t).l.length) (by omega)]; rfl
   · simp [hll]
  have hp50 : ¬ (j < (liveA (f t) (nth code.l t).l.length).length) := of_decide_eq_false hb50
  refine wp_exit ?_
  refine hK38 _ _ ?_
  refine wp_region_lit ?_
  refine wms 2 h48 rfl fun a66 h66 => ?_; clear h48
  have h67 := h66.sel (L' := [.deep 24 (⟨vl, ls⟩ : Ls (Ls Int)), .own 121 (⟨s41.v, liveA (f t) (nth code.l t).l.length⟩ : Ls BArr), .blk b10 31 [.int .i64 ((checkG (pgOf code words locks regs)).code), .int .i64 ((checkG (pgOf code words locks regs)).thread), .int .i64 ((checkG (pgOf code words locks regs)).at_)], .blk b5 31 [.int .i64 0, .int .i64 0, .int .i64 0], .blk b3 28 [code.v, words.v, .int .i64 locks, .int .i64 regs], .at_ code, .at_ words, .deep 46 (⟨vo, os⟩ : Ls (Ls (Ls Int)))]) [7, 0, 1, 2, 3, 4, 5, 6] (by decide) ⟨rfl, rfl, rfl, rfl, rfl, rfl, rfl, rfl, trivial⟩
  refine wl_ex (x_litD (E := 0) (x := (⟨vl, ls⟩ : Ls (Ls Int))) h67 sl_59 ti_46 rfl rfl rfl ((h67.sh.deep 0 rfl)) (fun b hb => by rcases hb with ⟨h0, rfl⟩ | hb; exact .inl (own_blk h0 (h67.sh.ok _ (List.mem_of_getElem? (i := 0) rfl)).1); exact .inr hb) (fun b hb => hb) rfl rfl) (wanted_none rfl _) ?_
  rintro a68 w68 ⟨v68, h68⟩; clear h67
  have h69 := h68.sel (L' := [.deep 46 (⟨vo, os⟩ : Ls (Ls (Ls Int))), .deep 46 (⟨v68, [(⟨vl, ls⟩ : Ls (Ls Int))]⟩ : Ls (Ls (Ls Int))), .own 121 (⟨s41.v, liveA (f t) (nth code.l t).l.length⟩ : Ls BArr), .blk b10 31 [.int .i64 ((checkG (pgOf code words locks regs)).code), .int .i64 ((checkG (pgOf code words locks regs)).thread), .int .i64 ((checkG (pgOf code words locks regs)).at_)], .blk b5 31 [.int .i64 0, .int .i64 0, .int .i64 0], .blk b3 28 [code.v, words.v, .int .i64 locks, .int .i64 regs], .at_ code, .at_ words]) [7, 0, 1, 2, 3, 4, 5, 6] (by decide) ⟨rfl, rfl, rfl, rfl, rfl, rfl, rfl, rfl, trivial⟩
  refine wl_ex (x_appD (s := (⟨vo, os⟩ : Ls (Ls (Ls Int)))) (m := (⟨v68, [(⟨vl, ls⟩ : Ls (Ls Int))]⟩ : Ls (Ls (Ls Int)))) h69 sl_59 ti_46 rfl rfl rfl rfl rfl rfl rfl inferInstance (show (os.length + ([(⟨vl, ls⟩ : Ls (Ls Int))]).length) * 24 ≤ 140737488355328 ∧ os.length + ([(⟨vl, ls⟩ : Ls (Ls Int))]).length ≤ 140737488355328 from (by first | omega | (simp only [lens9]; omega))) rfl rfl) (wanted_none rfl _) ?_
  rintro a70 w70 ⟨v70, h70⟩; clear h69
  refine wms 1 h70 rfl fun a71 h71 => ?_; clear h70
  refine wpList_nil (hK31 _ _ ?_)
  refine wp_region_lit ?_
  refine wv h71 (r_addN (p := t) (q := 1) rfl rfl rfl (show t + 1 < 9223372036854775808 from (by omega))) rfl rfl fun a72 h72 => ?_; clear h71
  refine wms 1 h72 rfl fun a73 h73 => ?_; clear h72
  refine wpList_nil ?_
  refine x_again ⟨_, ?_, t + 1, os ++ ([(⟨vl, ls⟩ : Ls (Ls Int))]), v70, ?_, ?_, ?_, h73.nrm ⟨rfl, rfl, rfl, rfl, rfl, trivial⟩ [2, 3, 4, 5, 6, 0] (by decide) ⟨rfl, rfl, rfl, rfl, rfl, rfl, trivial⟩, rfl⟩
  · rw [hm25]; first | omega | (simp only [lens9]; omega)
  · omega
  · rw [List.map_append, hos, List.range_succ, List.map_append]; congr 1; show [ls.map (·.l)] = [_]; rw [hls, show j = (nth code.l t).l.length + 1 by omega]
  · simp [hol]
 have hp30 : ¬ (t < code.l.length) := of_decide_eq_false hb30
 refine wp_exit ?_
 refine hK18 _ _ ?_
 refine wp_seq_k fun K74 hK74 => wp_region_lit ?_
 refine wms 1 h28 rfl fun a75 h75 => ?_; clear h28
 refine wv h75 (r_build (cs := [.int .i64 0, .int .i64 0, .int .i64 0]) rfl rfl (by kernel_rfl)) rfl rfl fun a76 h76 => ?_; clear h75
 refine wms 1 h76 rfl fun a77 h77 => ?_; clear h76
 refine wl_ex (x_stb (i := 1) (vs := [.int .i64 0, .int .i64 0, .int .i64 0]) (cs' := [.int .i64 0, .int .i64 0, .int .i64 0]) h77 ti_31 rfl rfl rfl rfl rfl rfl rfl (allOne_cons rfl (allOne_cons rfl (allOne_cons rfl allOne_nil))) (Nat.le_of_ble_eq_true rfl) rfl) (wanted_none rfl _) ?_
 rintro a78 w78 h78
 clear h77
 refine wpList_nil (hK74 _ _ ?_)
 refine wp_ret ?_
 try simp only [Exit.then, Exit.inBlock]
 refine x_rettc (fn := Try.f36) (t := 3) (u := 2) (i := 1) ti_31 rfl h78 rfl rfl rfl rfl ?_
 refine ⟨⟨vo, os⟩, rfl, ?_, (h78.sh.sel (L' := [.deep 46 (⟨vo, os⟩ : Ls (Ls (Ls Int)))]) [5] (by decide) ⟨rfl, trivial⟩)⟩
 show os.map _ = _
 rw [hos, show t = code.l.length by omega]

set_option maxRecDepth 100000 in
set_option maxHeartbeats 4000000 in
theorem ahead_b (code : Ls (Ls Ins)) (words : Ls Int) (locks regs : Int) (W : World) (hcode : code.At W) (hwords : words.At W) (hz : (checkG (pgOf code words locks regs)).code ≠ 0) :
    Rets Try.prog 36 [.agg #[code.v, words.v, .int .i64 locks, .int .i64 regs]] W (fun v w' => v = .tuple #[.slice none 0 0, (checkG (pgOf code words locks regs)).val] ∧ Sh0 W w' []) := by
 refine x_enter (N := 44) Try.func36 rfl Try.ntmps36 (Nat.le_of_ble_eq_true rfl) fun a1 hf1 => ?_
 have h1 : St 44 (fun _ => False) W a1 W [(0, .agg #[code.v, words.v, .int .i64 locks, .int .i64 regs])] [.at_ code, .at_ words] := ⟨hf1.sub ⟨rfl, trivial⟩, Sh0.ext2 hcode hwords⟩
 clear hf1
 refine wp_seq_k fun K2 hK2 => wp_region_lit ?_
 refine wl_ex (x_box (cs := [code.v, words.v, .int .i64 locks, .int .i64 regs]) h1 rfl rfl rfl rfl rfl) (wanted_none rfl _) ?_
 rintro a3 w3 ⟨b3, h3⟩; clear h1
 refine wms 1 h3 rfl fun a4 h4 => ?_; clear h3
 refine wl_ex (x_alloc h4 ti_31 rfl rfl rfl) (wanted_none rfl _) ?_
 rintro a5 w5 ⟨b5, h5⟩; clear h4
 refine wpList_nil (hK2 _ _ ?_)
 refine wp_seq_k fun K6 hK6 => ?_
 refine wp_seq_k fun K7 hK7 => wp_region_lit ?_
 refine wv h5 (r_ldbw (i := 1) (vs := [code.v, words.v, .int .i64 locks, .int .i64 regs]) ti_28 rfl rfl rfl rfl rfl) rfl rfl fun a8 h8 => ?_; clear h5
 refine wl_ex (x_call h8 bd_19 rfl rfl rfl rfl rfl (asmCheck_c (code := code) (words := words) (locks := locks) (regs := regs) (h8.sh.at 2 rfl) (h8.sh.at 3 rfl))) (wanted_none rfl _) ?_
 rintro a9 w9 ⟨_, ⟨rfl, hs9⟩, hf9⟩
 have h9 : St 44 (fun _ => False) W a9 w9 _ _ := ⟨hf9, h8.sh.call0 hs9⟩
 clear hf9 hs9
 clear h8
 refine wl_ex (x_alloc h9 ti_31 rfl rfl rfl) (wanted_none rfl _) ?_
 rintro a10 w10 ⟨b10, h10⟩; clear h9
 refine wl_ex (x_stb (i := 0) (vs := [.int .i64 ((checkG (pgOf code words locks regs)).code), .int .i64 ((checkG (pgOf code words locks regs)).thread), .int .i64 ((checkG (pgOf code words locks regs)).at_)]) (cs' := [.int .i64 ((checkG (pgOf code words locks regs)).code), .int .i64 ((checkG (pgOf code words locks regs)).thread), .int .i64 ((checkG (pgOf code words locks regs)).at_)]) h10 ti_31 rfl rfl rfl rfl rfl rfl rfl (allOne_cons rfl (allOne_cons rfl (allOne_cons rfl allOne_nil))) (Nat.le_of_ble_eq_true rfl) rfl) (wanted_none rfl _) ?_
 rintro a11 w11 h11
 clear h10
 refine wpList_nil (hK7 _ _ ?_)
 refine wp_seq_k fun K12 hK12 => wp_region_lit ?_
 refine wv h11 (r_fieldB (r := 0) fl_31_0 rfl rfl rfl) rfl rfl fun a13 h13 => ?_; clear h11
 refine wv h13 (r_ldb (i := 0) ti_22 rfl rfl rfl rfl) rfl rfl fun a14 h14 => ?_; clear h13
 refine wv h14 (r_neqI (p := (checkG (pgOf code words locks regs)).code) (q := 0) rfl rfl rfl) rfl rfl fun a15 h15 => ?_; clear h14
 refine wpList_nil (hK12 _ _ ?_)
 refine x_condT h15 rfl (decide_eq_true hz) ?_
 refine wp_seq_k fun K16 hK16 => ?_
 refine x_tail 2 [] (by kernel_rfl) (by kernel_rfl) h15 fun Z17 hZ17 => ?_
 have hq17 := h15.fr
 refine wq_val hq17 (r_ldbw (i := 0) (vs := [.int .i64 ((checkG (pgOf code words locks regs)).code), .int .i64 ((checkG (pgOf code words locks regs)).thread), .int .i64 ((checkG (pgOf code words locks regs)).at_)]) ti_31 rfl rfl rfl rfl rfl) (wanted_none rfl _) rfl rfl fun a18 hq18 => ?_; clear hq17
 refine wq_val hq18 (r_assign rfl rfl) (wanted_none rfl _) rfl rfl fun a19 hq19 => ?_; clear hq18
 refine wpQuiet_nil (hZ17 _ fun w20 hw20 => ?_)
 have h20 : St 44 (fun _ => False) W a19 w20 _ _ := ⟨hq19, hw20⟩
 clear hq19 hw20 h15
 refine wl_ex (x_stb (i := 1) (vs := [.int .i64 ((checkG (pgOf code words locks regs)).code), .int .i64 ((checkG (pgOf code words locks regs)).thread), .int .i64 ((checkG (pgOf code words locks regs)).at_)]) (cs' := [.int .i64 ((checkG (pgOf code words locks regs)).code), .int .i64 ((checkG (pgOf code words locks regs)).thread), .int .i64 ((checkG (pgOf code words locks regs)).at_)]) h20 ti_31 rfl rfl rfl rfl rfl rfl rfl (allOne_cons rfl (allOne_cons rfl (allOne_cons rfl allOne_nil))) (Nat.le_of_ble_eq_true rfl) rfl) (wanted_none rfl _) ?_
 rintro a21 w21 h21
 clear h20
 refine wpList_nil (hK16 _ _ ?_)
 refine wp_ret ?_
 try simp only [Exit.then, Exit.inBlock]
 refine x_rettc (fn := Try.f36) (t := 3) (u := 2) (i := 1) ti_31 rfl h21 rfl rfl rfl rfl ?_
 exact ⟨rfl, (h21.sh.sel [] (by decide) trivial)⟩

set_option maxRecDepth 100000 in
set_option maxHeartbeats 4000000 in
theorem clash_k (code : Ls (Ls Ins)) (words : Ls Int) (locks regs : Int) (f : Nat → Nat → Nat → Bool) (W : World) (hcode : code.At W) (hwords : words.At W) (hok : OkPg (pgOf code words locks regs)) (hF : ∀ t, t < code.l.length → ∀ r j, (f t r j = true ↔ LiveI (nth code.l t).l r j)) :
    Rets Try.prog 37 [.agg #[code.v, words.v, .int .i64 locks, .int .i64 regs]] W (fun v w' => ∃ s : Ls (Ls (Ls Int)), v = .tuple #[s.v, .agg #[.int .i64 0, .int .i64 0, .int .i64 0]] ∧ s.l.map (fun y => y.l.map (·.l)) = (List.range code.l.length).map (fun t => clashL (nth code.l t).l (f t) regs.toNat) ∧ Sh0 W w' [.deep 46 s]) := by
 have hz := checkG_ok hok
 obtain ⟨hl1, hl2, hl3, hl4', hl5, hl6, hl7⟩ := ok_len hok
 have hrg := hok.regs
 have hrg1 : (pgOf code words locks regs).regs = regs := rfl
 rw [hrg1] at hrg
 refine x_enter (N := 110) Try.func37 rfl Try.ntmps37 (Nat.le_of_ble_eq_true rfl) fun a1 hf1 => ?_
 have h1 : St 110 (fun _ => False) W a1 W [(0, .agg #[code.v, words.v, .int .i64 locks, .int .i64 regs])] [.at_ code, .at_ words] := ⟨hf1.sub ⟨rfl, trivial⟩, Sh0.ext2 hcode hwords⟩
 clear hf1
 refine wp_seq_k fun K2 hK2 => wp_region_lit ?_
 refine wl_ex (x_box (cs := [code.v, words.v, .int .i64 locks, .int .i64 regs]) h1 rfl rfl rfl rfl rfl) (wanted_none rfl _) ?_
 rintro a3 w3 ⟨b3, h3⟩; clear h1
 refine wms 1 h3 rfl fun a4 h4 => ?_; clear h3
 refine wl_ex (x_alloc h4 ti_31 rfl rfl rfl) (wanted_none rfl _) ?_
 rintro a5 w5 ⟨b5, h5⟩; clear h4
 refine wpList_nil (hK2 _ _ ?_)
 refine wp_seq_k fun K6 hK6 => ?_
 refine wp_seq_k fun K7 hK7 => wp_region_lit ?_
 refine wv h5 (r_ldbw (i := 1) (vs := [code.v, words.v, .int .i64 locks, .int .i64 regs]) ti_28 rfl rfl rfl rfl rfl) rfl rfl fun a8 h8 => ?_; clear h5
 refine wl_ex (x_call h8 bd_19 rfl rfl rfl rfl rfl (asmCheck_c (code := code) (words := words) (locks := locks) (regs := regs) (h8.sh.at 2 rfl) (h8.sh.at 3 rfl))) (wanted_none rfl _) ?_
 rintro a9 w9 ⟨_, ⟨rfl, hs9⟩, hf9⟩
 have h9 : St 110 (fun _ => False) W a9 w9 _ _ := ⟨hf9, h8.sh.call0 hs9⟩
 clear hf9 hs9
 clear h8
 refine wl_ex (x_alloc h9 ti_31 rfl rfl rfl) (wanted_none rfl _) ?_
 rintro a10 w10 ⟨b10, h10⟩; clear h9
 refine wl_ex (x_stb (i := 0) (vs := [.int .i64 ((checkG (pgOf code words locks regs)).code), .int .i64 ((checkG (pgOf code words locks regs)).thread), .int .i64 ((checkG (pgOf code words locks regs)).at_)]) (cs' := [.int .i64 ((checkG (pgOf code words locks regs)).code), .int .i64 ((checkG (pgOf code words locks regs)).thread), .int .i64 ((checkG (pgOf code words locks regs)).at_)]) h10 ti_31 rfl rfl rfl rfl rfl rfl rfl (allOne_cons rfl (allOne_cons rfl (allOne_cons rfl allOne_nil))) (Nat.le_of_ble_eq_true rfl) rfl) (wanted_none rfl _) ?_
 rintro a11 w11 h11
 clear h10
 refine wpList_nil (hK7 _ _ ?_)
 refine wp_seq_k fun K12 hK12 => wp_region_lit ?_
 refine wv h11 (r_fieldB (r := 0) fl_31_0 rfl rfl rfl) rfl rfl fun a13 h13 => ?_; clear h11
 refine wv h13 (r_ldb (i := 0) ti_22 rfl rfl rfl rfl) rfl rfl fun a14 h14 => ?_; clear h13
 refine wv h14 (r_neqI (p := (checkG (pgOf code words locks regs)).code) (q := 0) rfl rfl rfl) rfl rfl fun a15 h15 => ?_; clear h14
 refine wpList_nil (hK12 _ _ ?_)
 refine x_condF h15 rfl (by rw [hz]; rfl) ?_
 refine wp_skip ?_
 refine hK6 _ _ ?_
 refine wp_seq_k fun K16 hK16 => wp_region_lit ?_
 refine wms 1 h15 rfl fun a17 h17 => ?_; clear h15
 refine wpList_nil (hK16 _ _ ?_)
 refine wp_seq_k fun K18 hK18 => ?_
 refine wp_seq_k fun K19 hK19 => wp_region_lit ?_
 refine wv h17 (r_fieldB (r := 0) fl_28_0 rfl rfl rfl) rfl rfl fun a20 h20 => ?_; clear h17
 refine wv h20 (r_ldb (i := 2) ti_26 rfl rfl rfl rfl) rfl rfl fun a21 h21 => ?_; clear h20
 have hl22 : code.l.length ≤ 140737488355328 := (h21.sh.at 3 rfl).len
 refine wv h21 (r_len (s := code) (n := code.l.length) sl_26 rfl rfl (fun w h => (h.at 3 rfl)) rfl) rfl rfl fun a23 h23 => ?_; clear h21
 refine wms 1 h23 rfl fun a24 h24 => ?_; clear h23
 refine wpList_nil (hK19 _ _ ?_)
 refine wp_block ?_
 have h26 := h24.nilDeep (α := Ls (Ls Int)) 46
 clear h24
 refine x_loop (fun m a w => ∃ (t : Nat) (os : List (Ls (Ls Int))) (vo : Value), (t ≤ code.l.length) ∧ (os.map (fun y => y.l.map (·.l)) = (List.range t).map (fun t => clashL (nth code.l t).l (f t) regs.toNat)) ∧ (os.length = t) ∧ St 110 (fun _ => False) W a w [(1, .pointer (some ⟨b3, 0, none⟩)), (3, .pointer (some ⟨b5, 0, none⟩)), (5, vo), (26, code.v), (27, .int .i64 ((code.l.length : Nat) : Int)), (28, .int .i64 ((t : Nat) : Int))] [.blk b10 31 [.int .i64 ((checkG (pgOf code words locks regs)).code), .int .i64 ((checkG (pgOf code words locks regs)).thread), .int .i64 ((checkG (pgOf code words locks regs)).at_)], .blk b5 31 [.int .i64 0, .int .i64 0, .int .i64 0], .blk b3 28 [code.v, words.v, .int .i64 locks, .int .i64 regs], .at_ code, .at_ words, .deep 46 (⟨vo, os⟩ : Ls (Ls (Ls Int)))] ∧ m = code.l.length - t) ⟨_, 0, [], (.slice none 0 0), (by omega), (rfl), (rfl), h26.nrm ⟨rfl, rfl, rfl, rfl, rfl, rfl, trivial⟩ [1, 2, 3, 4, 5, 0] (by decide) ⟨rfl, rfl, rfl, rfl, rfl, rfl, trivial⟩, rfl⟩ ?_
 clear h26
 rintro m25 a25 w25 ⟨t, os, vo, ht, hos, hol, h25, hm25⟩
 refine wp_seq_k fun K27 hK27 => wp_region_lit ?_
 refine wv h25 (r_lssN (p := t) (q := code.l.length) rfl rfl rfl) rfl rfl fun a28 h28 => ?_; clear h25
 refine wpList_nil (hK27 _ _ ?_)
 refine wp_seq_k fun K29 hK29 => ?_
 refine x_cond h28 rfl (fun hb30 => ?_) (fun hb30 => ?_)
 ·
  have hp30 : t < code.l.length := of_decide_eq_true hb30
  refine wp_skip ?_
  refine hK29 _ _ ?_
  refine wp_seq_k fun K31 hK31 => ?_
  refine wp_block ?_
  refine wp_seq_k fun K32 hK32 => wp_region_lit ?_
  refine wv h28 (r_ixN (s := code) (q := t) sl_26 ti_64 rfl rfl rfl (fun w h => (h.at 3 rfl)) (show t < code.l.length from (by omega))) rfl rfl fun a33 h33 => ?_; clear h28
  refine wv h33 (r_lde (s := code) (i := t) (v := (nth code.l t).v) ti_64 rfl rfl rfl (fun w h => (h.at 3 rfl)) (show t < code.l.length from (by omega)) (Nat.le_of_ble_eq_true rfl) rfl) rfl rfl fun a34 h34 => ?_; clear h33
  refine wms 1 h34 rfl fun a35 h35 => ?_; clear h34
  refine wpList_nil (hK32 _ _ ?_)
  obtain ⟨hl4, hjt⟩ := ok_thread hok t (by omega)
  refine wp_seq_k fun K36 hK36 => wp_region_lit ?_
  refine wv h35 (r_fieldB (r := 3) fl_28_3 rfl rfl rfl) rfl rfl fun a37 h37 => ?_; clear h35
  refine wv h37 (r_ldb (i := 2) ti_3 rfl rfl rfl rfl) rfl rfl fun a38 h38 => ?_; clear h37
  refine wl_ex (x_makeAr (n := regs.toNat) h38 sl_118 ti_121 (by kernel_rfl) rfl (ev_nat (show 0 ≤ regs from (by omega)) rfl) (ev_nat (show 0 ≤ regs from (by omega)) rfl) (show 200 * regs.toNat ≤ 140737488355328 ∧ regs.toNat ≤ 140737488355328 from (by omega)) rfl rfl) (wanted_none rfl _) ?_
  rintro a39 w39 ⟨v39, h39⟩; clear h38
  refine wms 1 h39 rfl fun a40 h40 => ?_; clear h39
  refine wpList_nil (hK36 _ _ ?_)
  refine wp_seq_k fun K41 hK41 => wp_region_lit ?_
  refine wms 1 h40 rfl fun a42 h42 => ?_; clear h40
  refine wl_ex (x_call h42 bd_78 rfl rfl rfl rfl rfl (sets_ls (sets_c (nth code.l t) regs (f t) _ ((h42.sh.at 4 rfl).nth t (show t < code.l.length from (by omega))) (by omega) hjt (okV_of hok t (by omega)) (hF t (by omega)) (by omega)))) (wanted_none rfl _) ?_
  rintro a43 w43 ⟨_, ⟨s43, rfl, hs43⟩, hf43⟩
  have h43 := (⟨hf43, h42.sh.call hs43 (by intro A hA b hb; first | (simp at hA; done) | (simp at hA; subst hA; first | exact Flat.noRd hb | exact barr_noRd hb | exact (hb : False).elim))⟩ : St 110 (fun _ => False) W a43 w43 _ _)
  clear hf43 hs43
  clear h42
  refine wms 1 h43 rfl fun a44 h44 => ?_; clear h43
  refine wpList_nil (hK41 _ _ ?_)
  refine wp_seq_k fun K45 hK45 => ?_
  refine wp_seq_k fun K46 hK46 => wp_region_lit ?_
  refine wms 1 h44 rfl fun a47 h47 => ?_; clear h44
  have hl48 : ((nth code.l t).l).length ≤ 140737488355328 := ((h47.sh.at 5 rfl).nth t (show t < code.l.length from (by omega))).len
  refine wv h47 (r_len (s := nth code.l t) (n := ((nth code.l t).l).length) sl_64 rfl rfl (fun w h => ((h.at 5 rfl).nth t (show t < code.l.length from (by omega)))) rfl) rfl rfl fun a49 h49 => ?_; clear h47
  refine wms 1 h49 rfl fun a50 h50 => ?_; clear h49
  refine wpList_nil (hK46 _ _ ?_)
  refine wp_block ?_
  have hal := liveA_len (f t) (nth code.l t).l.length
  refine x_loop (fun m a w => ∃ (k : Nat) (M2 : List BArr), (k ≤ (nth code.l t).l.length) ∧ (M2.length = regs.toNat) ∧ (∀ a, a < M2.length → (nth M2 a).l.length = 200) ∧ (∀ a b, a < regs.toNat → b < 200 → get2 BArr.l M2 a b = clTo (nth code.l t).l (f t) k a b) ∧ St 110 (fun _ => False) W a w [(1, .pointer (some ⟨b3, 0, none⟩)), (3, .pointer (some ⟨b5, 0, none⟩)), (5, vo), (7, (nth code.l t).v), (8, v39), (9, s43.v), (26, code.v), (27, .int .i64 ((code.l.length : Nat) : Int)), (28, .int .i64 ((t : Nat) : Int)), (37, (nth code.l t).v), (38, .int .i64 ((((nth code.l t).l).length : Nat) : Int)), (39, .int .i64 ((k : Nat) : Int))] [.own 121 (⟨s43.v, liveA (f t) (nth code.l t).l.length⟩ : Ls BArr), .own 121 (⟨v39, M2⟩ : Ls BArr), .blk b10 31 [.int .i64 ((checkG (pgOf code words locks regs)).code), .int .i64 ((checkG (pgOf code words locks regs)).thread), .int .i64 ((checkG (pgOf code words locks regs)).at_)], .blk b5 31 [.int .i64 0, .int .i64 0, .int .i64 0], .blk b3 28 [code.v, words.v, .int .i64 locks, .int .i64 regs], .at_ code, .at_ words, .deep 46 (⟨vo, os⟩ : Ls (Ls (Ls Int)))] ∧ m = (nth code.l t).l.length - k) ⟨_, 0, List.replicate regs.toNat ⟨List.replicate 200 false⟩, (by omega), (List.length_replicate), (lenA_zero _), (fun a b _ _ => zerosA _ a b), h50.nrm ⟨rfl, rfl, rfl, rfl, rfl, rfl, rfl, rfl, rfl, rfl, rfl, rfl, trivial⟩ [0, 1, 2, 3, 4, 5, 6, 7] (by decide) ⟨rfl, rfl, rfl, rfl, rfl, rfl, rfl, rfl, trivial⟩, rfl⟩ ?_
  clear h50
  rintro m51 a51 w51 ⟨k, M2, hk, hM2, hw2, hv2, h51, hm51⟩
  refine wp_seq_k fun K52 hK52 => wp_region_lit ?_
  refine wv h51 (r_lssN (p := k) (q := ((nth code.l t).l).length) rfl rfl rfl) rfl rfl fun a53 h53 => ?_; clear h51
  refine wpList_nil (hK52 _ _ ?_)
  refine wp_seq_k fun K54 hK54 => ?_
  refine x_cond h53 rfl (fun hb55 => ?_) (fun hb55 => ?_)
  ·
   have hp55 : k < ((nth code.l t).l).length := of_decide_eq_true hb55
   refine wp_skip ?_
   refine hK54 _ _ ?_
   refine wp_seq_k fun K56 hK56 => ?_
   refine wp_block ?_
   refine wp_seq_k fun K57 hK57 => wp_region_lit ?_
   refine wms 1 h53 rfl fun a58 h58 => ?_; clear h53
   refine wv h58 (r_ixN (s := nth code.l t) (q := k) sl_64 ti_73 rfl rfl rfl (fun w h => ((h.at 5 rfl).nth t (show t < code.l.length from (by omega)))) (show k < ((nth code.l t).l).length from (by omega))) rfl rfl fun a59 h59 => ?_; clear h58
   refine wv h59 (r_ldew (s := nth code.l t) (i := k) (vs := [.int .i64 ((nth ((nth code.l t).l) k).op), .int .i64 ((nth ((nth code.l t).l) k).a), .int .i64 ((nth ((nth code.l t).l) k).b), .int .i64 ((nth ((nth code.l t).l) k).c)]) ti_73 rfl rfl rfl (fun w h => ((h.at 5 rfl).nth t (show t < code.l.length from (by omega)))) (show k < ((nth code.l t).l).length from (by omega)) (Nat.le_of_ble_eq_true rfl) rfl) rfl rfl fun a60 h60 => ?_; clear h59
   refine wl_ex (x_alloc h60 ti_73 rfl rfl rfl) (wanted_none rfl _) ?_
   rintro a61 w61 ⟨b61, h61⟩; clear h60
   refine wms 1 h61 rfl fun a62 h62 => ?_; clear h61
   refine wl_ex (x_stb (i := 0) (vs := [.int .i64 ((nth ((nth code.l t).l) k).op), .int .i64 ((nth ((nth code.l t).l) k).a), .int .i64 ((nth ((nth code.l t).l) k).b), .int .i64 ((nth ((nth code.l t).l) k).c)]) (cs' := [.int .i64 ((nth ((nth code.l t).l) k).op), .int .i64 ((nth ((nth code.l t).l) k).a), .int .i64 ((nth ((nth code.l t).l) k).b), .int .i64 ((nth ((nth code.l t).l) k).c)]) h62 ti_73 rfl rfl rfl rfl rfl rfl rfl (allOne_cons rfl (allOne_cons rfl (allOne_cons rfl (allOne_cons rfl allOne_nil)))) (Nat.le_of_ble_eq_true rfl) rfl) (wanted_none rfl _) ?_
   rintro a63 w63 h63
   clear h62
   refine wpList_nil (hK57 _ _ ?_)
   refine wp_seq_k fun K64 hK64 => wp_region_lit ?_
   refine wv h63 (r_ldbw (i := 0) (vs := [.int .i64 ((nth ((nth code.l t).l) k).op), .int .i64 ((nth ((nth code.l t).l) k).a), .int .i64 ((nth ((nth code.l t).l) k).b), .int .i64 ((nth ((nth code.l t).l) k).c)]) ti_73 rfl rfl rfl rfl rfl) rfl rfl fun a65 h65 => ?_; clear h63
   refine wl_ex (x_call h65 bd_80 rfl rfl rfl rfl rfl (writes_c (nth ((nth code.l t).l) k) _ (by have h8 := (okV_of hok t (by omega) k (by omega)).1; omega))) (wanted_none rfl _) ?_
   rintro a66 w66 ⟨_, ⟨rfl, hs66⟩, hf66⟩
   have h66 : St 110 (fun _ => False) W a66 w66 _ _ := ⟨hf66, h65.sh.call0 hs66⟩
   clear hf66 hs66
   clear h65
   refine wms 1 h66 rfl fun a67 h67 => ?_; clear h66
   refine wpList_nil (hK64 _ _ ?_)
   refine wp_seq_k fun K68 hK68 => wp_region_lit ?_
   refine wms 2 h67 rfl fun a69 h69 => ?_; clear h67
   refine wl_ex (x_call h69 bd_81 rfl rfl rfl rfl rfl (nexts_c (nth code.l t) k _ ((h69.sh.at 6 rfl).nth t (show t < code.l.length from (by omega))) (by omega) (by omega))) (wanted_none rfl _) ?_
   rintro a70 w70 ⟨_, ⟨s70, rfl, hs70⟩, hf70⟩
   have h70 := (⟨hf70, h69.sh.call hs70 (by intro A hA b hb; first | (simp at hA; done) | (simp at hA; subst hA; first | exact Flat.noRd hb | exact barr_noRd hb | exact (hb : False).elim))⟩ : St 110 (fun _ => False) W a70 w70 _ _)
   clear hf70 hs70
   clear h69
   have hl71 : (nextsL ((nth code.l t).l) k).length ≤ 140737488355328 := (h70.sh.own 0 rfl).len
   refine wv h70 (r_len (s := (⟨s70.v, nextsL ((nth code.l t).l) k⟩ : Ls Int)) (n := (nextsL ((nth code.l t).l) k).length) sl_24 rfl rfl (fun w h => (h.own 0 rfl)) rfl) rfl rfl fun a72 h72 => ?_; clear h70
   refine wms 1 h72 rfl fun a73 h73 => ?_; clear h72
   refine wpList_nil (hK68 _ _ ?_)
   refine wp_block ?_
   have hnl := nextsV_len (nth code.l t).l k
   have hww := (okV_of hok t (by omega) k (by omega)).2.2.1
   refine x_loop (fun m a w => ∃ (q : Nat) (M3 : List BArr), (q ≤ (nextsL (nth code.l t).l k).length) ∧ (M3.length = regs.toNat) ∧ (∀ a, a < M3.length → (nth M3 a).l.length = 200) ∧ (∀ a b, a < regs.toNat → b < 200 → get2 BArr.l M3 a b = (clTo (nth code.l t).l (f t) k a b || ((nextsL (nth code.l t).l k).take q).any fun y => clE (wrG (nth (nth code.l t).l k)) (f t) y.toNat a b)) ∧ St 110 (fun _ => False) W a w [(1, .pointer (some ⟨b3, 0, none⟩)), (3, .pointer (some ⟨b5, 0, none⟩)), (5, vo), (7, (nth code.l t).v), (8, v39), (9, s43.v), (12, .int .i64 (wrG (nth ((nth code.l t).l) k))), (26, code.v), (27, .int .i64 ((code.l.length : Nat) : Int)), (28, .int .i64 ((t : Nat) : Int)), (37, (nth code.l t).v), (38, .int .i64 ((((nth code.l t).l).length : Nat) : Int)), (39, .int .i64 ((k : Nat) : Int)), (48, s70.v), (49, .int .i64 (((nextsL ((nth code.l t).l) k).length : Nat) : Int)), (50, .int .i64 ((q : Nat) : Int))] [.own 3 (⟨s70.v, nextsL ((nth code.l t).l) k⟩ : Ls Int), .blk b61 73 [.int .i64 ((nth ((nth code.l t).l) k).op), .int .i64 ((nth ((nth code.l t).l) k).a), .int .i64 ((nth ((nth code.l t).l) k).b), .int .i64 ((nth ((nth code.l t).l) k).c)], .own 121 (⟨s43.v, liveA (f t) (nth code.l t).l.length⟩ : Ls BArr), .own 121 (⟨v39, M3⟩ : Ls BArr), .blk b10 31 [.int .i64 ((checkG (pgOf code words locks regs)).code), .int .i64 ((checkG (pgOf code words locks regs)).thread), .int .i64 ((checkG (pgOf code words locks regs)).at_)], .blk b5 31 [.int .i64 0, .int .i64 0, .int .i64 0], .blk b3 28 [code.v, words.v, .int .i64 locks, .int .i64 regs], .at_ code, .at_ words, .deep 46 (⟨vo, os⟩ : Ls (Ls (Ls Int)))] ∧ m = (nextsL (nth code.l t).l k).length - q) ⟨_, 0, M2, (by omega), (hM2), (hw2), (fun a b ha hb => by rw [any_zero, Bool.or_false]; exact hv2 a b ha hb), h73.nrm ⟨rfl, rfl, rfl, rfl, rfl, rfl, rfl, rfl, rfl, rfl, rfl, rfl, rfl, rfl, rfl, rfl, trivial⟩ [0, 1, 2, 3, 4, 5, 6, 7, 8, 9] (by decide) ⟨rfl, rfl, rfl, rfl, rfl, rfl, rfl, rfl, rfl, rfl, trivial⟩, rfl⟩ ?_
   clear h73
   rintro m74 a74 w74 ⟨q, M3, hq, hM3, hw3, hv3, h74, hm74⟩
   refine wp_seq_k fun K75 hK75 => wp_region_lit ?_
   refine wv h74 (r_lssN (p := q) (q := (nextsL ((nth code.l t).l) k).length) rfl rfl rfl) rfl rfl fun a76 h76 => ?_; clear h74
   refine wpList_nil (hK75 _ _ ?_)
   refine wp_seq_k fun K77 hK77 => ?_
   refine x_cond h76 rfl (fun hb78 => ?_) (fun hb78 => ?_)
   ·
    have hp78 : q < (nextsL ((nth code.l t).l) k).length := of_decide_eq_true hb78
    refine wp_skip ?_
    refine hK77 _ _ ?_
    refine wp_seq_k fun K79 hK79 => ?_
    refine wp_block ?_
    refine wp_seq_k fun K80 hK80 => wp_region_lit ?_
    refine wv h76 (r_ixN (s := (⟨s70.v, nextsL ((nth code.l t).l) k⟩ : Ls Int)) (q := q) sl_24 ti_3 rfl rfl rfl (fun w h => (h.own 0 rfl)) (show q < (nextsL ((nth code.l t).l) k).length from (by omega))) rfl rfl fun a81 h81 => ?_; clear h76
    refine wv h81 (r_lde (s := (⟨s70.v, nextsL ((nth code.l t).l) k⟩ : Ls Int)) (i := q) (v := .int .i64 (nth (nextsL ((nth code.l t).l) k) q)) ti_3 rfl rfl rfl (fun w h => (h.own 0 rfl)) (show q < (nextsL ((nth code.l t).l) k).length from (by omega)) (Nat.le_of_ble_eq_true rfl) rfl) rfl rfl fun a82 h82 => ?_; clear h81
    refine wms 1 h82 rfl fun a83 h83 => ?_; clear h82
    refine wpList_nil (hK80 _ _ ?_)
    have hi0 := nth_mem (nextsL (nth code.l t).l k) q (by omega)
    have hnx := nextsV_ok hjt (by omega) hi0
    have hA2 := liveA_200 (f := f t) (n := (nth code.l t).l.length) (j := (nth (nextsL (nth code.l t).l k) q).toNat) (by omega)
    refine wp_seq_k fun K84 hK84 => wp_region_lit ?_
    refine wms 2 h83 rfl fun a85 h85 => ?_; clear h83
    have hl86 : (liveA (f t) (nth code.l t).l.length).length ≤ 140737488355328 := (h85.sh.own 2 rfl).len
    refine wv h85 (r_ixI (s := (⟨s43.v, liveA (f t) (nth code.l t).l.length⟩ : Ls BArr)) (q := nth (nextsL ((nth code.l t).l) k) q) sl_118 ti_121 rfl rfl rfl (fun w h => (h.own 2 rfl)) (show 0 ≤ nth (nextsL ((nth code.l t).l) k) q ∧ nth (nextsL ((nth code.l t).l) k) q < (liveA (f t) (nth code.l t).l.length).length from (by omega))) rfl rfl fun a87 h87 => ?_; clear h85
    refine wv h87 (r_ldewAr (n := 0) (i := (nth (nextsL ((nth code.l t).l) k) q).toNat) (s := (⟨s43.v, liveA (f t) (nth code.l t).l.length⟩ : Ls BArr)) ti_121 rfl rfl (fun w h => (h.own 2 rfl)) (show (nth (nextsL ((nth code.l t).l) k) q).toNat < (liveA (f t) (nth code.l t).l.length).length from (by omega))) rfl rfl fun a88 h88 => ?_; clear h87
    refine wms 1 h88 rfl fun a89 h89 => ?_; clear h88
    refine wpList_nil (hK84 _ _ ?_)
    refine wp_block ?_
    refine x_loop (fun m a w => ∃ (r : Nat) (M4 : List BArr), (r ≤ 200) ∧ (M4.length = regs.toNat) ∧ (∀ a, a < M4.length → (nth M4 a).l.length = 200) ∧ (∀ a b, a < regs.toNat → b < 200 → get2 BArr.l M4 a b = ((clTo (nth code.l t).l (f t) k a b || ((nextsL (nth code.l t).l k).take q).any fun y => clE (wrG (nth (nth code.l t).l k)) (f t) y.toNat a b) || clJ (wrG (nth (nth code.l t).l k)) (f t) (nth (nextsL (nth code.l t).l k) q).toNat r a b)) ∧ St 110 (fun _ => False) W a w [(1, .pointer (some ⟨b3, 0, none⟩)), (3, .pointer (some ⟨b5, 0, none⟩)), (5, vo), (7, (nth code.l t).v), (8, v39), (9, s43.v), (12, .int .i64 (wrG (nth ((nth code.l t).l) k))), (26, code.v), (27, .int .i64 ((code.l.length : Nat) : Int)), (28, .int .i64 ((t : Nat) : Int)), (37, (nth code.l t).v), (38, .int .i64 ((((nth code.l t).l).length : Nat) : Int)), (39, .int .i64 ((k : Nat) : Int)), (48, s70.v), (49, .int .i64 (((nextsL ((nth code.l t).l) k).length : Nat) : Int)), (50, .int .i64 ((q : Nat) : Int)), (57, .agg (((nth (liveA (f t) (nth code.l t).l.length) ((nth (nextsL ((nth code.l t).l) k) q).toNat)).l).map Value.bool).toArray), (58, .int .i64 ((r : Nat) : Int))] [.own 3 (⟨s70.v, nextsL ((nth code.l t).l) k⟩ : Ls Int), .blk b61 73 [.int .i64 ((nth ((nth code.l t).l) k).op), .int .i64 ((nth ((nth code.l t).l) k).a), .int .i64 ((nth ((nth code.l t).l) k).b), .int .i64 ((nth ((nth code.l t).l) k).c)], .own 121 (⟨s43.v, liveA (f t) (nth code.l t).l.length⟩ : Ls BArr), .own 121 (⟨v39, M4⟩ : Ls BArr), .blk b10 31 [.int .i64 ((checkG (pgOf code words locks regs)).code), .int .i64 ((checkG (pgOf code words locks regs)).thread), .int .i64 ((checkG (pgOf code words locks regs)).at_)], .blk b5 31 [.int .i64 0, .int .i64 0, .int .i64 0], .blk b3 28 [code.v, words.v, .int .i64 locks, .int .i64 regs], .at_ code, .at_ words, .deep 46 (⟨vo, os⟩ : Ls (Ls (Ls Int)))] ∧ m = 200 - r) ⟨_, 0, M3, (by omega), (hM3), (hw3), (fun a b ha hb => by rw [clJ_zero, Bool.or_false]; exact hv3 a b ha hb), h89.nrm ⟨rfl, rfl, rfl, rfl, rfl, rfl, rfl, rfl, rfl, rfl, rfl, rfl, rfl, rfl, rfl, rfl, rfl, rfl, trivial⟩ [0, 1, 2, 3, 4, 5, 6, 7, 8, 9] (by decide) ⟨rfl, rfl, rfl, rfl, rfl, rfl, rfl, rfl, rfl, rfl, trivial⟩, rfl⟩ ?_
    clear h89
    rintro m90 a90 w90 ⟨r, M4, hr, hM4, hw4, hv4, h90, hm90⟩
    refine wp_seq_k fun K91 hK91 => wp_region_lit ?_
    refine wv h90 (r_lssN (p := r) (q := 200) rfl rfl rfl) rfl rfl fun a92 h92 => ?_; clear h90
    refine wpList_nil (hK91 _ _ ?_)
    refine wp_seq_k fun K93 hK93 => ?_
    refine x_cond h92 rfl (fun hb94 => ?_) (fun hb94 => ?_)
    ·
     have hp94 : r < 200 := of_decide_eq_true hb94
     refine wp_skip ?_
     refine hK93 _ _ ?_
     refine wp_seq_k fun K95 hK95 => ?_
     refine wp_block ?_
     refine wp_seq_k fun K96 hK96 => wp_region_lit ?_
     refine wms 1 h92 rfl fun a97 h97 => ?_; clear h92
     refine wv h97 (r_ixV (cs := ((nth (liveA (f t) (nth code.l t).l.length) ((nth (nextsL ((nth code.l t).l) k) q).toNat)).l).map Value.bool) (q := r) ar_121 ti_4 rfl rfl rfl (show r < 200 from (by omega)) (nth_bool (by rw [show ((nth (liveA (f t) (nth code.l t).l.length) ((nth (nextsL ((nth code.l t).l) k) q).toNat)).l).length = 200 from (by first | assumption | (simp only [lens9]; done) | (simp only [lens9]; first | assumption | omega) | rfl)]; omega))) rfl rfl fun a98 h98 => ?_; clear h97
     refine wms 2 h98 rfl fun a99 h99 => ?_; clear h98
     refine wpList_nil (hK96 _ _ ?_)
     have hfr : nth (nth (liveA (f t) (nth code.l t).l.length) (nth (nextsL (nth code.l t).l k) q).toNat).l r = f t r (nth (nextsL (nth code.l t).l k) q).toNat := by rw [liveA_nth (by omega)]; exact nth_mapR (by omega)
     have hrr : nth (nth (liveA (f t) (nth code.l t).l.length) (nth (nextsL (nth code.l t).l k) q).toNat).l r = true → (r : Int) < regs := fun h9 => live_lt (okV_of hok t (by omega)) ((hF t (by omega) _ _).1 (hfr.symm.trans h9))
     refine wp_seq_k fun K100 hK100 => wp_region_lit ?_
     refine wms 1 h99 rfl fun a101 h101 => ?_; clear h99
     refine wv h101 (r_geqI (p := wrG (nth ((nth code.l t).l) k)) (q := 0) rfl rfl rfl) rfl rfl fun a102 h102 => ?_; clear h101
     refine wms 1 h102 rfl fun a103 h103 => ?_; clear h102
     rcases Bool.eq_false_or_eq_true (decide (0 ≤ wrG (nth ((nth code.l t).l) k))) with hb104 | hb104
     ·
      have hp104 : 0 ≤ wrG (nth ((nth code.l t).l) k) := of_decide_eq_true hb104
      refine wl_val h103 (r_move rfl rfl) (wanted_yes h103.fr rfl rfl rfl rfl hb104) rfl rfl fun a105 h105 => ?_; clear h103
      refine wv h105 (r_pickT rfl rfl hb104 rfl) rfl rfl fun a106 h106 => ?_; clear h105
      refine wms 1 h106 rfl fun a107 h107 => ?_; clear h106
      rcases Bool.eq_false_or_eq_true (nth ((nth (liveA (f t) (nth code.l t).l.length) ((nth (nextsL ((nth code.l t).l) k) q).toNat)).l) r) with hb108 | hb108
      ·
       skip
       refine wl_val h107 (r_move rfl rfl) (wanted_yes h107.fr rfl rfl rfl rfl hb108) rfl rfl fun a109 h109 => ?_; clear h107
       refine wl_val h109 (r_move rfl rfl) (wanted_yes h109.fr rfl rfl rfl rfl hb108) rfl rfl fun a110 h110 => ?_; clear h109
       refine wl_val h110 (r_neqI (p := ((r : Nat) : Int)) (q := wrG (nth ((nth code.l t).l) k)) rfl rfl rfl) (wanted_yes h110.fr rfl rfl rfl rfl hb108) rfl rfl fun a111 h111 => ?_; clear h110
       refine wv h111 (r_pickT rfl rfl hb108 rfl) rfl rfl fun a112 h112 => ?_; clear h111
       refine wpList_nil (hK100 _ _ ?_)
       refine x_cond h112 rfl (fun hb113 => ?_) (fun hb113 => ?_)
       ·
        have hp113 : ((r : Nat) : Int) ≠ wrG (nth ((nth code.l t).l) k) := of_decide_eq_true hb113
        have hrr2 := hrr (by assumption)
        have h114 : St 110 (fun _ => False) W a112 w90 [(1, .pointer (some ⟨b3, 0, none⟩)), (3, .pointer (some ⟨b5, 0, none⟩)), (5, vo), (7, (nth code.l t).v), (8, v39), (9, s43.v), (12, .int .i64 (wrG (nth ((nth code.l t).l) k))), (15, .int .i64 ((r : Nat) : Int)), (16, .bool (nth ((nth (liveA (f t) (nth code.l t).l.length) ((nth (nextsL ((nth code.l t).l) k) q).toNat)).l) r)), (26, code.v), (27, .int .i64 ((code.l.length : Nat) : Int)), (28, .int .i64 ((t : Nat) : Int)), (37, (nth code.l t).v), (38, .int .i64 ((((nth code.l t).l).length : Nat) : Int)), (39, .int .i64 ((k : Nat) : Int)), (48, s70.v), (49, .int .i64 (((nextsL ((nth code.l t).l) k).length : Nat) : Int)), (50, .int .i64 ((q : Nat) : Int)), (57, .agg (((nth (liveA (f t) (nth code.l t).l.length) ((nth (nextsL ((nth code.l t).l) k) q).toNat)).l).map Value.bool).toArray), (58, .int .i64 ((r : Nat) : Int)), (59, .bool (decide (r < 200))), (60, .int .i64 ((r : Nat) : Int)), (61, .bool (nth ((nth (liveA (f t) (nth code.l t).l.length) ((nth (nextsL ((nth code.l t).l) k) q).toNat)).l) r)), (62, .int .i64 (wrG (nth ((nth code.l t).l) k))), (63, .bool (decide (0 ≤ wrG (nth ((nth code.l t).l) k)))), (64, .bool (decide (0 ≤ wrG (nth ((nth code.l t).l) k)))), (65, .bool (nth ((nth (liveA (f t) (nth code.l t).l.length) ((nth (nextsL ((nth code.l t).l) k) q).toNat)).l) r)), (66, .bool (nth ((nth (liveA (f t) (nth code.l t).l.length) ((nth (nextsL ((nth code.l t).l) k) q).toNat)).l) r)), (67, .bool (nth ((nth (liveA (f t) (nth code.l t).l.length) ((nth (nextsL ((nth code.l t).l) k) q).toNat)).l) r)), (68, .int .i64 ((r : Nat) : Int)), (69, .int .i64 (wrG (nth ((nth code.l t).l) k))), (70, .bool (decide (((r : Nat) : Int) ≠ wrG (nth ((nth code.l t).l) k)))), (71, .bool (decide (((r : Nat) : Int) ≠ wrG (nth ((nth code.l t).l) k))))] [.own 3 (⟨s70.v, nextsL ((nth code.l t).l) k⟩ : Ls Int), .blk b61 73 [.int .i64 ((nth ((nth code.l t).l) k).op), .int .i64 ((nth ((nth code.l t).l) k).a), .int .i64 ((nth ((nth code.l t).l) k).b), .int .i64 ((nth ((nth code.l t).l) k).c)], .own 121 (⟨s43.v, liveA (f t) (nth code.l t).l.length⟩ : Ls BArr), .own 121 (⟨v39, M4⟩ : Ls BArr), .blk b10 31 [.int .i64 ((checkG (pgOf code words locks regs)).code), .int .i64 ((checkG (pgOf code words locks regs)).thread), .int .i64 ((checkG (pgOf code words locks regs)).at_)], .blk b5 31 [.int .i64 0, .int .i64 0, .int .i64 0], .blk b3 28 [code.v, words.v, .int .i64 locks, .int .i64 regs], .at_ code, .at_ words, .deep 46 (⟨vo, os⟩ : Ls (Ls (Ls Int)))] := h112.nrm ⟨rfl, rfl, rfl, rfl, rfl, rfl, rfl, rfl, rfl, rfl, rfl, rfl, rfl, rfl, rfl, rfl, rfl, rfl, rfl, rfl, rfl, rfl, rfl, rfl, rfl, rfl, rfl, rfl, rfl, rfl, rfl, rfl, rfl, trivial⟩ [0, 1, 2, 3, 4, 5, 6, 7, 8, 9] (by decide) ⟨rfl, rfl, rfl, rfl, rfl, rfl, rfl, rfl, rfl, rfl, trivial⟩
        clear h112
        refine x_any (fun S a w => (S 8 = false ∧ S 11 = false ∧ FrI 110 S [(1, .pointer (some ⟨b3, 0, none⟩)), (3, .pointer (some ⟨b5, 0, none⟩)), (5, vo), (7, (nth code.l t).v), (8, v39), (9, s43.v), (12, .int .i64 (wrG (nth ((nth code.l t).l) k))), (15, .int .i64 ((r : Nat) : Int)), (16, .bool (nth ((nth (liveA (f t) (nth code.l t).l.length) ((nth (nextsL ((nth code.l t).l) k) q).toNat)).l) r)), (26, code.v), (27, .int .i64 ((code.l.length : Nat) : Int)), (28, .int .i64 ((t : Nat) : Int)), (37, (nth code.l t).v), (38, .int .i64 ((((nth code.l t).l).length : Nat) : Int)), (39, .int .i64 ((k : Nat) : Int)), (48, s70.v), (49, .int .i64 (((nextsL ((nth code.l t).l) k).length : Nat) : Int)), (50, .int .i64 ((q : Nat) : Int)), (57, .agg (((nth (liveA (f t) (nth code.l t).l.length) ((nth (nextsL ((nth code.l t).l) k) q).toNat)).l).map Value.bool).toArray), (58, .int .i64 ((r : Nat) : Int)), (59, .bool (decide (r < 200))), (60, .int .i64 ((r : Nat) : Int)), (61, .bool (nth ((nth (liveA (f t) (nth code.l t).l.length) ((nth (nextsL ((nth code.l t).l) k) q).toNat)).l) r)), (62, .int .i64 (wrG (nth ((nth code.l t).l) k))), (63, .bool (decide (0 ≤ wrG (nth ((nth code.l t).l) k)))), (64, .bool (decide (0 ≤ wrG (nth ((nth code.l t).l) k)))), (65, .bool (nth ((nth (liveA (f t) (nth code.l t).l.length) ((nth (nextsL ((nth code.l t).l) k) q).toNat)).l) r)), (66, .bool (nth ((nth (liveA (f t) (nth code.l t).l.length) ((nth (nextsL ((nth code.l t).l) k) q).toNat)).l) r)), (67, .bool (nth ((nth (liveA (f t) (nth code.l t).l.length) ((nth (nextsL ((nth code.l t).l) k) q).toNat)).l) r)), (68, .int .i64 ((r : Nat) : Int)), (69, .int .i64 (wrG (nth ((nth code.l t).l) k))), (70, .bool (decide (((r : Nat) : Int) ≠ wrG (nth ((nth code.l t).l) k)))), (71, .bool (decide (((r : Nat) : Int) ≠ wrG (nth ((nth code.l t).l) k))))] [(0, 72, v39), (1, 73, .int .i64 ((r : Nat) : Int)), (2, 74, .int .i64 (wrG (nth ((nth code.l t).l) k))), (3, 75, v39), (4, 76, .int .i64 (wrG (nth ((nth code.l t).l) k))), (5, 77, .int .i64 ((r : Nat) : Int)), (6, 78, .pointer (some (padr v39 200 r 0))), (7, 79, .pointer (some (padr v39 200 r ((wrG (nth ((nth code.l t).l) k)).toNat)))), (9, 80, .pointer (some (padr v39 200 ((wrG (nth ((nth code.l t).l) k)).toNat) 0)))] a ∧ Sh (fun _ => False) W w [.own 3 (⟨s70.v, nextsL ((nth code.l t).l) k⟩ : Ls Int), .blk b61 73 [.int .i64 ((nth ((nth code.l t).l) k).op), .int .i64 ((nth ((nth code.l t).l) k).a), .int .i64 ((nth ((nth code.l t).l) k).b), .int .i64 ((nth ((nth code.l t).l) k).c)], .own 121 (⟨s43.v, liveA (f t) (nth code.l t).l.length⟩ : Ls BArr), .own 121 (⟨v39, M4⟩ : Ls BArr), .blk b10 31 [.int .i64 ((checkG (pgOf code words locks regs)).code), .int .i64 ((checkG (pgOf code words locks regs)).thread), .int .i64 ((checkG (pgOf code words locks regs)).at_)], .blk b5 31 [.int .i64 0, .int .i64 0, .int .i64 0], .blk b3 28 [code.v, words.v, .int .i64 locks, .int .i64 regs], .at_ code, .at_ words, .deep 46 (⟨vo, os⟩ : Ls (Ls (Ls Int)))]) ∨ (S 8 = true ∧ S 11 = false ∧ FrI 110 S [(1, .pointer (some ⟨b3, 0, none⟩)), (3, .pointer (some ⟨b5, 0, none⟩)), (5, vo), (7, (nth code.l t).v), (8, v39), (9, s43.v), (12, .int .i64 (wrG (nth ((nth code.l t).l) k))), (15, .int .i64 ((r : Nat) : Int)), (16, .bool (nth ((nth (liveA (f t) (nth code.l t).l.length) ((nth (nextsL ((nth code.l t).l) k) q).toNat)).l) r)), (26, code.v), (27, .int .i64 ((code.l.length : Nat) : Int)), (28, .int .i64 ((t : Nat) : Int)), (37, (nth code.l t).v), (38, .int .i64 ((((nth code.l t).l).length : Nat) : Int)), (39, .int .i64 ((k : Nat) : Int)), (48, s70.v), (49, .int .i64 (((nextsL ((nth code.l t).l) k).length : Nat) : Int)), (50, .int .i64 ((q : Nat) : Int)), (57, .agg (((nth (liveA (f t) (nth code.l t).l.length) ((nth (nextsL ((nth code.l t).l) k) q).toNat)).l).map Value.bool).toArray), (58, .int .i64 ((r : Nat) : Int)), (59, .bool (decide (r < 200))), (60, .int .i64 ((r : Nat) : Int)), (61, .bool (nth ((nth (liveA (f t) (nth code.l t).l.length) ((nth (nextsL ((nth code.l t).l) k) q).toNat)).l) r)), (62, .int .i64 (wrG (nth ((nth code.l t).l) k))), (63, .bool (decide (0 ≤ wrG (nth ((nth code.l t).l) k)))), (64, .bool (decide (0 ≤ wrG (nth ((nth code.l t).l) k)))), (65, .bool (nth ((nth (liveA (f t) (nth code.l t).l.length) ((nth (nextsL ((nth code.l t).l) k) q).toNat)).l) r)), (66, .bool (nth ((nth (liveA (f t) (nth code.l t).l.length) ((nth (nextsL ((nth code.l t).l) k) q).toNat)).l) r)), (67, .bool (nth ((nth (liveA (f t) (nth code.l t).l.length) ((nth (nextsL ((nth code.l t).l) k) q).toNat)).l) r)), (68, .int .i64 ((r : Nat) : Int)), (69, .int .i64 (wrG (nth ((nth code.l t).l) k))), (70, .bool (decide (((r : Nat) : Int) ≠ wrG (nth ((nth code.l t).l) k)))), (71, .bool (decide (((r : Nat) : Int) ≠ wrG (nth ((nth code.l t).l) k))))] [(0, 72, v39), (1, 73, .int .i64 ((r : Nat) : Int)), (2, 74, .int .i64 (wrG (nth ((nth code.l t).l) k))), (3, 75, v39), (4, 76, .int .i64 (wrG (nth ((nth code.l t).l) k))), (5, 77, .int .i64 ((r : Nat) : Int)), (6, 78, .pointer (some (padr v39 200 r 0))), (7, 79, .pointer (some (padr v39 200 r ((wrG (nth ((nth code.l t).l) k)).toNat)))), (9, 80, .pointer (some (padr v39 200 ((wrG (nth ((nth code.l t).l) k)).toNat) 0))), (10, 81, .pointer (some (padr v39 200 ((wrG (nth ((nth code.l t).l) k)).toNat) r)))] a ∧ Sh (fun _ => False) W w [.own 3 (⟨s70.v, nextsL ((nth code.l t).l) k⟩ : Ls Int), .blk b61 73 [.int .i64 ((nth ((nth code.l t).l) k).op), .int .i64 ((nth ((nth code.l t).l) k).a), .int .i64 ((nth ((nth code.l t).l) k).b), .int .i64 ((nth ((nth code.l t).l) k).c)], .own 121 (⟨s43.v, liveA (f t) (nth code.l t).l.length⟩ : Ls BArr), .own 121 (⟨v39, M4.set r ⟨(nth M4 r).l.set ((wrG (nth ((nth code.l t).l) k)).toNat) true⟩⟩ : Ls BArr), .blk b10 31 [.int .i64 ((checkG (pgOf code words locks regs)).code), .int .i64 ((checkG (pgOf code words locks regs)).thread), .int .i64 ((checkG (pgOf code words locks regs)).at_)], .blk b5 31 [.int .i64 0, .int .i64 0, .int .i64 0], .blk b3 28 [code.v, words.v, .int .i64 locks, .int .i64 regs], .at_ code, .at_ words, .deep 46 (⟨vo, os⟩ : Ls (Ls (Ls Int)))]) ∨ (S 8 = true ∧ S 11 = true ∧ FrI 110 S [(1, .pointer (some ⟨b3, 0, none⟩)), (3, .pointer (some ⟨b5, 0, none⟩)), (5, vo), (7, (nth code.l t).v), (8, v39), (9, s43.v), (12, .int .i64 (wrG (nth ((nth code.l t).l) k))), (15, .int .i64 ((r : Nat) : Int)), (16, .bool (nth ((nth (liveA (f t) (nth code.l t).l.length) ((nth (nextsL ((nth code.l t).l) k) q).toNat)).l) r)), (26, code.v), (27, .int .i64 ((code.l.length : Nat) : Int)), (28, .int .i64 ((t : Nat) : Int)), (37, (nth code.l t).v), (38, .int .i64 ((((nth code.l t).l).length : Nat) : Int)), (39, .int .i64 ((k : Nat) : Int)), (48, s70.v), (49, .int .i64 (((nextsL ((nth code.l t).l) k).length : Nat) : Int)), (50, .int .i64 ((q : Nat) : Int)), (57, .agg (((nth (liveA (f t) (nth code.l t).l.length) ((nth (nextsL ((nth code.l t).l) k) q).toNat)).l).map Value.bool).toArray), (58, .int .i64 ((r : Nat) : Int)), (59, .bool (decide (r < 200))), (60, .int .i64 ((r : Nat) : Int)), (61, .bool (nth ((nth (liveA (f t) (nth code.l t).l.length) ((nth (nextsL ((nth code.l t).l) k) q).toNat)).l) r)), (62, .int .i64 (wrG (nth ((nth code.l t).l) k))), (63, .bool (decide (0 ≤ wrG (nth ((nth code.l t).l) k)))), (64, .bool (decide (0 ≤ wrG (nth ((nth code.l t).l) k)))), (65, .bool (nth ((nth (liveA (f t) (nth code.l t).l.length) ((nth (nextsL ((nth code.l t).l) k) q).toNat)).l) r)), (66, .bool (nth ((nth (liveA (f t) (nth code.l t).l.length) ((nth (nextsL ((nth code.l t).l) k) q).toNat)).l) r)), (67, .bool (nth ((nth (liveA (f t) (nth code.l t).l.length) ((nth (nextsL ((nth code.l t).l) k) q).toNat)).l) r)), (68, .int .i64 ((r : Nat) : Int)), (69, .int .i64 (wrG (nth ((nth code.l t).l) k))), (70, .bool (decide (((r : Nat) : Int) ≠ wrG (nth ((nth code.l t).l) k)))), (71, .bool (decide (((r : Nat) : Int) ≠ wrG (nth ((nth code.l t).l) k))))] [(0, 72, v39), (1, 73, .int .i64 ((r : Nat) : Int)), (2, 74, .int .i64 (wrG (nth ((nth code.l t).l) k))), (3, 75, v39), (4, 76, .int .i64 (wrG (nth ((nth code.l t).l) k))), (5, 77, .int .i64 ((r : Nat) : Int)), (6, 78, .pointer (some (padr v39 200 r 0))), (7, 79, .pointer (some (padr v39 200 r ((wrG (nth ((nth code.l t).l) k)).toNat)))), (9, 80, .pointer (some (padr v39 200 ((wrG (nth ((nth code.l t).l) k)).toNat) 0))), (10, 81, .pointer (some (padr v39 200 ((wrG (nth ((nth code.l t).l) k)).toNat) r)))] a ∧ Sh (fun _ => False) W w [.own 3 (⟨s70.v, nextsL ((nth code.l t).l) k⟩ : Ls Int), .blk b61 73 [.int .i64 ((nth ((nth code.l t).l) k).op), .int .i64 ((nth ((nth code.l t).l) k).a), .int .i64 ((nth ((nth code.l t).l) k).b), .int .i64 ((nth ((nth code.l t).l) k).c)], .own 121 (⟨s43.v, liveA (f t) (nth code.l t).l.length⟩ : Ls BArr), .own 121 (⟨v39, (M4.set r ⟨(nth M4 r).l.set ((wrG (nth ((nth code.l t).l) k)).toNat) true⟩).set ((wrG (nth ((nth code.l t).l) k)).toNat) ⟨(nth (M4.set r ⟨(nth M4 r).l.set ((wrG (nth ((nth code.l t).l) k)).toNat) true⟩) ((wrG (nth ((nth code.l t).l) k)).toNat)).l.set r true⟩⟩ : Ls BArr), .blk b10 31 [.int .i64 ((checkG (pgOf code words locks regs)).code), .int .i64 ((checkG (pgOf code words locks regs)).thread), .int .i64 ((checkG (pgOf code words locks regs)).at_)], .blk b5 31 [.int .i64 0, .int .i64 0, .int .i64 0], .blk b3 28 [code.v, words.v, .int .i64 locks, .int .i64 regs], .at_ code, .at_ words, .deep 46 (⟨vo, os⟩ : Ls (Ls (Ls Int)))])) (by kernel_rfl) (by kernel_rfl) (Or.inl (⟨rfl, rfl, FrI.start h114.fr, h114.sh.drew⟩)) ?_ ?_
        ·intro S i o ho hSi hcl hdep a w hI
         clear h114
         rcases i with _ | _ | _ | _ | _ | _ | _ | _ | _ | _ | _ | _ | i
         ·
          obtain rfl : _ = o := Option.some.inj ho
          rcases hI with ⟨hw8, hw11, hfr, hsh⟩ | ⟨hw8, hw11, hfr, hsh⟩ | ⟨hw8, hw11, hfr, hsh⟩
          ·
           exact sq hfr hfr.fr0 hsh (r_move rfl rfl) 0 rfl rfl rfl rfl rfl rfl fun a hg => Or.inl (⟨un rfl hw8, un rfl hw11, hg, hsh⟩)
          ·
           exact no_way (cA hcl 8 0 rfl hw8) hSi
          ·
           exact no_way (cA hcl 8 0 rfl hw8) hSi
         ·
          obtain rfl : _ = o := Option.some.inj ho
          rcases hI with ⟨hw8, hw11, hfr, hsh⟩ | ⟨hw8, hw11, hfr, hsh⟩ | ⟨hw8, hw11, hfr, hsh⟩
          ·
           exact sq hfr hfr.fr0 hsh (r_move rfl rfl) 1 rfl rfl rfl rfl rfl rfl fun a hg => Or.inl (⟨un rfl hw8, un rfl hw11, hg, hsh⟩)
          ·
           exact no_way (cA hcl 8 1 rfl hw8) hSi
          ·
           exact no_way (cA hcl 8 1 rfl hw8) hSi
         ·
          obtain rfl : _ = o := Option.some.inj ho
          rcases hI with ⟨hw8, hw11, hfr, hsh⟩ | ⟨hw8, hw11, hfr, hsh⟩ | ⟨hw8, hw11, hfr, hsh⟩
          ·
           exact sq hfr hfr.fr0 hsh (r_move rfl rfl) 2 rfl rfl rfl rfl rfl rfl fun a hg => Or.inl (⟨un rfl hw8, un rfl hw11, hg, hsh⟩)
          ·
           exact no_way (cA hcl 8 2 rfl hw8) hSi
          ·
           exact no_way (cA hcl 8 2 rfl hw8) hSi
         ·
          obtain rfl : _ = o := Option.some.inj ho
          rcases hI with ⟨hw8, hw11, hfr, hsh⟩ | ⟨hw8, hw11, hfr, hsh⟩ | ⟨hw8, hw11, hfr, hsh⟩
          ·
           exact sq hfr hfr.fr0 hsh (r_move rfl rfl) 3 rfl rfl rfl rfl rfl rfl fun a hg => Or.inl (⟨un rfl hw8, un rfl hw11, hg, hsh⟩)
          ·
           exact sq hfr hfr.fr0 hsh (r_move rfl rfl) 3 rfl rfl rfl rfl rfl rfl fun a hg => Or.inr (Or.inl (⟨un rfl hw8, un rfl hw11, hg, hsh⟩))
          ·
           exact no_way (cA hcl 11 3 rfl hw11) hSi
         ·
          obtain rfl : _ = o := Option.some.inj ho
          rcases hI with ⟨hw8, hw11, hfr, hsh⟩ | ⟨hw8, hw11, hfr, hsh⟩ | ⟨hw8, hw11, hfr, hsh⟩
          ·
           exact sq hfr hfr.fr0 hsh (r_move rfl rfl) 4 rfl rfl rfl rfl rfl rfl fun a hg => Or.inl (⟨un rfl hw8, un rfl hw11, hg, hsh⟩)
          ·
           exact sq hfr hfr.fr0 hsh (r_move rfl rfl) 4 rfl rfl rfl rfl rfl rfl fun a hg => Or.inr (Or.inl (⟨un rfl hw8, un rfl hw11, hg, hsh⟩))
          ·
           exact no_way (cA hcl 11 4 rfl hw11) hSi
         ·
          obtain rfl : _ = o := Option.some.inj ho
          rcases hI with ⟨hw8, hw11, hfr, hsh⟩ | ⟨hw8, hw11, hfr, hsh⟩ | ⟨hw8, hw11, hfr, hsh⟩
          ·
           exact sq hfr hfr.fr0 hsh (r_move rfl rfl) 5 rfl rfl rfl rfl rfl rfl fun a hg => Or.inl (⟨un rfl hw8, un rfl hw11, hg, hsh⟩)
          ·
           exact sq hfr hfr.fr0 hsh (r_move rfl rfl) 5 rfl rfl rfl rfl rfl rfl fun a hg => Or.inr (Or.inl (⟨un rfl hw8, un rfl hw11, hg, hsh⟩))
          ·
           exact no_way (cA hcl 11 5 rfl hw11) hSi
         ·
          obtain rfl : _ = o := Option.some.inj ho
          have hd0 : S 0 = true := depAt hdep 0 rfl rfl
          have hd1 : S 1 = true := depAt hdep 1 rfl rfl
          rcases hI with ⟨hw8, hw11, hfr, hsh⟩ | ⟨hw8, hw11, hfr, hsh⟩ | ⟨hw8, hw11, hfr, hsh⟩
          ·
           have hs := St.mk (Fr.cons (Fr.cons hfr.fr0 (hfr.at_ 0 0 72 _ rfl hd0)) (hfr.at_ 1 1 73 _ rfl hd1)) hsh
           have hl128 : M4.length ≤ 140737488355328 := (hs.sh.own 3 rfl).len
           exact sq hfr (Fr.cons (Fr.cons hfr.fr0 (hfr.at_ 0 0 72 _ rfl hd0)) (hfr.at_ 1 1 73 _ rfl hd1)) hsh (r_ixN (s := (⟨v39, M4⟩ : Ls BArr)) (q := r) sl_118 ti_121 rfl rfl rfl (fun w h => (h.own 3 rfl)) (show r < M4.length from (by omega))) 6 rfl rfl rfl rfl rfl rfl fun a hg => Or.inl (⟨un rfl hw8, un rfl hw11, hg, hsh⟩)
          ·
           exact no_way (cA hcl 8 6 rfl hw8) hSi
          ·
           exact no_way (cA hcl 8 6 rfl hw8) hSi
         ·
          obtain rfl : _ = o := Option.some.inj ho
          have hd6 : S 6 = true := depAt hdep 0 rfl rfl
          have hd2 : S 2 = true := depAt hdep 1 rfl rfl
          rcases hI with ⟨hw8, hw11, hfr, hsh⟩ | ⟨hw8, hw11, hfr, hsh⟩ | ⟨hw8, hw11, hfr, hsh⟩
          ·
           exact sq hfr (Fr.cons (Fr.cons hfr.fr0 (hfr.at_ 2 2 74 _ rfl hd2)) (hfr.at_ 6 6 78 _ rfl hd6)) hsh (r_ixArEI (q := wrG (nth ((nth code.l t).l) k)) ar_121 ti_4 rfl rfl rfl rfl (show 0 ≤ wrG (nth ((nth code.l t).l) k) ∧ wrG (nth ((nth code.l t).l) k) < 200 from (by omega))) 7 rfl rfl rfl rfl rfl rfl fun a hg => Or.inl (⟨un rfl hw8, un rfl hw11, hg, hsh⟩)
          ·
           exact no_way (cA hcl 8 7 rfl hw8) hSi
          ·
           exact no_way (cA hcl 8 7 rfl hw8) hSi
         ·
          obtain rfl : _ = o := Option.some.inj ho
          have hd7 : S 7 = true := depAt hdep 0 rfl rfl
          rcases hI with ⟨hw8, hw11, hfr, hsh⟩ | ⟨hw8, hw11, hfr, hsh⟩ | ⟨hw8, hw11, hfr, hsh⟩
          ·
           have hs := St.mk (Fr.cons hfr.fr0 (hfr.at_ 7 7 79 _ rfl hd7)) hsh
           refine step_ex (x_steAr (r := 3) (i := r) (s := (⟨v39, M4⟩ : Ls BArr)) (j := (wrG (nth ((nth code.l t).l) k)).toNat) (b := true) hs ti_4 rfl rfl rfl rfl (show r < M4.length from (by omega)) (show (wrG (nth ((nth code.l t).l) k)).toNat < 200 from (by omega)) rfl) (wanted_none rfl _) ?_
           rintro a131 w131 h131 ⟨v0, ht131⟩
           have hm131 : FrI 110 S [(1, .pointer (some ⟨b3, 0, none⟩)), (3, .pointer (some ⟨b5, 0, none⟩)), (5, vo), (7, (nth code.l t).v), (8, v39), (9, s43.v), (12, .int .i64 (wrG (nth ((nth code.l t).l) k))), (15, .int .i64 ((r : Nat) : Int)), (16, .bool (nth ((nth (liveA (f t) (nth code.l t).l.length) ((nth (nextsL ((nth code.l t).l) k) q).toNat)).l) r)), (26, code.v), (27, .int .i64 ((code.l.length : Nat) : Int)), (28, .int .i64 ((t : Nat) : Int)), (37, (nth code.l t).v), (38, .int .i64 ((((nth code.l t).l).length : Nat) : Int)), (39, .int .i64 ((k : Nat) : Int)), (48, s70.v), (49, .int .i64 (((nextsL ((nth code.l t).l) k).length : Nat) : Int)), (50, .int .i64 ((q : Nat) : Int)), (57, .agg (((nth (liveA (f t) (nth code.l t).l.length) ((nth (nextsL ((nth code.l t).l) k) q).toNat)).l).map Value.bool).toArray), (58, .int .i64 ((r : Nat) : Int)), (59, .bool (decide (r < 200))), (60, .int .i64 ((r : Nat) : Int)), (61, .bool (nth ((nth (liveA (f t) (nth code.l t).l.length) ((nth (nextsL ((nth code.l t).l) k) q).toNat)).l) r)), (62, .int .i64 (wrG (nth ((nth code.l t).l) k))), (63, .bool (decide (0 ≤ wrG (nth ((nth code.l t).l) k)))), (64, .bool (decide (0 ≤ wrG (nth ((nth code.l t).l) k)))), (65, .bool (nth ((nth (liveA (f t) (nth code.l t).l.length) ((nth (nextsL ((nth code.l t).l) k) q).toNat)).l) r)), (66, .bool (nth ((nth (liveA (f t) (nth code.l t).l.length) ((nth (nextsL ((nth code.l t).l) k) q).toNat)).l) r)), (67, .bool (nth ((nth (liveA (f t) (nth code.l t).l.length) ((nth (nextsL ((nth code.l t).l) k) q).toNat)).l) r)), (68, .int .i64 ((r : Nat) : Int)), (69, .int .i64 (wrG (nth ((nth code.l t).l) k))), (70, .bool (decide (((r : Nat) : Int) ≠ wrG (nth ((nth code.l t).l) k)))), (71, .bool (decide (((r : Nat) : Int) ≠ wrG (nth ((nth code.l t).l) k))))] [(0, 72, v39), (1, 73, .int .i64 ((r : Nat) : Int)), (2, 74, .int .i64 (wrG (nth ((nth code.l t).l) k))), (3, 75, v39), (4, 76, .int .i64 (wrG (nth ((nth code.l t).l) k))), (5, 77, .int .i64 ((r : Nat) : Int)), (6, 78, .pointer (some (padr v39 200 r 0))), (7, 79, .pointer (some (padr v39 200 r ((wrG (nth ((nth code.l t).l) k)).toNat)))), (9, 80, .pointer (some (padr v39 200 ((wrG (nth ((nth code.l t).l) k)).toNat) 0))), (10, 81, .pointer (some (padr v39 200 ((wrG (nth ((nth code.l t).l) k)).toNat) r)))] a := hfr.more (by
            intro k j d v hk hS
            rcases k with _ | _ | _ | _ | _ | _ | _ | _ | _ | _ | k
            ·obtain ⟨rfl, rfl, rfl⟩ : _ = j ∧ _ = d ∧ _ = v := by simpa using hk
             exact hfr.at_ 0 _ _ _ rfl hS
            ·obtain ⟨rfl, rfl, rfl⟩ : _ = j ∧ _ = d ∧ _ = v := by simpa using hk
             exact hfr.at_ 1 _ _ _ rfl hS
            ·obtain ⟨rfl, rfl, rfl⟩ : _ = j ∧ _ = d ∧ _ = v := by simpa using hk
             exact hfr.at_ 2 _ _ _ rfl hS
            ·obtain ⟨rfl, rfl, rfl⟩ : _ = j ∧ _ = d ∧ _ = v := by simpa using hk
             exact hfr.at_ 3 _ _ _ rfl hS
            ·obtain ⟨rfl, rfl, rfl⟩ : _ = j ∧ _ = d ∧ _ = v := by simpa using hk
             exact hfr.at_ 4 _ _ _ rfl hS
            ·obtain ⟨rfl, rfl, rfl⟩ : _ = j ∧ _ = d ∧ _ = v := by simpa using hk
             exact hfr.at_ 5 _ _ _ rfl hS
            ·obtain ⟨rfl, rfl, rfl⟩ : _ = j ∧ _ = d ∧ _ = v := by simpa using hk
             exact hfr.at_ 6 _ _ _ rfl hS
            ·obtain ⟨rfl, rfl, rfl⟩ : _ = j ∧ _ = d ∧ _ = v := by simpa using hk
             exact hfr.at_ 7 _ _ _ rfl hS
            ·obtain ⟨rfl, rfl, rfl⟩ : _ = j ∧ _ = d ∧ _ = v := by simpa using hk
             exact hfr.at_ 8 _ _ _ rfl hS
            ·obtain ⟨rfl, rfl, rfl⟩ : _ = j ∧ _ = d ∧ _ = v := by simpa using hk
             exact no_way (cA hcl 10 8 rfl hS) hSi
            · simp at hk)
           exact Or.inr (Or.inl (⟨upd_self _ _, un rfl hw11, hm131.none ht131 h131.fr.defers rfl, (h131.sh.sel (L' := [.own 3 (⟨s70.v, nextsL ((nth code.l t).l) k⟩ : Ls Int), .blk b61 73 [.int .i64 ((nth ((nth code.l t).l) k).op), .int .i64 ((nth ((nth code.l t).l) k).a), .int .i64 ((nth ((nth code.l t).l) k).b), .int .i64 ((nth ((nth code.l t).l) k).c)], .own 121 (⟨s43.v, liveA (f t) (nth code.l t).l.length⟩ : Ls BArr), .own 121 (⟨v39, M4.set r ⟨(nth M4 r).l.set ((wrG (nth ((nth code.l t).l) k)).toNat) true⟩⟩ : Ls BArr), .blk b10 31 [.int .i64 ((checkG (pgOf code words locks regs)).code), .int .i64 ((checkG (pgOf code words locks regs)).thread), .int .i64 ((checkG (pgOf code words locks regs)).at_)], .blk b5 31 [.int .i64 0, .int .i64 0, .int .i64 0], .blk b3 28 [code.v, words.v, .int .i64 locks, .int .i64 regs], .at_ code, .at_ words, .deep 46 (⟨vo, os⟩ : Ls (Ls (Ls Int)))]) [0, 1, 2, 3, 4, 5, 6, 7, 8, 9] (by decide) ⟨rfl, rfl, rfl, rfl, rfl, rfl, rfl, rfl, rfl, rfl, trivial⟩)⟩))
          ·
           exact no_way hw8 hSi
          ·
           exact no_way hw8 hSi
         ·
          obtain rfl : _ = o := Option.some.inj ho
          have hd3 : S 3 = true := depAt hdep 0 rfl rfl
          have hd4 : S 4 = true := depAt hdep 1 rfl rfl
          rcases hI with ⟨hw8, hw11, hfr, hsh⟩ | ⟨hw8, hw11, hfr, hsh⟩ | ⟨hw8, hw11, hfr, hsh⟩
          ·
           have hs := St.mk (Fr.cons (Fr.cons hfr.fr0 (hfr.at_ 3 3 75 _ rfl hd3)) (hfr.at_ 4 4 76 _ rfl hd4)) hsh
           have hl132 : M4.length ≤ 140737488355328 := (hs.sh.own 3 rfl).len
           exact sq hfr (Fr.cons (Fr.cons hfr.fr0 (hfr.at_ 3 3 75 _ rfl hd3)) (hfr.at_ 4 4 76 _ rfl hd4)) hsh (r_ixI (s := (⟨v39, M4⟩ : Ls BArr)) (q := wrG (nth ((nth code.l t).l) k)) sl_118 ti_121 rfl rfl rfl (fun w h => (h.own 3 rfl)) (show 0 ≤ wrG (nth ((nth code.l t).l) k) ∧ wrG (nth ((nth code.l t).l) k) < M4.length from (by omega))) 8 rfl rfl rfl rfl rfl rfl fun a hg => Or.inl (⟨un rfl hw8, un rfl hw11, hg, hsh⟩)
          ·
           exact sq hfr (Fr.cons (Fr.cons hfr.fr0 (hfr.at_ 3 3 75 _ rfl hd3)) (hfr.at_ 4 4 76 _ rfl hd4)) hsh (r_ixI (s := (⟨v39, M4.set r ⟨(nth M4 r).l.set ((wrG (nth ((nth code.l t).l) k)).toNat) true⟩⟩ : Ls BArr)) (q := wrG (nth ((nth code.l t).l) k)) sl_118 ti_121 rfl rfl rfl (fun w h => (h.own 3 rfl)) (show 0 ≤ wrG (nth ((nth code.l t).l) k) ∧ wrG (nth ((nth code.l t).l) k) < (M4.set r ⟨(nth M4 r).l.set ((wrG (nth ((nth code.l t).l) k)).toNat) true⟩).length from (by first | omega | (simp only [lens9]; omega)))) 8 rfl rfl rfl rfl rfl rfl fun a hg => Or.inr (Or.inl (⟨un rfl hw8, un rfl hw11, hg, hsh⟩))
          ·
           exact no_way (cA hcl 11 9 rfl hw11) hSi
         ·
          obtain rfl : _ = o := Option.some.inj ho
          have hd9 : S 9 = true := depAt hdep 0 rfl rfl
          have hd5 : S 5 = true := depAt hdep 1 rfl rfl
          have hd8 : S 8 = true := depAt hdep 10 rfl rfl
          rcases hI with ⟨hw8, hw11, hfr, hsh⟩ | ⟨hw8, hw11, hfr, hsh⟩ | ⟨hw8, hw11, hfr, hsh⟩
          ·
           exact no_way hd8 hw8
          ·
           exact sq hfr (Fr.cons (Fr.cons hfr.fr0 (hfr.at_ 5 5 77 _ rfl hd5)) (hfr.at_ 8 9 80 _ rfl hd9)) hsh (r_ixArE (q := r) ar_121 ti_4 rfl rfl rfl rfl (show r < 200 from (by omega))) 9 rfl rfl rfl rfl rfl rfl fun a hg => Or.inr (Or.inl (⟨un rfl hw8, un rfl hw11, hg, hsh⟩))
          ·
           exact no_way (cA hcl 11 10 rfl hw11) hSi
         ·
          obtain rfl : _ = o := Option.some.inj ho
          have hd10 : S 10 = true := depAt hdep 0 rfl rfl
          have hd8 : S 8 = true := depAt hdep 1 rfl rfl
          rcases hI with ⟨hw8, hw11, hfr, hsh⟩ | ⟨hw8, hw11, hfr, hsh⟩ | ⟨hw8, hw11, hfr, hsh⟩
          ·
           exact no_way hd8 hw8
          ·
           have hs := St.mk (Fr.cons hfr.fr0 (hfr.at_ 9 10 81 _ rfl hd10)) hsh
           refine step_ex (x_steAr (r := 3) (i := (wrG (nth ((nth code.l t).l) k)).toNat) (s := (⟨v39, M4.set r ⟨(nth M4 r).l.set ((wrG (nth ((nth code.l t).l) k)).toNat) true⟩⟩ : Ls BArr)) (j := r) (b := true) hs ti_4 rfl rfl rfl rfl (show (wrG (nth ((nth code.l t).l) k)).toNat < (M4.set r ⟨(nth M4 r).l.set ((wrG (nth ((nth code.l t).l) k)).toNat) true⟩).length from (by first | omega | (simp only [lens9]; omega))) (show r < 200 from (by omega)) rfl) (wanted_none rfl _) ?_
           rintro a136 w136 h136 ⟨v0, ht136⟩
           have hm136 : FrI 110 S [(1, .pointer (some ⟨b3, 0, none⟩)), (3, .pointer (some ⟨b5, 0, none⟩)), (5, vo), (7, (nth code.l t).v), (8, v39), (9, s43.v), (12, .int .i64 (wrG (nth ((nth code.l t).l) k))), (15, .int .i64 ((r : Nat) : Int)), (16, .bool (nth ((nth (liveA (f t) (nth code.l t).l.length) ((nth (nextsL ((nth code.l t).l) k) q).toNat)).l) r)), (26, code.v), (27, .int .i64 ((code.l.length : Nat) : Int)), (28, .int .i64 ((t : Nat) : Int)), (37, (nth code.l t).v), (38, .int .i64 ((((nth code.l t).l).length : Nat) : Int)), (39, .int .i64 ((k : Nat) : Int)), (48, s70.v), (49, .int .i64 (((nextsL ((nth code.l t).l) k).length : Nat) : Int)), (50, .int .i64 ((q : Nat) : Int)), (57, .agg (((nth (liveA (f t) (nth code.l t).l.length) ((nth (nextsL ((nth code.l t).l) k) q).toNat)).l).map Value.bool).toArray), (58, .int .i64 ((r : Nat) : Int)), (59, .bool (decide (r < 200))), (60, .int .i64 ((r : Nat) : Int)), (61, .bool (nth ((nth (liveA (f t) (nth code.l t).l.length) ((nth (nextsL ((nth code.l t).l) k) q).toNat)).l) r)), (62, .int .i64 (wrG (nth ((nth code.l t).l) k))), (63, .bool (decide (0 ≤ wrG (nth ((nth code.l t).l) k)))), (64, .bool (decide (0 ≤ wrG (nth ((nth code.l t).l) k)))), (65, .bool (nth ((nth (liveA (f t) (nth code.l t).l.length) ((nth (nextsL ((nth code.l t).l) k) q).toNat)).l) r)), (66, .bool (nth ((nth (liveA (f t) (nth code.l t).l.length) ((nth (nextsL ((nth code.l t).l) k) q).toNat)).l) r)), (67, .bool (nth ((nth (liveA (f t) (nth code.l t).l.length) ((nth (nextsL ((nth code.l t).l) k) q).toNat)).l) r)), (68, .int .i64 ((r : Nat) : Int)), (69, .int .i64 (wrG (nth ((nth code.l t).l) k))), (70, .bool (decide (((r : Nat) : Int) ≠ wrG (nth ((nth code.l t).l) k)))), (71, .bool (decide (((r : Nat) : Int) ≠ wrG (nth ((nth code.l t).l) k))))] [(0, 72, v39), (1, 73, .int .i64 ((r : Nat) : Int)), (2, 74, .int .i64 (wrG (nth ((nth code.l t).l) k))), (3, 75, v39), (4, 76, .int .i64 (wrG (nth ((nth code.l t).l) k))), (5, 77, .int .i64 ((r : Nat) : Int)), (6, 78, .pointer (some (padr v39 200 r 0))), (7, 79, .pointer (some (padr v39 200 r ((wrG (nth ((nth code.l t).l) k)).toNat)))), (9, 80, .pointer (some (padr v39 200 ((wrG (nth ((nth code.l t).l) k)).toNat) 0))), (10, 81, .pointer (some (padr v39 200 ((wrG (nth ((nth code.l t).l) k)).toNat) r)))] a := hfr.more (by
            intro k j d v hk hS
            rcases k with _ | _ | _ | _ | _ | _ | _ | _ | _ | _ | k
            ·obtain ⟨rfl, rfl, rfl⟩ : _ = j ∧ _ = d ∧ _ = v := by simpa using hk
             exact hfr.at_ 0 _ _ _ rfl hS
            ·obtain ⟨rfl, rfl, rfl⟩ : _ = j ∧ _ = d ∧ _ = v := by simpa using hk
             exact hfr.at_ 1 _ _ _ rfl hS
            ·obtain ⟨rfl, rfl, rfl⟩ : _ = j ∧ _ = d ∧ _ = v := by simpa using hk
             exact hfr.at_ 2 _ _ _ rfl hS
            ·obtain ⟨rfl, rfl, rfl⟩ : _ = j ∧ _ = d ∧ _ = v := by simpa using hk
             exact hfr.at_ 3 _ _ _ rfl hS
            ·obtain ⟨rfl, rfl, rfl⟩ : _ = j ∧ _ = d ∧ _ = v := by simpa using hk
             exact hfr.at_ 4 _ _ _ rfl hS
            ·obtain ⟨rfl, rfl, rfl⟩ : _ = j ∧ _ = d ∧ _ = v := by simpa using hk
             exact hfr.at_ 5 _ _ _ rfl hS
            ·obtain ⟨rfl, rfl, rfl⟩ : _ = j ∧ _ = d ∧ _ = v := by simpa using hk
             exact hfr.at_ 6 _ _ _ rfl hS
            ·obtain ⟨rfl, rfl, rfl⟩ : _ = j ∧ _ = d ∧ _ = v := by simpa using hk
             exact hfr.at_ 7 _ _ _ rfl hS
            ·obtain ⟨rfl, rfl, rfl⟩ : _ = j ∧ _ = d ∧ _ = v := by simpa using hk
             exact hfr.at_ 8 _ _ _ rfl hS
            ·obtain ⟨rfl, rfl, rfl⟩ : _ = j ∧ _ = d ∧ _ = v := by simpa using hk
             exact hfr.at_ 9 _ _ _ rfl hS
            · simp at hk)
           exact Or.inr (Or.inr (⟨un rfl hw8, upd_self _ _, hm136.none ht136 h136.fr.defers rfl, (h136.sh.sel (L' := [.own 3 (⟨s70.v, nextsL ((nth code.l t).l) k⟩ : Ls Int), .blk b61 73 [.int .i64 ((nth ((nth code.l t).l) k).op), .int .i64 ((nth ((nth code.l t).l) k).a), .int .i64 ((nth ((nth code.l t).l) k).b), .int .i64 ((nth ((nth code.l t).l) k).c)], .own 121 (⟨s43.v, liveA (f t) (nth code.l t).l.length⟩ : Ls BArr), .own 121 (⟨v39, (M4.set r ⟨(nth M4 r).l.set ((wrG (nth ((nth code.l t).l) k)).toNat) true⟩).set ((wrG (nth ((nth code.l t).l) k)).toNat) ⟨(nth (M4.set r ⟨(nth M4 r).l.set ((wrG (nth ((nth code.l t).l) k)).toNat) true⟩) ((wrG (nth ((nth code.l t).l) k)).toNat)).l.set r true⟩⟩ : Ls BArr), .blk b10 31 [.int .i64 ((checkG (pgOf code words locks regs)).code), .int .i64 ((checkG (pgOf code words locks regs)).thread), .int .i64 ((checkG (pgOf code words locks regs)).at_)], .blk b5 31 [.int .i64 0, .int .i64 0, .int .i64 0], .blk b3 28 [code.v, words.v, .int .i64 locks, .int .i64 regs], .at_ code, .at_ words, .deep 46 (⟨vo, os⟩ : Ls (Ls (Ls Int)))]) [0, 1, 2, 3, 4, 5, 6, 7, 8, 9] (by decide) ⟨rfl, rfl, rfl, rfl, rfl, rfl, rfl, rfl, rfl, rfl, trivial⟩)⟩))
          ·
           exact no_way hw11 hSi
         · simp at ho
        intro S hall a w hI
        clear h114
        rcases hI with ⟨hw8, hw11, hfr, hsh⟩ | ⟨hw8, hw11, hfr, hsh⟩ | ⟨hw8, hw11, hfr, hsh⟩
        · exact no_way (hall 8 (by decide)) hw8
        · exact no_way (hall 11 (by decide)) hw11
        have h137 : St 110 (fun _ => False) W a w _ [.own 3 (⟨s70.v, nextsL ((nth code.l t).l) k⟩ : Ls Int), .blk b61 73 [.int .i64 ((nth ((nth code.l t).l) k).op), .int .i64 ((nth ((nth code.l t).l) k).a), .int .i64 ((nth ((nth code.l t).l) k).b), .int .i64 ((nth ((nth code.l t).l) k).c)], .own 121 (⟨s43.v, liveA (f t) (nth code.l t).l.length⟩ : Ls BArr), .own 121 (⟨v39, (M4.set r ⟨(nth M4 r).l.set ((wrG (nth ((nth code.l t).l) k)).toNat) true⟩).set ((wrG (nth ((nth code.l t).l) k)).toNat) ⟨(nth (M4.set r ⟨(nth M4 r).l.set ((wrG (nth ((nth code.l t).l) k)).toNat) true⟩) ((wrG (nth ((nth code.l t).l) k)).toNat)).l.set r true⟩⟩ : Ls BArr), .blk b10 31 [.int .i64 ((checkG (pgOf code words locks regs)).code), .int .i64 ((checkG (pgOf code words locks regs)).thread), .int .i64 ((checkG (pgOf code words locks regs)).at_)], .blk b5 31 [.int .i64 0, .int .i64 0, .int .i64 0], .blk b3 28 [code.v, words.v, .int .i64 locks, .int .i64 regs], .at_ code, .at_ words, .deep 46 (⟨vo, os⟩ : Ls (Ls (Ls Int)))] := ⟨hfr.fr0, hsh⟩
        clear hall hfr hsh hw8 hw11
        refine hK95 _ _ ?_
        refine wp_region_lit ?_
        refine wv h137 (r_addN (p := r) (q := 1) rfl rfl rfl (show r + 1 < 9223372036854775808 from (by omega))) rfl rfl fun a138 h138 => ?_; clear h137
        refine wms 1 h138 rfl fun a139 h139 => ?_; clear h138
        refine wpList_nil ?_
        refine x_again ⟨_, ?_, r + 1, (M4.set r ⟨(nth M4 r).l.set ((wrG (nth ((nth code.l t).l) k)).toNat) true⟩).set ((wrG (nth ((nth code.l t).l) k)).toNat) ⟨(nth (M4.set r ⟨(nth M4 r).l.set ((wrG (nth ((nth code.l t).l) k)).toNat) true⟩) ((wrG (nth ((nth code.l t).l) k)).toNat)).l.set r true⟩, ?_, ?_, ?_, ?_, h139.nrm ⟨rfl, rfl, rfl, rfl, rfl, rfl, rfl, rfl, rfl, rfl, rfl, rfl, rfl, rfl, rfl, rfl, rfl, rfl, trivial⟩ [0, 1, 2, 3, 4, 5, 6, 7, 8, 9] (by decide) ⟨rfl, rfl, rfl, rfl, rfl, rfl, rfl, rfl, rfl, rfl, trivial⟩, rfl⟩
        · rw [hm90]; first | omega | (simp only [lens9]; omega)
        · omega
        · first | exact hM4 | (simp only [List.length_set]; exact hM4)
        · first | exact hw4 | exact set_lenA (set_lenA hw4)
        · first | exact cl_upd (wn := (wrG (nth (nth code.l t).l k)).toNat) (fun a b => get2_set (by omega) rfl (by rw [hw4 _ (by omega)]; omega)) (fun a b => get2_set (by simp only [List.length_set]; omega) rfl (by rw [set_lenA hw4 _ (by simp only [List.length_set]; omega)]; omega)) hv4 (by omega) (by rw [← hfr]; assumption) (by omega) | (intro a b ha hb; rw [clJ_skip (by first | exact .inl (by omega) | exact .inr (.inl (by rw [← hfr]; assumption)) | exact .inr (.inr (by omega))), hv4 a b ha hb])
       have hp113 : ¬ (((r : Nat) : Int) ≠ wrG (nth ((nth code.l t).l) k)) := of_decide_eq_false hb113
       refine wp_skip ?_
       refine hK95 _ _ ?_
       refine wp_region_lit ?_
       refine wv h112 (r_addN (p := r) (q := 1) rfl rfl rfl (show r + 1 < 9223372036854775808 from (by omega))) rfl rfl fun a140 h140 => ?_; clear h112
       refine wms 1 h140 rfl fun a141 h141 => ?_; clear h140
       refine wpList_nil ?_
       refine x_again ⟨_, ?_, r + 1, M4, ?_, ?_, ?_, ?_, h141.nrm ⟨rfl, rfl, rfl, rfl, rfl, rfl, rfl, rfl, rfl, rfl, rfl, rfl, rfl, rfl, rfl, rfl, rfl, rfl, trivial⟩ [0, 1, 2, 3, 4, 5, 6, 7, 8, 9] (by decide) ⟨rfl, rfl, rfl, rfl, rfl, rfl, rfl, rfl, rfl, rfl, trivial⟩, rfl⟩
       · rw [hm90]; first | omega | (simp only [lens9]; omega)
       · omega
       · first | exact hM4 | (simp only [List.length_set]; exact hM4)
       · first | exact hw4 | exact set_lenA (set_lenA hw4)
       · first | exact cl_upd (wn := (wrG (nth (nth code.l t).l k)).toNat) (fun a b => get2_set (by omega) rfl (by rw [hw4 _ (by omega)]; omega)) (fun a b => get2_set (by simp only [List.length_set]; omega) rfl (by rw [set_lenA hw4 _ (by simp only [List.length_set]; omega)]; omega)) hv4 (by omega) (by rw [← hfr]; assumption) (by omega) | (intro a b ha hb; rw [clJ_skip (by first | exact .inl (by omega) | exact .inr (.inl (by rw [← hfr]; assumption)) | exact .inr (.inr (by omega))), hv4 a b ha hb])
      refine wl_skip h107 (wanted_no h107.fr rfl rfl rfl rfl hb108) rfl rfl fun a142 h142 => ?_; clear h107
      refine wl_skip h142 (wanted_no h142.fr rfl rfl rfl rfl hb108) rfl rfl fun a143 h143 => ?_; clear h142
      refine wl_skip h143 (wanted_no h143.fr rfl rfl rfl rfl hb108) rfl rfl fun a144 h144 => ?_; clear h143
      refine wv h144 (r_pickF rfl rfl hb108 rfl) rfl rfl fun a145 h145 => ?_; clear h144
      refine wpList_nil (hK100 _ _ ?_)
      refine x_condF h145 rfl rfl ?_
      refine wp_skip ?_
      refine hK95 _ _ ?_
      refine wp_region_lit ?_
      refine wv h145 (r_addN (p := r) (q := 1) rfl rfl rfl (show r + 1 < 9223372036854775808 from (by omega))) rfl rfl fun a146 h146 => ?_; clear h145
      refine wms 1 h146 rfl fun a147 h147 => ?_; clear h146
      refine wpList_nil ?_
      refine x_again ⟨_, ?_, r + 1, M4, ?_, ?_, ?_, ?_, h147.nrm ⟨rfl, rfl, rfl, rfl, rfl, rfl, rfl, rfl, rfl, rfl, rfl, rfl, rfl, rfl, rfl, rfl, rfl, rfl, trivial⟩ [0, 1, 2, 3, 4, 5, 6, 7, 8, 9] (by decide) ⟨rfl, rfl, rfl, rfl, rfl, rfl, rfl, rfl, rfl, rfl, trivial⟩, rfl⟩
      · rw [hm90]; first | omega | (simp only [lens9]; omega)
      · omega
      · first | exact hM4 | (simp only [List.length_set]; exact hM4)
      · first | exact hw4 | exact set_lenA (set_lenA hw4)
      · first | exact cl_upd (wn := (wrG (nth (nth code.l t).l k)).toNat) (fun a b => get2_set (by omega) rfl (by rw [hw4 _ (by omega)]; omega)) (fun a b => get2_set (by simp only [List.length_set]; omega) rfl (by rw [set_lenA hw4 _ (by simp only [List.length_set]; omega)]; omega)) hv4 (by omega) (by rw [← hfr]; assumption) (by omega) | (intro a b ha hb; rw [clJ_skip (by first | exact .inl (by omega) | exact .inr (.inl (by rw [← hfr]; assumption)) | exact .inr (.inr (by omega))), hv4 a b ha hb])
     have hp104 : ¬ (0 ≤ wrG (nth ((nth code.l t).l) k)) := of_decide_eq_false hb104
     refine wl_skip h103 (wanted_no h103.fr rfl rfl rfl rfl hb104) rfl rfl fun a148 h148 => ?_; clear h103
     refine wv h148 (r_pickF rfl rfl hb104 rfl) rfl rfl fun a149 h149 => ?_; clear h148
     refine wms 1 h149 rfl fun a150 h150 => ?_; clear h149
     refine wl_skip h150 (wanted_no h150.fr rfl rfl rfl rfl rfl) rfl rfl fun a151 h151 => ?_; clear h150
     refine wl_skip h151 (wanted_no h151.fr rfl rfl rfl rfl rfl) rfl rfl fun a152 h152 => ?_; clear h151
     refine wl_skip h152 (wanted_no h152.fr rfl rfl rfl rfl rfl) rfl rfl fun a153 h153 => ?_; clear h152
     refine wv h153 (r_pickF rfl rfl rfl rfl) rfl rfl fun a154 h154 => ?_; clear h153
     refine wpList_nil (hK100 _ _ ?_)
     refine x_condF h154 rfl rfl ?_
     refine wp_skip ?_
     refine hK95 _ _ ?_
     refine wp_region_lit ?_
     refine wv h154 (r_addN (p := r) (q := 1) rfl rfl rfl (show r + 1 < 9223372036854775808 from (by omega))) rfl rfl fun a155 h155 => ?_; clear h154
     refine wms 1 h155 rfl fun a156 h156 => ?_; clear h155
     refine wpList_nil ?_
     refine x_again ⟨_, ?_, r + 1, M4, ?_, ?_, ?_, ?_, h156.nrm ⟨rfl, rfl, rfl, rfl, rfl, rfl, rfl, rfl, rfl, rfl, rfl, rfl, rfl, rfl, rfl, rfl, rfl, rfl, trivial⟩ [0, 1, 2, 3, 4, 5, 6, 7, 8, 9] (by decide) ⟨rfl, rfl, rfl, rfl, rfl, rfl, rfl, rfl, rfl, rfl, trivial⟩, rfl⟩
     · rw [hm90]; first | omega | (simp only [lens9]; omega)
     · omega
     · first | exact hM4 | (simp only [List.length_set]; exact hM4)
     · first | exact hw4 | exact set_lenA (set_lenA hw4)
     · first | exact cl_upd (wn := (wrG (nth (nth code.l t).l k)).toNat) (fun a b => get2_set (by omega) rfl (by rw [hw4 _ (by omega)]; omega)) (fun a b => get2_set (by simp only [List.length_set]; omega) rfl (by rw [set_lenA hw4 _ (by simp only [List.length_set]; omega)]; omega)) hv4 (by omega) (by rw [← hfr]; assumption) (by omega) | (intro a b ha hb; rw [clJ_skip (by first | exact .inl (by omega) | exact .inr (.inl (by rw [← hfr]; assumption)) | exact .inr (.inr (by omega))), hv4 a b ha hb])
    have hp94 : ¬ (r < 200) := of_decide_eq_false hb94
    refine wp_exit ?_
    refine hK79 _ _ ?_
    refine wp_region_lit ?_
    refine wv h92 (r_addN (p := q) (q := 1) rfl rfl rfl (show q + 1 < 9223372036854775808 from (by omega))) rfl rfl fun a157 h157 => ?_; clear h92
    refine wms 1 h157 rfl fun a158 h158 => ?_; clear h157
    refine wpList_nil ?_
    refine x_again ⟨_, ?_, q + 1, M4, ?_, ?_, ?_, ?_, h158.nrm ⟨rfl, rfl, rfl, rfl, rfl, rfl, rfl, rfl, rfl, rfl, rfl, rfl, rfl, rfl, rfl, rfl, trivial⟩ [0, 1, 2, 3, 4, 5, 6, 7, 8, 9] (by decide) ⟨rfl, rfl, rfl, rfl, rfl, rfl, rfl, rfl, rfl, rfl, trivial⟩, rfl⟩
    · rw [hm74]; first | omega | (simp only [lens9]; omega)
    · omega
    · exact hM4
    · exact hw4
    · intro a b ha hb; rw [any_step (by omega), ← Bool.or_assoc, hv4 a b ha hb, clJ_all (by omega) (by omega)]
   have hp78 : ¬ (q < (nextsL ((nth code.l t).l) k).length) := of_decide_eq_false hb78
   refine wp_exit ?_
   refine hK56 _ _ ?_
   refine wp_region_lit ?_
   refine wv h76 (r_addN (p := k) (q := 1) rfl rfl rfl (show k + 1 < 9223372036854775808 from (by omega))) rfl rfl fun a159 h159 => ?_; clear h76
   refine wms 1 h159 rfl fun a160 h160 => ?_; clear h159
   refine wpList_nil ?_
   refine x_again ⟨_, ?_, k + 1, M3, ?_, ?_, ?_, ?_, h160.nrm ⟨rfl, rfl, rfl, rfl, rfl, rfl, rfl, rfl, rfl, rfl, rfl, rfl, trivial⟩ [2, 3, 4, 5, 6, 7, 8, 9] (by decide) ⟨rfl, rfl, rfl, rfl, rfl, rfl, rfl, rfl, trivial⟩, rfl⟩
   · rw [hm51]; first | omega | (simp only [lens9]; omega)
   · omega
   · exact hM3
   · exact hw3
   · intro a b ha hb; rw [clTo_succ, hv3 a b ha hb, any_all (by omega)]
  have hp55 : ¬ (k < ((nth code.l t).l).length) := of_decide_eq_false hb55
  refine wp_exit ?_
  refine hK45 _ _ ?_
  refine wp_seq_k fun K161 hK161 => wp_region_lit ?_
  refine wv h53 (r_fieldB (r := 3) fl_28_3 rfl rfl rfl) rfl rfl fun a162 h162 => ?_; clear h53
  refine wv h162 (r_ldb (i := 4) ti_3 rfl rfl rfl rfl) rfl rfl fun a163 h163 => ?_; clear h162
  refine wl_ex (x_makeMatH (n := regs.toNat) h163 sl_46 ti_24 rfl (ev_nat (show 0 ≤ regs from (by omega)) rfl) (ev_nat (show 0 ≤ regs from (by omega)) rfl) (show 24 * regs.toNat ≤ 140737488355328 ∧ regs.toNat ≤ 140737488355328 from (by omega)) rfl rfl Int) (wanted_none rfl _) ?_
  rintro a164 w164 ⟨v164, h164⟩; clear h163
  refine wms 1 h164 rfl fun a165 h165 => ?_; clear h164
  refine wpList_nil (hK161 _ _ ?_)
  refine wp_seq_k fun K166 hK166 => ?_
  refine wp_seq_k fun K167 hK167 => wp_region_lit ?_
  refine wms 1 h165 rfl fun a168 h168 => ?_; clear h165
  have hl169 : M2.length ≤ 140737488355328 := (h168.sh.own 2 rfl).len
  refine wv h168 (r_len (s := (⟨v39, M2⟩ : Ls BArr)) (n := M2.length) sl_118 rfl rfl (fun w h => (h.own 2 rfl)) rfl) rfl rfl fun a170 h170 => ?_; clear h168
  refine wms 1 h170 rfl fun a171 h171 => ?_; clear h170
  refine wpList_nil (hK167 _ _ ?_)
  refine wp_block ?_
  refine x_loop (fun m a w => ∃ (i5 : Nat) (N : List (Ls Int)), (i5 ≤ regs.toNat) ∧ (N.length = regs.toNat) ∧ (∀ a, a < i5 → (nth N a).l = listB (nth M2 a).l) ∧ St 110 (fun _ => False) W a w [(1, .pointer (some ⟨b3, 0, none⟩)), (3, .pointer (some ⟨b5, 0, none⟩)), (5, vo), (8, v39), (17, v164), (26, code.v), (27, .int .i64 ((code.l.length : Nat) : Int)), (28, .int .i64 ((t : Nat) : Int)), (89, .int .i64 ((M2.length : Nat) : Int)), (90, .int .i64 ((i5 : Nat) : Int))] [.big (matX .hold 24 v164 N), .own 121 (⟨s43.v, liveA (f t) (nth code.l t).l.length⟩ : Ls BArr), .own 121 (⟨v39, M2⟩ : Ls BArr), .blk b10 31 [.int .i64 ((checkG (pgOf code words locks regs)).code), .int .i64 ((checkG (pgOf code words locks regs)).thread), .int .i64 ((checkG (pgOf code words locks regs)).at_)], .blk b5 31 [.int .i64 0, .int .i64 0, .int .i64 0], .blk b3 28 [code.v, words.v, .int .i64 locks, .int .i64 regs], .at_ code, .at_ words, .deep 46 (⟨vo, os⟩ : Ls (Ls (Ls Int)))] ∧ m = regs.toNat - i5) ⟨_, 0, List.replicate regs.toNat ⟨.slice none 0 0, []⟩, (by omega), (List.length_replicate), (fun a ha => absurd ha (by omega)), h171.nrm ⟨rfl, rfl, rfl, rfl, rfl, rfl, rfl, rfl, rfl, rfl, trivial⟩ [0, 1, 2, 3, 4, 5, 6, 7, 8] (by decide) ⟨rfl, rfl, rfl, rfl, rfl, rfl, rfl, rfl, rfl, trivial⟩, rfl⟩ ?_
  clear h171
  rintro m172 a172 w172 ⟨i5, N, hi5, hN, hn5, h172, hm172⟩
  refine wp_seq_k fun K173 hK173 => wp_region_lit ?_
  refine wv h172 (r_lssN (p := i5) (q := M2.length) rfl rfl rfl) rfl rfl fun a174 h174 => ?_; clear h172
  refine wpList_nil (hK173 _ _ ?_)
  refine wp_seq_k fun K175 hK175 => ?_
  refine x_cond h174 rfl (fun hb176 => ?_) (fun hb176 => ?_)
  ·
   have hp176 : i5 < M2.length := of_decide_eq_true hb176
   refine wp_skip ?_
   refine hK175 _ _ ?_
   refine wp_seq_k fun K177 hK177 => ?_
   refine wp_block ?_
   refine wp_seq_k fun K178 hK178 => wp_region_lit ?_
   refine wms 2 h174 rfl fun a179 h179 => ?_; clear h174
   refine wpList_nil (hK178 _ _ ?_)
   refine wp_region_lit ?_
   refine wms 4 h179 rfl fun a180 h180 => ?_; clear h179
   refine wv h180 (r_ixN (s := (⟨v39, M2⟩ : Ls BArr)) (q := i5) sl_118 ti_121 rfl rfl rfl (fun w h => (h.own 2 rfl)) (show i5 < M2.length from (by omega))) rfl rfl fun a181 h181 => ?_; clear h180
   refine wv h181 (r_ldewAr (n := 0) (i := i5) (s := (⟨v39, M2⟩ : Ls BArr)) ti_121 rfl rfl (fun w h => (h.own 2 rfl)) (show i5 < M2.length from (by omega))) rfl rfl fun a182 h182 => ?_; clear h181
   refine wl_ex (x_call h182 bd_79 rfl rfl rfl rfl rfl (list_ls (list_c ((nth M2 i5).l) _ (hw2 _ (by omega))))) (wanted_none rfl _) ?_
   rintro a183 w183 ⟨_, ⟨s183, rfl, hs183⟩, hf183⟩
   have h183 := (⟨hf183, h182.sh.call hs183 (by intro A hA b hb; first | (simp at hA; done) | (simp at hA; subst hA; first | exact Flat.noRd hb | exact barr_noRd hb | exact (hb : False).elim))⟩ : St 110 (fun _ => False) W a183 w183 _ _)
   clear hf183 hs183
   clear h182
   refine wl_ex (x_call h183 bd_82 rfl rfl rfl rfl rfl (clip_c (⟨s183.v, listB ((nth M2 i5).l)⟩ : Ls Int) _ (h183.sh.own 0 rfl))) (wanted_none rfl _) ?_
   rintro a184 w184 ⟨_, ⟨rfl, hs184⟩, hf184⟩
   have h184 : St 110 (fun _ => False) W a184 w184 _ _ := ⟨hf184, h183.sh.call0 hs184⟩
   clear hf184 hs184
   clear h183
   refine wv h184 (r_ixN (s := (⟨v164, rvs N⟩ : Ls RV)) (q := i5) sl_46 ti_24 rfl rfl rfl (fun w h => h.matAt 1 rfl) (by rw [rvs_len]; exact (show i5 < N.length from (by omega)))) rfl rfl fun a185 h185 => ?_; clear h184
   have ha186 := (clip_at (h185.sh.own 0 rfl))
   have h187 : St 110 (fun _ => False) W a185 w184 _ _ := ⟨h185.fr, h185.sh.toHoldClip⟩
   clear h185
   have h188 := h187.sel (L' := [.big (matX .hold 24 v164 N), .hold (⟨vclip s183.v, listB ((nth M2 i5).l)⟩ : Ls Int), .own 121 (⟨s43.v, liveA (f t) (nth code.l t).l.length⟩ : Ls BArr), .own 121 (⟨v39, M2⟩ : Ls BArr), .blk b10 31 [.int .i64 ((checkG (pgOf code words locks regs)).code), .int .i64 ((checkG (pgOf code words locks regs)).thread), .int .i64 ((checkG (pgOf code words locks regs)).at_)], .blk b5 31 [.int .i64 0, .int .i64 0, .int .i64 0], .blk b3 28 [code.v, words.v, .int .i64 locks, .int .i64 regs], .at_ code, .at_ words, .deep 46 (⟨vo, os⟩ : Ls (Ls (Ls Int)))]) [1, 0, 2, 3, 4, 5, 6, 7, 8, 9] (by decide) ⟨rfl, rfl, rfl, rfl, rfl, rfl, rfl, rfl, rfl, rfl, trivial⟩
   refine wl_ex (x_stMat (i := i5) (s := (⟨vclip s183.v, listB ((nth M2 i5).l)⟩ : Ls Int)) h188 ti_24 rfl rfl rfl rfl (show i5 < N.length from (by omega)) ha186) (wanted_none rfl _) ?_
   rintro a189 w189 h189
   clear h188
   refine wpList_nil (hK177 _ _ ?_)
   refine wp_region_lit ?_
   refine wv h189 (r_addN (p := i5) (q := 1) rfl rfl rfl (show i5 + 1 < 9223372036854775808 from (by omega))) rfl rfl fun a190 h190 => ?_; clear h189
   refine wms 1 h190 rfl fun a191 h191 => ?_; clear h190
   refine wpList_nil ?_
   refine x_again ⟨_, ?_, i5 + 1, N.set i5 (⟨vclip s183.v, listB ((nth M2 i5).l)⟩ : Ls Int), ?_, ?_, ?_, h191.nrm ⟨rfl, rfl, rfl, rfl, rfl, rfl, rfl, rfl, rfl, rfl, trivial⟩ [0, 1, 2, 3, 4, 5, 6, 7, 8] (by decide) ⟨rfl, rfl, rfl, rfl, rfl, rfl, rfl, rfl, rfl, trivial⟩, rfl⟩
   · rw [hm172]; first | omega | (simp only [lens9]; omega)
   · omega
   · rw [List.length_set]; exact hN
   · intro a ha; rw [nth_set]; split; (rename_i h9; rw [h9.1]); (rename_i h9; exact hn5 a (by omega))
  have hp176 : ¬ (i5 < M2.length) := of_decide_eq_false hb176
  refine wp_exit ?_
  refine hK166 _ _ ?_
  have h192 : St 110 (fun _ => False) W a174 w172 _ _ := ⟨h174.fr, h174.sh.matDeep hold_mat⟩
  clear h174
  have hN2 : N.map (·.l) = clashL (nth code.l t).l (f t) regs.toNat := rowsI_eq hN fun a ha => by rw [hn5 a (by omega)]; congr 1; exact eq_mapR (hw2 a (by omega)) fun b hb => by rw [← show k = (nth code.l t).l.length by omega]; exact hv2 a b ha hb
  refine wp_region_lit ?_
  refine wms 2 h192 rfl fun a193 h193 => ?_; clear h192
  refine wl_ex (x_litD (E := 0) (x := (⟨v164, N⟩ : Ls (Ls Int))) h193 sl_59 ti_46 rfl rfl rfl ((h193.sh.deep 0 rfl)) (fun b hb => by rcases hb with ⟨h0, rfl⟩ | hb; exact .inl (own_blk h0 (h193.sh.ok _ (List.mem_of_getElem? (i := 0) rfl)).1); exact .inr hb) (fun b hb => hb) rfl rfl) (wanted_none rfl _) ?_
  rintro a194 w194 ⟨v194, h194⟩; clear h193
  have h195 := h194.sel (L' := [.deep 46 (⟨vo, os⟩ : Ls (Ls (Ls Int))), .deep 46 (⟨v194, [(⟨v164, N⟩ : Ls (Ls Int))]⟩ : Ls (Ls (Ls Int))), .own 121 (⟨s43.v, liveA (f t) (nth code.l t).l.length⟩ : Ls BArr), .own 121 (⟨v39, M2⟩ : Ls BArr), .blk b10 31 [.int .i64 ((checkG (pgOf code words locks regs)).code), .int .i64 ((checkG (pgOf code words locks regs)).thread), .int .i64 ((checkG (pgOf code words locks regs)).at_)], .blk b5 31 [.int .i64 0, .int .i64 0, .int .i64 0], .blk b3 28 [code.v, words.v, .int .i64 locks, .int .i64 regs], .at_ code, .at_ words]) [8, 0, 1, 2, 3, 4, 5, 6, 7] (by decide) ⟨rfl, rfl, rfl, rfl, rfl, rfl, rfl, rfl, rfl, trivial⟩
  refine wl_ex (x_appD (s := (⟨vo, os⟩ : Ls (Ls (Ls Int)))) (m := (⟨v194, [(⟨v164, N⟩ : Ls (Ls Int))]⟩ : Ls (Ls (Ls Int)))) h195 sl_59 ti_46 rfl rfl rfl rfl rfl rfl rfl inferInstance (show (os.length + ([(⟨v164, N⟩ : Ls (Ls Int))]).length) * 24 ≤ 140737488355328 ∧ os.length + ([(⟨v164, N⟩ : Ls (Ls Int))]).length ≤ 140737488355328 from (by first | omega | (simp only [lens9]; omega))) rfl rfl) (wanted_none rfl _) ?_
  rintro a196 w196 ⟨v196, h196⟩; clear h195
  refine wms 1 h196 rfl fun a197 h197 => ?_; clear h196
  refine wpList_nil (hK31 _ _ ?_)
  refine wp_region_lit ?_
  refine wv h197 (r_addN (p := t) (q := 1) rfl rfl rfl (show t + 1 < 9223372036854775808 from (by omega))) rfl rfl fun a198 h198 => ?_; clear h197
  refine wms 1 h198 rfl fun a199 h199 => ?_; clear h198
  refine wpList_nil ?_
  refine x_again ⟨_, ?_, t + 1, os ++ ([(⟨v164, N⟩ : Ls (Ls Int))]), v196, ?_, ?_, ?_, h199.nrm ⟨rfl, rfl, rfl, rfl, rfl, rfl, trivial⟩ [3, 4, 5, 6, 7, 0] (by decide) ⟨rfl, rfl, rfl, rfl, rfl, rfl, trivial⟩, rfl⟩
  · rw [hm25]; first | omega | (simp only [lens9]; omega)
  · omega
  · rw [List.map_append, hos, List.range_succ, List.map_append]; congr 1; show [N.map (·.l)] = [_]; rw [hN2]
  · simp [hol]
 have hp30 : ¬ (t < code.l.length) := of_decide_eq_false hb30
 refine wp_exit ?_
 refine hK18 _ _ ?_
 refine wp_seq_k fun K200 hK200 => wp_region_lit ?_
 refine wms 1 h28 rfl fun a201 h201 => ?_; clear h28
 refine wv h201 (r_build (cs := [.int .i64 0, .int .i64 0, .int .i64 0]) rfl rfl (by kernel_rfl)) rfl rfl fun a202 h202 => ?_; clear h201
 refine wms 1 h202 rfl fun a203 h203 => ?_; clear h202
 refine wl_ex (x_stb (i := 1) (vs := [.int .i64 0, .int .i64 0, .int .i64 0]) (cs' := [.int .i64 0, .int .i64 0, .int .i64 0]) h203 ti_31 rfl rfl rfl rfl rfl rfl rfl (allOne_cons rfl (allOne_cons rfl (allOne_cons rfl allOne_nil))) (Nat.le_of_ble_eq_true rfl) rfl) (wanted_none rfl _) ?_
 rintro a204 w204 h204
 clear h203
 refine wpList_nil (hK200 _ _ ?_)
 refine wp_ret ?_
 try simp only [Exit.then, Exit.inBlock]
 refine x_rettc (fn := Try.f37) (t := 3) (u := 2) (i := 1) ti_31 rfl h204 rfl rfl rfl rfl ?_
 refine ⟨⟨vo, os⟩, rfl, ?_, (h204.sh.sel (L' := [.deep 46 (⟨vo, os⟩ : Ls (Ls (Ls Int)))]) [5] (by decide) ⟨rfl, trivial⟩)⟩
 show os.map _ = _
 rw [hos, show t = code.l.length by omega]

set_option maxRecDepth 100000 in
set_option maxHeartbeats 4000000 in
theorem clash_b (code : Ls (Ls Ins)) (words : Ls Int) (locks regs : Int) (W : World) (hcode : code.At W) (hwords : words.At W) (hz : (checkG (pgOf code words locks regs)).code ≠ 0) :
    Rets Try.prog 37 [.agg #[code.v, words.v, .int .i64 locks, .int .i64 regs]] W (fun v w' => v = .tuple #[.slice none 0 0, (checkG (pgOf code words locks regs)).val] ∧ Sh0 W w' []) := by
 refine x_enter (N := 110) Try.func37 rfl Try.ntmps37 (Nat.le_of_ble_eq_true rfl) fun a1 hf1 => ?_
 have h1 : St 110 (fun _ => False) W a1 W [(0, .agg #[code.v, words.v, .int .i64 locks, .int .i64 regs])] [.at_ code, .at_ words] := ⟨hf1.sub ⟨rfl, trivial⟩, Sh0.ext2 hcode hwords⟩
 clear hf1
 refine wp_seq_k fun K2 hK2 => wp_region_lit ?_
 refine wl_ex (x_box (cs := [code.v, words.v, .int .i64 locks, .int .i64 regs]) h1 rfl rfl rfl rfl rfl) (wanted_none rfl _) ?_
 rintro a3 w3 ⟨b3, h3⟩; clear h1
 refine wms 1 h3 rfl fun a4 h4 => ?_; clear h3
 refine wl_ex (x_alloc h4 ti_31 rfl rfl rfl) (wanted_none rfl _) ?_
 rintro a5 w5 ⟨b5, h5⟩; clear h4
 refine wpList_nil (hK2 _ _ ?_)
 refine wp_seq_k fun K6 hK6 => ?_
 refine wp_seq_k fun K7 hK7 => wp_region_lit ?_
 refine wv h5 (r_ldbw (i := 1) (vs := [code.v, words.v, .int .i64 locks, .int .i64 regs]) ti_28 rfl rfl rfl rfl rfl) rfl rfl fun a8 h8 => ?_; clear h5
 refine wl_ex (x_call h8 bd_19 rfl rfl rfl rfl rfl (asmCheck_c (code := code) (words := words) (locks := locks) (regs := regs) (h8.sh.at 2 rfl) (h8.sh.at 3 rfl))) (wanted_none rfl _) ?_
 rintro a9 w9 ⟨_, ⟨rfl, hs9⟩, hf9⟩
 have h9 : St 110 (fun _ => False) W a9 w9 _ _ := ⟨hf9, h8.sh.call0 hs9⟩
 clear hf9 hs9
 clear h8
 refine wl_ex (x_alloc h9 ti_31 rfl rfl rfl) (wanted_none rfl _) ?_
 rintro a10 w10 ⟨b10, h10⟩; clear h9
 refine wl_ex (x_stb (i := 0) (vs := [.int .i64 ((checkG (pgOf code words locks regs)).code), .int .i64 ((checkG (pgOf code words locks regs)).thread), .int .i64 ((checkG (pgOf code words locks regs)).at_)]) (cs' := [.int .i64 ((checkG (pgOf code words locks regs)).code), .int .i64 ((checkG (pgOf code words locks regs)).thread), .int .i64 ((checkG (pgOf code words locks regs)).at_)]) h10 ti_31 rfl rfl rfl rfl rfl rfl rfl (allOne_cons rfl (allOne_cons rfl (allOne_cons rfl allOne_nil))) (Nat.le_of_ble_eq_true rfl) rfl) (wanted_none rfl _) ?_
 rintro a11 w11 h11
 clear h10
 refine wpList_nil (hK7 _ _ ?_)
 refine wp_seq_k fun K12 hK12 => wp_region_lit ?_
 refine wv h11 (r_fieldB (r := 0) fl_31_0 rfl rfl rfl) rfl rfl fun a13 h13 => ?_; clear h11
 refine wv h13 (r_ldb (i := 0) ti_22 rfl rfl rfl rfl) rfl rfl fun a14 h14 => ?_; clear h13
 refine wv h14 (r_neqI (p := (checkG (pgOf code words locks regs)).code) (q := 0) rfl rfl rfl) rfl rfl fun a15 h15 => ?_; clear h14
 refine wpList_nil (hK12 _ _ ?_)
 refine x_condT h15 rfl (decide_eq_true hz) ?_
 refine wp_seq_k fun K16 hK16 => ?_
 refine x_tail 2 [] (by kernel_rfl) (by kernel_rfl) h15 fun Z17 hZ17 => ?_
 have hq17 := h15.fr
 refine wq_val hq17 (r_ldbw (i := 0) (vs := [.int .i64 ((checkG (pgOf code words locks regs)).code), .int .i64 ((checkG (pgOf code words locks regs)).thread), .int .i64 ((checkG (pgOf code words locks regs)).at_)]) ti_31 rfl rfl rfl rfl rfl) (wanted_none rfl _) rfl rfl fun a18 hq18 => ?_; clear hq17
 refine wq_val hq18 (r_assign rfl rfl) (wanted_none rfl _) rfl rfl fun a19 hq19 => ?_; clear hq18
 refine wpQuiet_nil (hZ17 _ fun w20 hw20 => ?_)
 have h20 : St 110 (fun _ => False) W a19 w20 _ _ := ⟨hq19, hw20⟩
 clear hq19 hw20 h15
 refine wl_ex (x_stb (i := 1) (vs := [.int .i64 ((checkG (pgOf code words locks regs)).code), .int .i64 ((checkG (pgOf code words locks regs)).thread), .int .i64 ((checkG (pgOf code words locks regs)).at_)]) (cs' := [.int .i64 ((checkG (pgOf code words locks regs)).code), .int .i64 ((checkG (pgOf code words locks regs)).thread), .int .i64 ((checkG (pgOf code words locks regs)).at_)]) h20 ti_31 rfl rfl rfl rfl rfl rfl rfl (allOne_cons rfl (allOne_cons rfl (allOne_cons rfl allOne_nil))) (Nat.le_of_ble_eq_true rfl) rfl) (wanted_none rfl _) ?_
 rintro a21 w21 h21
 clear h20
 refine wpList_nil (hK16 _ _ ?_)
 refine wp_ret ?_
 try simp only [Exit.then, Exit.inBlock]
 refine x_rettc (fn := Try.f37) (t := 3) (u := 2) (i := 1) ti_31 rfl h21 rfl rfl rfl rfl ?_
 exact ⟨rfl, (h21.sh.sel [] (by decide) trivial)⟩

end Go.Proofs.Ytanhbpofhebbaaa
