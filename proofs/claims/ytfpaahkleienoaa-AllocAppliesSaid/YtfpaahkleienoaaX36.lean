/-
  Contracts of functions of this program and of the references, each walked once.
-/
import Derived.Test.YtfpaahkleienoaaX35
import Derived.Test.YtfpaahkleienoaaX4
namespace Go.Proofs.Ytfpaahkleienoaa
open Go.RowKit
set_option linter.unusedSimpArgs false
set_option linter.unusedVariables false


theorem liveA_len (f : Nat → Nat → Bool) (n : Nat) : (liveA f n).length = n + 1 := by simp [liveA]
theorem liveA_nth {f : Nat → Nat → Bool} {n j : Nat} (h : j < n + 1) : (nth (liveA f n) j).l = (List.range 200).map fun r => f r j := by
  unfold liveA
  rw [nth_mapR h]
theorem liveA_200 {f : Nat → Nat → Bool} {n j : Nat} (h : j < n + 1) : (nth (liveA f n) j).l.length = 200 := by rw [liveA_nth h, List.length_map, List.length_range]
def clashL (code : List Ins) (f : Nat → Nat → Bool) (m : Nat) : List (List Int) := (List.range m).map fun r => listB ((List.range 200).map fun b => clTo code f code.length r b)
theorem zerosA (n a b : Nat) : get2 BArr.l (List.replicate n ⟨List.replicate 200 false⟩) a b = false := col_zero n b a
theorem set_lenA {M : List BArr} {i q : Nat} {b : Bool} (h : ∀ a, a < M.length → (nth M a).l.length = 200) : ∀ a, a < (M.set i ⟨(nth M i).l.set q b⟩).length → (nth (M.set i ⟨(nth M i).l.set q b⟩) a).l.length = 200 := by
  intro a ha
  rw [List.length_set] at ha
  rw [nth_set]
  split
  · rename_i h9; rw [List.length_set, h9.1]; exact h a ha
  · exact h a ha
theorem lenA_zero (n : Nat) : ∀ a, a < (List.replicate n (⟨List.replicate 200 false⟩ : BArr)).length → (nth (List.replicate n (⟨List.replicate 200 false⟩ : BArr)) a).l.length = 200 := by
  intro a ha
  rw [List.length_replicate] at ha
  have : nth (List.replicate n (⟨List.replicate 200 false⟩ : BArr)) a = ⟨List.replicate 200 false⟩ := by simp [nth, ha]
  rw [this]
  exact List.length_replicate
theorem rowsI_eq {M : List (Ls Int)} {m : Nat} {h : Nat → List Int} (hl : M.length = m) (hv : ∀ a, a < m → (nth M a).l = h a) : M.map (·.l) = (List.range m).map h := by
  apply List.ext_getElem (by simp [hl])
  intro i h1 h2
  have := hv i (by simpa [hl] using h1)
  rw [nth_lt _ _ (by simpa using h1)] at this
  simpa using this
theorem barr_noRd {E : TypeId} {s : Ls BArr} {X : Prop} {b : Nat} (h : (Asn.own E s).rd b) : X := by
  obtain ⟨i, _, hi⟩ := h
  exact hi.elim
theorem list_ls {P : Program} {f : FuncId} {vs : List Value} {W : World} {l : List Int} {E : TypeId} (h : Rets P f vs W (fun v w' => ∃ s : Ls Int, v = s.v ∧ s.l = l ∧ Sh0 W w' [.own E s])) : Rets P f vs W (fun v w' => ∃ s : Ls Int, v = s.v ∧ Sh0 W w' [.own E (⟨s.v, l⟩ : Ls Int)]) :=
  h.mono fun v w' ⟨s, h1, h2, h3⟩ => ⟨s, h1, by subst h2; exact h3⟩

set_option maxRecDepth 100000 in
set_option maxHeartbeats 1000000 in
theorem clip_c (s : Ls Int) (W : World) (hs : s.At W) :
    Rets Try.prog 132 [s.v] W (fun v w' => v = vclip s.v ∧ Sh0 W w' []) := by
 refine x_enter (N := 9) Try.func132 rfl Try.ntmps132 (Nat.le_of_ble_eq_true rfl) fun a1 hf1 => ?_
 have h1 : St 9 (fun _ => False) W a1 W [(0, s.v)] [.at_ s] := ⟨hf1.sub ⟨rfl, trivial⟩, Sh0.ext1 hs⟩
 clear hf1
 refine wp_seq_k fun K2 hK2 => wp_region_lit <| wms 1 h1 rfl fun a3 h3 => wpList_nil <| hK2 _ _ <| wp_seq_k fun K4 hK4 => wp_region_lit <| wms 2 h3 rfl fun a5 h5 => ?_; clear h1 h3
 have hl6 : s.l.length ≤ 140737488355328 := (h5.sh.at 0 rfl).len
 refine wv h5 (r_len (s := s) (n := s.l.length) sl_23 rfl rfl (fun w h => (h.at 0 rfl)) rfl) rfl rfl fun a7 h7 => wms 1 h7 rfl fun a8 h8 => wv h8 (r_len (s := s) (n := s.l.length) sl_23 rfl rfl (fun w h => (h.at 0 rfl)) rfl) rfl rfl fun a9 h9 => wv h9 (r_slClip (s := s) sl_23 ti_3 rfl rfl rfl rfl (fun w h => (h.at 0 rfl))) rfl rfl fun a10 h10 => wms 1 h10 rfl fun a11 h11 => wpList_nil <| hK4 _ _ <| wp_ret ?_; clear h5 h7 h8 h9 h10
 try simp only [Exit.then, Exit.inBlock]
 refine x_ret1 (fn := Try.f132) (t := 2) rfl h11 rfl ?_
 exact ⟨rfl, (h11.sh.sel [] (by decide) trivial)⟩

set_option maxRecDepth 100000 in
set_option maxHeartbeats 4000000 in
theorem clash_k (code : Ls (Ls Ins)) (words : Ls Int) (locks regs : Int) (f : Nat → Nat → Nat → Bool) (W : World) (hcode : code.At W) (hwords : words.At W) (hok : OkPg (pgOf code words locks regs)) (hF : ∀ t, t < code.l.length → ∀ r j, (f t r j = true ↔ LiveI (nth code.l t).l r j)) :
    Rets Try.prog 83 [.agg #[code.v, words.v, .int .i64 locks, .int .i64 regs]] W (fun v w' => ∃ s : Ls (Ls (Ls Int)), v = .tuple #[s.v, .agg #[.int .i64 0, .int .i64 0, .int .i64 0]] ∧ s.l.map (fun y => y.l.map (·.l)) = (List.range code.l.length).map (fun t => clashL (nth code.l t).l (f t) regs.toNat) ∧ Sh0 W w' [.deep 35 s]) := by
 have hz := checkG_ok hok
 obtain ⟨hl1, hl2, hl3, hl4', hl5, hl6, hl7⟩ := ok_len hok
 have hrg := hok.regs
 have hrg1 : (pgOf code words locks regs).regs = regs := rfl
 rw [hrg1] at hrg
 refine x_enter (N := 110) Try.func83 rfl Try.ntmps83 (Nat.le_of_ble_eq_true rfl) fun a1 hf1 => ?_
 have h1 : St 110 (fun _ => False) W a1 W [(0, .agg #[code.v, words.v, .int .i64 locks, .int .i64 regs])] [.at_ code, .at_ words] := ⟨hf1.sub ⟨rfl, trivial⟩, Sh0.ext2 hcode hwords⟩
 clear hf1
 refine wp_seq_k fun K2 hK2 => wp_region_lit <| wl_ex (x_box (cs := [code.v, words.v, .int .i64 locks, .int .i64 regs]) h1 rfl rfl rfl rfl rfl) (wanted_none rfl _) ?_
 rintro a3 w3 ⟨b3, h3⟩; clear h1
 refine wms 1 h3 rfl fun a4 h4 => wl_ex (x_alloc h4 ti_28 rfl rfl rfl) (wanted_none rfl _) ?_; clear h3
 rintro a5 w5 ⟨b5, h5⟩; clear h4
 refine wpList_nil <| hK2 _ _ <| wp_seq_k fun K6 hK6 => wp_seq_k fun K7 hK7 => wp_region_lit <| wv h5 (r_ldbw (i := 1) (vs := [code.v, words.v, .int .i64 locks, .int .i64 regs]) ti_25 rfl rfl rfl rfl rfl) rfl rfl fun a8 h8 => wl_ex (x_call h8 bd_46 rfl rfl rfl rfl rfl (asmCheck_c (code := code) (words := words) (locks := locks) (regs := regs) (h8.sh.at 2 rfl) (h8.sh.at 3 rfl))) (wanted_none rfl _) ?_; clear h5
 rintro a9 w9 ⟨_, ⟨rfl, hs9⟩, hf9⟩
 have h9 : St 110 (fun _ => False) W a9 w9 _ _ := ⟨hf9, h8.sh.call0 hs9⟩
 clear hf9 hs9
 clear h8
 refine wl_ex (x_alloc h9 ti_28 rfl rfl rfl) (wanted_none rfl _) ?_
 rintro a10 w10 ⟨b10, h10⟩; clear h9
 refine wl_ex (x_stb (i := 0) (vs := [.int .i64 ((checkG (pgOf code words locks regs)).code), .int .i64 ((checkG (pgOf code words locks regs)).thread), .int .i64 ((checkG (pgOf code words locks regs)).at_)]) (cs' := [.int .i64 ((checkG (pgOf code words locks regs)).code), .int .i64 ((checkG (pgOf code words locks regs)).thread), .int .i64 ((checkG (pgOf code words locks regs)).at_)]) h10 ti_28 rfl rfl rfl rfl rfl rfl rfl (allOne_cons rfl (allOne_cons rfl (allOne_cons rfl allOne_nil))) (Nat.le_of_ble_eq_true rfl) rfl) (wanted_none rfl _) ?_
 rintro a11 w11 h11
 clear h10
 refine wpList_nil <| hK7 _ _ <| wp_seq_k fun K12 hK12 => wp_region_lit <| wv h11 (r_fieldB (r := 0) fl_28_0 rfl rfl rfl) rfl rfl fun a13 h13 => wv h13 (r_ldb (i := 0) ti_26 rfl rfl rfl rfl) rfl rfl fun a14 h14 => wv h14 (r_neqI (p := (checkG (pgOf code words locks regs)).code) (q := 0) rfl rfl rfl) rfl rfl fun a15 h15 => wpList_nil <| hK12 _ _ <| x_condF h15 rfl (by rw [hz]; rfl) ?_; clear h11 h13 h14
 refine wp_skip <| hK6 _ _ <| wp_seq_k fun K16 hK16 => wp_region_lit <| wms 1 h15 rfl fun a17 h17 => wpList_nil <| hK16 _ _ <| wp_seq_k fun K18 hK18 => wp_seq_k fun K19 hK19 => wp_region_lit <| wv h17 (r_fieldB (r := 0) fl_25_0 rfl rfl rfl) rfl rfl fun a20 h20 => wv h20 (r_ldb (i := 2) ti_22 rfl rfl rfl rfl) rfl rfl fun a21 h21 => ?_; clear h15 h17 h20
 have hl22 : code.l.length ≤ 140737488355328 := (h21.sh.at 3 rfl).len
 refine wv h21 (r_len (s := code) (n := code.l.length) sl_22 rfl rfl (fun w h => (h.at 3 rfl)) rfl) rfl rfl fun a23 h23 => wms 1 h23 rfl fun a24 h24 => wpList_nil <| hK19 _ _ <| wp_block ?_; clear h21 h23
 have h26 := h24.nilDeep (α := Ls (Ls Int)) 35
 clear h24
 refine x_loop (fun m a w => ∃ (t : Nat) (os : List (Ls (Ls Int))) (vo : Value), (t ≤ code.l.length) ∧ (os.map (fun y => y.l.map (·.l)) = (List.range t).map (fun t => clashL (nth code.l t).l (f t) regs.toNat)) ∧ (os.length = t) ∧ St 110 (fun _ => False) W a w [(1, .pointer (some ⟨b3, 0, none⟩)), (3, .pointer (some ⟨b5, 0, none⟩)), (5, vo), (26, code.v), (27, .int .i64 ((code.l.length : Nat) : Int)), (28, .int .i64 ((t : Nat) : Int))] [.blk b10 28 [.int .i64 ((checkG (pgOf code words locks regs)).code), .int .i64 ((checkG (pgOf code words locks regs)).thread), .int .i64 ((checkG (pgOf code words locks regs)).at_)], .blk b5 28 [.int .i64 0, .int .i64 0, .int .i64 0], .blk b3 25 [code.v, words.v, .int .i64 locks, .int .i64 regs], .at_ code, .at_ words, .deep 35 (⟨vo, os⟩ : Ls (Ls (Ls Int)))] ∧ m = code.l.length - t) ⟨_, 0, [], (.slice none 0 0), (by omega), (rfl), (rfl), h26.nrm ⟨rfl, rfl, rfl, rfl, rfl, rfl, trivial⟩ [1, 2, 3, 4, 5, 0] (by decide) ⟨rfl, rfl, rfl, rfl, rfl, rfl, trivial⟩, rfl⟩ ?_
 clear h26
 rintro m25 a25 w25 ⟨t, os, vo, ht, hos, hol, h25, hm25⟩
 refine wp_seq_k fun K27 hK27 => wp_region_lit <| wv h25 (r_lssN (p := t) (q := code.l.length) rfl rfl rfl) rfl rfl fun a28 h28 => wpList_nil <| hK27 _ _ <| wp_seq_k fun K29 hK29 => x_cond h28 rfl (fun hb30 => ?_) (fun hb30 => ?_); clear h25
 ·have hp30 : t < code.l.length := of_decide_eq_true hb30
  refine wp_skip <| hK29 _ _ <| wp_seq_k fun K31 hK31 => wp_block <| wp_seq_k fun K32 hK32 => wp_region_lit <| wv h28 (r_ixN (s := code) (q := t) sl_22 ti_33 rfl rfl rfl (fun w h => (h.at 3 rfl)) (show t < code.l.length from (by omega))) rfl rfl fun a33 h33 => wv h33 (r_lde (s := code) (i := t) (v := (nth code.l t).v) ti_33 rfl rfl rfl (fun w h => (h.at 3 rfl)) (show t < code.l.length from (by omega)) (Nat.le_of_ble_eq_true rfl) rfl) rfl rfl fun a34 h34 => wms 1 h34 rfl fun a35 h35 => wpList_nil <| hK32 _ _ ?_; clear h28 h33 h34
  obtain ⟨hl4, hjt⟩ := ok_thread hok t (by omega)
  refine wp_seq_k fun K36 hK36 => wp_region_lit <| wv h35 (r_fieldB (r := 3) fl_25_3 rfl rfl rfl) rfl rfl fun a37 h37 => wv h37 (r_ldb (i := 2) ti_3 rfl rfl rfl rfl) rfl rfl fun a38 h38 => wl_ex (x_makeAr (n := regs.toNat) h38 sl_98 ti_101 (by kernel_rfl) rfl (ev_nat (show 0 ≤ regs from (by omega)) rfl) (ev_nat (show 0 ≤ regs from (by omega)) rfl) (show 200 * regs.toNat ≤ 140737488355328 ∧ regs.toNat ≤ 140737488355328 from (by omega)) rfl rfl) (wanted_none rfl _) ?_; clear h35 h37
  rintro a39 w39 ⟨v39, h39⟩; clear h38
  refine wms 1 h39 rfl fun a40 h40 => wpList_nil <| hK36 _ _ <| wp_seq_k fun K41 hK41 => wp_region_lit <| wms 1 h40 rfl fun a42 h42 => wl_ex (x_call h42 bd_68 rfl rfl rfl rfl rfl (sets_ls (sets_c (nth code.l t) regs (f t) _ ((h42.sh.at 4 rfl).nth t (show t < code.l.length from (by omega))) (by omega) hjt (okV_of hok t (by omega)) (hF t (by omega)) (by omega)))) (wanted_none rfl _) ?_; clear h39 h40
  rintro a43 w43 ⟨_, ⟨s43, rfl, hs43⟩, hf43⟩
  have h43 := (⟨hf43, h42.sh.call hs43 (by intro A hA b hb; first | (simp at hA; done) | (simp at hA; subst hA; first | exact Flat.noRd hb | exact barr_noRd hb | exact (hb : False).elim))⟩ : St 110 (fun _ => False) W a43 w43 _ _)
  clear hf43 hs43
  clear h42
  refine wms 1 h43 rfl fun a44 h44 => wpList_nil <| hK41 _ _ <| wp_seq_k fun K45 hK45 => wp_seq_k fun K46 hK46 => wp_region_lit <| wms 1 h44 rfl fun a47 h47 => ?_; clear h43 h44
  have hl48 : ((nth code.l t).l).length ≤ 140737488355328 := ((h47.sh.at 5 rfl).nth t (show t < code.l.length from (by omega))).len
  refine wv h47 (r_len (s := nth code.l t) (n := ((nth code.l t).l).length) sl_33 rfl rfl (fun w h => ((h.at 5 rfl).nth t (show t < code.l.length from (by omega)))) rfl) rfl rfl fun a49 h49 => wms 1 h49 rfl fun a50 h50 => wpList_nil <| hK46 _ _ <| wp_block ?_; clear h47 h49
  have hal := liveA_len (f t) (nth code.l t).l.length
  refine x_loop (fun m a w => ∃ (k : Nat) (M2 : List BArr), (k ≤ (nth code.l t).l.length) ∧ (M2.length = regs.toNat) ∧ (∀ a, a < M2.length → (nth M2 a).l.length = 200) ∧ (∀ a b, a < regs.toNat → b < 200 → get2 BArr.l M2 a b = clTo (nth code.l t).l (f t) k a b) ∧ St 110 (fun _ => False) W a w [(1, .pointer (some ⟨b3, 0, none⟩)), (3, .pointer (some ⟨b5, 0, none⟩)), (5, vo), (7, (nth code.l t).v), (8, v39), (9, s43.v), (26, code.v), (27, .int .i64 ((code.l.length : Nat) : Int)), (28, .int .i64 ((t : Nat) : Int)), (37, (nth code.l t).v), (38, .int .i64 ((((nth code.l t).l).length : Nat) : Int)), (39, .int .i64 ((k : Nat) : Int))] [.own 101 (⟨s43.v, liveA (f t) (nth code.l t).l.length⟩ : Ls BArr), .own 101 (⟨v39, M2⟩ : Ls BArr), .blk b10 28 [.int .i64 ((checkG (pgOf code words locks regs)).code), .int .i64 ((checkG (pgOf code words locks regs)).thread), .int .i64 ((checkG (pgOf code words locks regs)).at_)], .blk b5 28 [.int .i64 0, .int .i64 0, .int .i64 0], .blk b3 25 [code.v, words.v, .int .i64 locks, .int .i64 regs], .at_ code, .at_ words, .deep 35 (⟨vo, os⟩ : Ls (Ls (Ls Int)))] ∧ m = (nth code.l t).l.length - k) ⟨_, 0, List.replicate regs.toNat ⟨List.replicate 200 false⟩, (by omega), (List.length_replicate), (lenA_zero _), (fun a b _ _ => zerosA _ a b), h50.nrm ⟨rfl, rfl, rfl, rfl, rfl, rfl, rfl, rfl, rfl, rfl, rfl, rfl, trivial⟩ [0, 1, 2, 3, 4, 5, 6, 7] (by decide) ⟨rfl, rfl, rfl, rfl, rfl, rfl, rfl, rfl, trivial⟩, rfl⟩ ?_
  clear h50
  rintro m51 a51 w51 ⟨k, M2, hk, hM2, hw2, hv2, h51, hm51⟩
  refine wp_seq_k fun K52 hK52 => wp_region_lit <| wv h51 (r_lssN (p := k) (q := ((nth code.l t).l).length) rfl rfl rfl) rfl rfl fun a53 h53 => wpList_nil <| hK52 _ _ <| wp_seq_k fun K54 hK54 => x_cond h53 rfl (fun hb55 => ?_) (fun hb55 => ?_); clear h51
  ·have hp55 : k < ((nth code.l t).l).length := of_decide_eq_true hb55
   refine wp_skip <| hK54 _ _ <| wp_seq_k fun K56 hK56 => wp_block <| wp_seq_k fun K57 hK57 => wp_region_lit <| wms 1 h53 rfl fun a58 h58 => wv h58 (r_ixN (s := nth code.l t) (q := k) sl_33 ti_32 rfl rfl rfl (fun w h => ((h.at 5 rfl).nth t (show t < code.l.length from (by omega)))) (show k < ((nth code.l t).l).length from (by omega))) rfl rfl fun a59 h59 => wv h59 (r_ldew (s := nth code.l t) (i := k) (vs := [.int .i64 ((nth ((nth code.l t).l) k).op), .int .i64 ((nth ((nth code.l t).l) k).a), .int .i64 ((nth ((nth code.l t).l) k).b), .int .i64 ((nth ((nth code.l t).l) k).c)]) ti_32 rfl rfl rfl (fun w h => ((h.at 5 rfl).nth t (show t < code.l.length from (by omega)))) (show k < ((nth code.l t).l).length from (by omega)) (Nat.le_of_ble_eq_true rfl) rfl) rfl rfl fun a60 h60 => wl_ex (x_alloc h60 ti_32 rfl rfl rfl) (wanted_none rfl _) ?_; clear h53 h58 h59
   rintro a61 w61 ⟨b61, h61⟩; clear h60
   refine wms 1 h61 rfl fun a62 h62 => wl_ex (x_stb (i := 0) (vs := [.int .i64 ((nth ((nth code.l t).l) k).op), .int .i64 ((nth ((nth code.l t).l) k).a), .int .i64 ((nth ((nth code.l t).l) k).b), .int .i64 ((nth ((nth code.l t).l) k).c)]) (cs' := [.int .i64 ((nth ((nth code.l t).l) k).op), .int .i64 ((nth ((nth code.l t).l) k).a), .int .i64 ((nth ((nth code.l t).l) k).b), .int .i64 ((nth ((nth code.l t).l) k).c)]) h62 ti_32 rfl rfl rfl rfl rfl rfl rfl (allOne_cons rfl (allOne_cons rfl (allOne_cons rfl (allOne_cons rfl allOne_nil)))) (Nat.le_of_ble_eq_true rfl) rfl) (wanted_none rfl _) ?_; clear h61
   rintro a63 w63 h63
   clear h62
   refine wpList_nil <| hK57 _ _ <| wp_seq_k fun K64 hK64 => wp_region_lit <| wv h63 (r_ldbw (i := 0) (vs := [.int .i64 ((nth ((nth code.l t).l) k).op), .int .i64 ((nth ((nth code.l t).l) k).a), .int .i64 ((nth ((nth code.l t).l) k).b), .int .i64 ((nth ((nth code.l t).l) k).c)]) ti_32 rfl rfl rfl rfl rfl) rfl rfl fun a65 h65 => wl_ex (x_call h65 bd_100 rfl rfl rfl rfl rfl (writes_c (nth ((nth code.l t).l) k) _ (by have h8 := (okV_of hok t (by omega) k (by omega)).1; omega))) (wanted_none rfl _) ?_; clear h63
   rintro a66 w66 ⟨_, ⟨rfl, hs66⟩, hf66⟩
   have h66 : St 110 (fun _ => False) W a66 w66 _ _ := ⟨hf66, h65.sh.call0 hs66⟩
   clear hf66 hs66
   clear h65
   refine wms 1 h66 rfl fun a67 h67 => wpList_nil <| hK64 _ _ <| wp_seq_k fun K68 hK68 => wp_region_lit <| wms 2 h67 rfl fun a69 h69 => wl_ex (x_call h69 bd_96 rfl rfl rfl rfl rfl (nexts_c (nth code.l t) k _ ((h69.sh.at 6 rfl).nth t (show t < code.l.length from (by omega))) (by omega) (by omega))) (wanted_none rfl _) ?_; clear h66 h67
   rintro a70 w70 ⟨_, ⟨s70, rfl, hs70⟩, hf70⟩
   have h70 := (⟨hf70, h69.sh.call hs70 (by intro A hA b hb; first | (simp at hA; done) | (simp at hA; subst hA; first | exact Flat.noRd hb | exact barr_noRd hb | exact (hb : False).elim))⟩ : St 110 (fun _ => False) W a70 w70 _ _)
   clear hf70 hs70
   clear h69
   have hl71 : (nextsL ((nth code.l t).l) k).length ≤ 140737488355328 := (h70.sh.own 0 rfl).len
   refine wv h70 (r_len (s := (⟨s70.v, nextsL ((nth code.l t).l) k⟩ : Ls Int)) (n := (nextsL ((nth code.l t).l) k).length) sl_23 rfl rfl (fun w h => (h.own 0 rfl)) rfl) rfl rfl fun a72 h72 => wms 1 h72 rfl fun a73 h73 => wpList_nil <| hK68 _ _ <| wp_block ?_; clear h70 h72
   have hnl := nextsV_len (nth code.l t).l k
   have hww := (okV_of hok t (by omega) k (by omega)).2.2.1
   refine x_loop (fun m a w => ∃ (q : Nat) (M3 : List BArr), (q ≤ (nextsL (nth code.l t).l k).length) ∧ (M3.length = regs.toNat) ∧ (∀ a, a < M3.length → (nth M3 a).l.length = 200) ∧ (∀ a b, a < regs.toNat → b < 200 → get2 BArr.l M3 a b = (clTo (nth code.l t).l (f t) k a b || ((nextsL (nth code.l t).l k).take q).any fun y => clE (wrG (nth (nth code.l t).l k)) (f t) y.toNat a b)) ∧ St 110 (fun _ => False) W a w [(1, .pointer (some ⟨b3, 0, none⟩)), (3, .pointer (some ⟨b5, 0, none⟩)), (5, vo), (7, (nth code.l t).v), (8, v39), (9, s43.v), (12, .int .i64 (wrG (nth ((nth code.l t).l) k))), (26, code.v), (27, .int .i64 ((code.l.length : Nat) : Int)), (28, .int .i64 ((t : Nat) : Int)), (37, (nth code.l t).v), (38, .int .i64 ((((nth code.l t).l).length : Nat) : Int)), (39, .int .i64 ((k : Nat) : Int)), (48, s70.v), (49, .int .i64 (((nextsL ((nth code.l t).l) k).length : Nat) : Int)), (50, .int .i64 ((q : Nat) : Int))] [.own 3 (⟨s70.v, nextsL ((nth code.l t).l) k⟩ : Ls Int), .blk b61 32 [.int .i64 ((nth ((nth code.l t).l) k).op), .int .i64 ((nth ((nth code.l t).l) k).a), .int .i64 ((nth ((nth code.l t).l) k).b), .int .i64 ((nth ((nth code.l t).l) k).c)], .own 101 (⟨s43.v, liveA (f t) (nth code.l t).l.length⟩ : Ls BArr), .own 101 (⟨v39, M3⟩ : Ls BArr), .blk b10 28 [.int .i64 ((checkG (pgOf code words locks regs)).code), .int .i64 ((checkG (pgOf code words locks regs)).thread), .int .i64 ((checkG (pgOf code words locks regs)).at_)], .blk b5 28 [.int .i64 0, .int .i64 0, .int .i64 0], .blk b3 25 [code.v, words.v, .int .i64 locks, .int .i64 regs], .at_ code, .at_ words, .deep 35 (⟨vo, os⟩ : Ls (Ls (Ls Int)))] ∧ m = (nextsL (nth code.l t).l k).length - q) ⟨_, 0, M2, (by omega), (hM2), (hw2), (fun a b ha hb => by rw [any_zero, Bool.or_false]; exact hv2 a b ha hb), h73.nrm ⟨rfl, rfl, rfl, rfl, rfl, rfl, rfl, rfl, rfl, rfl, rfl, rfl, rfl, rfl, rfl, rfl, trivial⟩ [0, 1, 2, 3, 4, 5, 6, 7, 8, 9] (by decide) ⟨rfl, rfl, rfl, rfl, rfl, rfl, rfl, rfl, rfl, rfl, trivial⟩, rfl⟩ ?_
   clear h73
   rintro m74 a74 w74 ⟨q, M3, hq, hM3, hw3, hv3, h74, hm74⟩
   refine wp_seq_k fun K75 hK75 => wp_region_lit <| wv h74 (r_lssN (p := q) (q := (nextsL ((nth code.l t).l) k).length) rfl rfl rfl) rfl rfl fun a76 h76 => wpList_nil <| hK75 _ _ <| wp_seq_k fun K77 hK77 => x_cond h76 rfl (fun hb78 => ?_) (fun hb78 => ?_); clear h74
   ·have hp78 : q < (nextsL ((nth code.l t).l) k).length := of_decide_eq_true hb78
    refine wp_skip <| hK77 _ _ <| wp_seq_k fun K79 hK79 => wp_block <| wp_seq_k fun K80 hK80 => wp_region_lit <| wv h76 (r_ixN (s := (⟨s70.v, nextsL ((nth code.l t).l) k⟩ : Ls Int)) (q := q) sl_23 ti_3 rfl rfl rfl (fun w h => (h.own 0 rfl)) (show q < (nextsL ((nth code.l t).l) k).length from (by omega))) rfl rfl fun a81 h81 => wv h81 (r_lde (s := (⟨s70.v, nextsL ((nth code.l t).l) k⟩ : Ls Int)) (i := q) (v := .int .i64 (nth (nextsL ((nth code.l t).l) k) q)) ti_3 rfl rfl rfl (fun w h => (h.own 0 rfl)) (show q < (nextsL ((nth code.l t).l) k).length from (by omega)) (Nat.le_of_ble_eq_true rfl) rfl) rfl rfl fun a82 h82 => wms 1 h82 rfl fun a83 h83 => wpList_nil <| hK80 _ _ ?_; clear h76 h81 h82
    have hi0 := nth_mem (nextsL (nth code.l t).l k) q (by omega)
    have hnx := nextsV_ok hjt (by omega) hi0
    have hA2 := liveA_200 (f := f t) (n := (nth code.l t).l.length) (j := (nth (nextsL (nth code.l t).l k) q).toNat) (by omega)
    refine wp_seq_k fun K84 hK84 => wp_region_lit <| wms 2 h83 rfl fun a85 h85 => ?_; clear h83
    have hl86 : (liveA (f t) (nth code.l t).l.length).length ≤ 140737488355328 := (h85.sh.own 2 rfl).len
    refine wv h85 (r_ixI (s := (⟨s43.v, liveA (f t) (nth code.l t).l.length⟩ : Ls BArr)) (q := nth (nextsL ((nth code.l t).l) k) q) sl_98 ti_101 rfl rfl rfl (fun w h => (h.own 2 rfl)) (show 0 ≤ nth (nextsL ((nth code.l t).l) k) q ∧ nth (nextsL ((nth code.l t).l) k) q < (liveA (f t) (nth code.l t).l.length).length from (by omega))) rfl rfl fun a87 h87 => wv h87 (r_ldewAr (n := 0) (i := (nth (nextsL ((nth code.l t).l) k) q).toNat) (s := (⟨s43.v, liveA (f t) (nth code.l t).l.length⟩ : Ls BArr)) ti_101 rfl rfl (fun w h => (h.own 2 rfl)) (show (nth (nextsL ((nth code.l t).l) k) q).toNat < (liveA (f t) (nth code.l t).l.length).length from (by omega))) rfl rfl fun a88 h88 => wms 1 h88 rfl fun a89 h89 => wpList_nil <| hK84 _ _ <| wp_block <| x_loop (fun m a w => ∃ (r : Nat) (M4 : List BArr), (r ≤ 200) ∧ (M4.length = regs.toNat) ∧ (∀ a, a < M4.length → (nth M4 a).l.length = 200) ∧ (∀ a b, a < regs.toNat → b < 200 → get2 BArr.l M4 a b = ((clTo (nth code.l t).l (f t) k a b || ((nextsL (nth code.l t).l k).take q).any fun y => clE (wrG (nth (nth code.l t).l k)) (f t) y.toNat a b) || clJ (wrG (nth (nth code.l t).l k)) (f t) (nth (nextsL (nth code.l t).l k) q).toNat r a b)) ∧ St 110 (fun _ => False) W a w [(1, .pointer (some ⟨b3, 0, none⟩)), (3, .pointer (some ⟨b5, 0, none⟩)), (5, vo), (7, (nth code.l t).v), (8, v39), (9, s43.v), (12, .int .i64 (wrG (nth ((nth code.l t).l) k))), (26, code.v), (27, .int .i64 ((code.l.length : Nat) : Int)), (28, .int .i64 ((t : Nat) : Int)), (37, (nth code.l t).v), (38, .int .i64 ((((nth code.l t).l).length : Nat) : Int)), (39, .int .i64 ((k : Nat) : Int)), (48, s70.v), (49, .int .i64 (((nextsL ((nth code.l t).l) k).length : Nat) : Int)), (50, .int .i64 ((q : Nat) : Int)), (57, .agg (((nth (liveA (f t) (nth code.l t).l.length) ((nth (nextsL ((nth code.l t).l) k) q).toNat)).l).map Value.bool).toArray), (58, .int .i64 ((r : Nat) : Int))] [.own 3 (⟨s70.v, nextsL ((nth code.l t).l) k⟩ : Ls Int), .blk b61 32 [.int .i64 ((nth ((nth code.l t).l) k).op), .int .i64 ((nth ((nth code.l t).l) k).a), .int .i64 ((nth ((nth code.l t).l) k).b), .int .i64 ((nth ((nth code.l t).l) k).c)], .own 101 (⟨s43.v, liveA (f t) (nth code.l t).l.length⟩ : Ls BArr), .own 101 (⟨v39, M4⟩ : Ls BArr), .blk b10 28 [.int .i64 ((checkG (pgOf code words locks regs)).code), .int .i64 ((checkG (pgOf code words locks regs)).thread), .int .i64 ((checkG (pgOf code words locks regs)).at_)], .blk b5 28 [.int .i64 0, .int .i64 0, .int .i64 0], .blk b3 25 [code.v, words.v, .int .i64 locks, .int .i64 regs], .at_ code, .at_ words, .deep 35 (⟨vo, os⟩ : Ls (Ls (Ls Int)))] ∧ m = 200 - r) ⟨_, 0, M3, (by omega), (hM3), (hw3), (fun a b ha hb => by rw [clJ_zero, Bool.or_false]; exact hv3 a b ha hb), h89.nrm ⟨rfl, rfl, rfl, rfl, rfl, rfl, rfl, rfl, rfl, rfl, rfl, rfl, rfl, rfl, rfl, rfl, rfl, rfl, trivial⟩ [0, 1, 2, 3, 4, 5, 6, 7, 8, 9] (by decide) ⟨rfl, rfl, rfl, rfl, rfl, rfl, rfl, rfl, rfl, rfl, trivial⟩, rfl⟩ ?_; clear h85 h87 h88
    clear h89
    rintro m90 a90 w90 ⟨r, M4, hr, hM4, hw4, hv4, h90, hm90⟩
    refine wp_seq_k fun K91 hK91 => wp_region_lit <| wv h90 (r_lssN (p := r) (q := 200) rfl rfl rfl) rfl rfl fun a92 h92 => wpList_nil <| hK91 _ _ <| wp_seq_k fun K93 hK93 => x_cond h92 rfl (fun hb94 => ?_) (fun hb94 => ?_); clear h90
    ·have hp94 : r < 200 := of_decide_eq_true hb94
     refine wp_skip <| hK93 _ _ <| wp_seq_k fun K95 hK95 => wp_block <| wp_seq_k fun K96 hK96 => wp_region_lit <| wms 1 h92 rfl fun a97 h97 => wv h97 (r_ixV (cs := ((nth (liveA (f t) (nth code.l t).l.length) ((nth (nextsL ((nth code.l t).l) k) q).toNat)).l).map Value.bool) (q := r) ar_101 ti_4 rfl rfl rfl (show r < 200 from (by omega)) (nth_bool (by rw [show ((nth (liveA (f t) (nth code.l t).l.length) ((nth (nextsL ((nth code.l t).l) k) q).toNat)).l).length = 200 from (by first | assumption | (simp only [lens9]; done) | (simp only [lens9]; first | assumption | omega) | rfl)]; omega))) rfl rfl fun a98 h98 => wms 2 h98 rfl fun a99 h99 => wpList_nil <| hK96 _ _ ?_; clear h92 h97 h98
     have hfr : nth (nth (liveA (f t) (nth code.l t).l.length) (nth (nextsL (nth code.l t).l k) q).toNat).l r = f t r (nth (nextsL (nth code.l t).l k) q).toNat := by rw [liveA_nth (by omega)]; exact nth_mapR (by omega)
     have hrr : nth (nth (liveA (f t) (nth code.l t).l.length) (nth (nextsL (nth code.l t).l k) q).toNat).l r = true → (r : Int) < regs := fun h9 => live_lt (okV_of hok t (by omega)) ((hF t (by omega) _ _).1 (hfr.symm.trans h9))
     refine wp_seq_k fun K100 hK100 => wp_region_lit <| wms 1 h99 rfl fun a101 h101 => wv h101 (r_geqI (p := wrG (nth ((nth code.l t).l) k)) (q := 0) rfl rfl rfl) rfl rfl fun a102 h102 => wms 1 h102 rfl fun a103 h103 => ?_; clear h99 h101 h102
     rcases Bool.eq_false_or_eq_true (decide (0 ≤ wrG (nth ((nth code.l t).l) k))) with hb104 | hb104
     ·have hp104 : 0 ≤ wrG (nth ((nth code.l t).l) k) := of_decide_eq_true hb104
      refine wl_val h103 (r_move rfl rfl) (wanted_yes h103.fr rfl rfl rfl rfl hb104) rfl rfl fun a105 h105 => wv h105 (r_pickT rfl rfl hb104 rfl) rfl rfl fun a106 h106 => wms 1 h106 rfl fun a107 h107 => ?_; clear h103 h105 h106
      rcases Bool.eq_false_or_eq_true (nth ((nth (liveA (f t) (nth code.l t).l.length) ((nth (nextsL ((nth code.l t).l) k) q).toNat)).l) r) with hb108 | hb108
      ·skip
       refine wl_val h107 (r_move rfl rfl) (wanted_yes h107.fr rfl rfl rfl rfl hb108) rfl rfl fun a109 h109 => wl_val h109 (r_move rfl rfl) (wanted_yes h109.fr rfl rfl rfl rfl hb108) rfl rfl fun a110 h110 => wl_val h110 (r_neqI (p := ((r : Nat) : Int)) (q := wrG (nth ((nth code.l t).l) k)) rfl rfl rfl) (wanted_yes h110.fr rfl rfl rfl rfl hb108) rfl rfl fun a111 h111 => wv h111 (r_pickT rfl rfl hb108 rfl) rfl rfl fun a112 h112 => wpList_nil <| hK100 _ _ <| x_cond h112 rfl (fun hb113 => ?_) (fun hb113 => ?_); clear h107 h109 h110 h111
       ·have hp113 : ((r : Nat) : Int) ≠ wrG (nth ((nth code.l t).l) k) := of_decide_eq_true hb113
        have hrr2 := hrr (by assumption)
        have h114 : St 110 (fun _ => False) W a112 w90 [(1, .pointer (some ⟨b3, 0, none⟩)), (3, .pointer (some ⟨b5, 0, none⟩)), (5, vo), (7, (nth code.l t).v), (8, v39), (9, s43.v), (12, .int .i64 (wrG (nth ((nth code.l t).l) k))), (15, .int .i64 ((r : Nat) : Int)), (16, .bool (nth ((nth (liveA (f t) (nth code.l t).l.length) ((nth (nextsL ((nth code.l t).l) k) q).toNat)).l) r)), (26, code.v), (27, .int .i64 ((code.l.length : Nat) : Int)), (28, .int .i64 ((t : Nat) : Int)), (37, (nth code.l t).v), (38, .int .i64 ((((nth code.l t).l).length : Nat) : Int)), (39, .int .i64 ((k : Nat) : Int)), (48, s70.v), (49, .int .i64 (((nextsL ((nth code.l t).l) k).length : Nat) : Int)), (50, .int .i64 ((q : Nat) : Int)), (57, .agg (((nth (liveA (f t) (nth code.l t).l.length) ((nth (nextsL ((nth code.l t).l) k) q).toNat)).l).map Value.bool).toArray), (58, .int .i64 ((r : Nat) : Int)), (59, .bool (decide (r < 200))), (60, .int .i64 ((r : Nat) : Int)), (61, .bool (nth ((nth (liveA (f t) (nth code.l t).l.length) ((nth (nextsL ((nth code.l t).l) k) q).toNat)).l) r)), (62, .int .i64 (wrG (nth ((nth code.l t).l) k))), (63, .bool (decide (0 ≤ wrG (nth ((nth code.l t).l) k)))), (64, .bool (decide (0 ≤ wrG (nth ((nth code.l t).l) k)))), (65, .bool (nth ((nth (liveA (f t) (nth code.l t).l.length) ((nth (nextsL ((nth code.l t).l) k) q).toNat)).l) r)), (66, .bool (nth ((nth (liveA (f t) (nth code.l t).l.length) ((nth (nextsL ((nth code.l t).l) k) q).toNat)).l) r)), (67, .bool (nth ((nth (liveA (f t) (nth code.l t).l.length) ((nth (nextsL ((nth code.l t).l) k) q).toNat)).l) r)), (68, .int .i64 ((r : Nat) : Int)), (69, .int .i64 (wrG (nth ((nth code.l t).l) k))), (70, .bool (decide (((r : Nat) : Int) ≠ wrG (nth ((nth code.l t).l) k)))), (71, .bool (decide (((r : Nat) : Int) ≠ wrG (nth ((nth code.l t).l) k))))] [.own 3 (⟨s70.v, nextsL ((nth code.l t).l) k⟩ : Ls Int), .blk b61 32 [.int .i64 ((nth ((nth code.l t).l) k).op), .int .i64 ((nth ((nth code.l t).l) k).a), .int .i64 ((nth ((nth code.l t).l) k).b), .int .i64 ((nth ((nth code.l t).l) k).c)], .own 101 (⟨s43.v, liveA (f t) (nth code.l t).l.length⟩ : Ls BArr), .own 101 (⟨v39, M4⟩ : Ls BArr), .blk b10 28 [.int .i64 ((checkG (pgOf code words locks regs)).code), .int .i64 ((checkG (pgOf code words locks regs)).thread), .int .i64 ((checkG (pgOf code words locks regs)).at_)], .blk b5 28 [.int .i64 0, .int .i64 0, .int .i64 0], .blk b3 25 [code.v, words.v, .int .i64 locks, .int .i64 regs], .at_ code, .at_ words, .deep 35 (⟨vo, os⟩ : Ls (Ls (Ls Int)))] := h112.nrm ⟨rfl, rfl, rfl, rfl, rfl, rfl, rfl, rfl, rfl, rfl, rfl, rfl, rfl, rfl, rfl, rfl, rfl, rfl, rfl, rfl, rfl, rfl, rfl, rfl, rfl, rfl, rfl, rfl, rfl, rfl, rfl, rfl, rfl, trivial⟩ [0, 1, 2, 3, 4, 5, 6, 7, 8, 9] (by decide) ⟨rfl, rfl, rfl, rfl, rfl, rfl, rfl, rfl, rfl, rfl, trivial⟩
        clear h112
        refine x_any ((fun Φ Ψ S a w => (S 8 = false ∧ S 11 = false ∧ FrI 110 S Φ Ψ a ∧ Sh (fun _ => False) W w [.own 3 (⟨s70.v, nextsL ((nth code.l t).l) k⟩ : Ls Int), .blk b61 32 [.int .i64 ((nth ((nth code.l t).l) k).op), .int .i64 ((nth ((nth code.l t).l) k).a), .int .i64 ((nth ((nth code.l t).l) k).b), .int .i64 ((nth ((nth code.l t).l) k).c)], .own 101 (⟨s43.v, liveA (f t) (nth code.l t).l.length⟩ : Ls BArr), .own 101 (⟨v39, M4⟩ : Ls BArr), .blk b10 28 [.int .i64 ((checkG (pgOf code words locks regs)).code), .int .i64 ((checkG (pgOf code words locks regs)).thread), .int .i64 ((checkG (pgOf code words locks regs)).at_)], .blk b5 28 [.int .i64 0, .int .i64 0, .int .i64 0], .blk b3 25 [code.v, words.v, .int .i64 locks, .int .i64 regs], .at_ code, .at_ words, .deep 35 (⟨vo, os⟩ : Ls (Ls (Ls Int)))]) ∨ (S 8 = true ∧ S 11 = false ∧ FrI 110 S Φ (Ψ ++ [(10, 81, .pointer (some (padr v39 200 ((wrG (nth ((nth code.l t).l) k)).toNat) r)))]) a ∧ Sh (fun _ => False) W w [.own 3 (⟨s70.v, nextsL ((nth code.l t).l) k⟩ : Ls Int), .blk b61 32 [.int .i64 ((nth ((nth code.l t).l) k).op), .int .i64 ((nth ((nth code.l t).l) k).a), .int .i64 ((nth ((nth code.l t).l) k).b), .int .i64 ((nth ((nth code.l t).l) k).c)], .own 101 (⟨s43.v, liveA (f t) (nth code.l t).l.length⟩ : Ls BArr), .own 101 (⟨v39, M4.set r ⟨(nth M4 r).l.set ((wrG (nth ((nth code.l t).l) k)).toNat) true⟩⟩ : Ls BArr), .blk b10 28 [.int .i64 ((checkG (pgOf code words locks regs)).code), .int .i64 ((checkG (pgOf code words locks regs)).thread), .int .i64 ((checkG (pgOf code words locks regs)).at_)], .blk b5 28 [.int .i64 0, .int .i64 0, .int .i64 0], .blk b3 25 [code.v, words.v, .int .i64 locks, .int .i64 regs], .at_ code, .at_ words, .deep 35 (⟨vo, os⟩ : Ls (Ls (Ls Int)))]) ∨ (S 8 = true ∧ S 11 = true ∧ FrI 110 S Φ (Ψ ++ [(10, 81, .pointer (some (padr v39 200 ((wrG (nth ((nth code.l t).l) k)).toNat) r)))]) a ∧ Sh (fun _ => False) W w [.own 3 (⟨s70.v, nextsL ((nth code.l t).l) k⟩ : Ls Int), .blk b61 32 [.int .i64 ((nth ((nth code.l t).l) k).op), .int .i64 ((nth ((nth code.l t).l) k).a), .int .i64 ((nth ((nth code.l t).l) k).b), .int .i64 ((nth ((nth code.l t).l) k).c)], .own 101 (⟨s43.v, liveA (f t) (nth code.l t).l.length⟩ : Ls BArr), .own 101 (⟨v39, (M4.set r ⟨(nth M4 r).l.set ((wrG (nth ((nth code.l t).l) k)).toNat) true⟩).set ((wrG (nth ((nth code.l t).l) k)).toNat) ⟨(nth (M4.set r ⟨(nth M4 r).l.set ((wrG (nth ((nth code.l t).l) k)).toNat) true⟩) ((wrG (nth ((nth code.l t).l) k)).toNat)).l.set r true⟩⟩ : Ls BArr), .blk b10 28 [.int .i64 ((checkG (pgOf code words locks regs)).code), .int .i64 ((checkG (pgOf code words locks regs)).thread), .int .i64 ((checkG (pgOf code words locks regs)).at_)], .blk b5 28 [.int .i64 0, .int .i64 0, .int .i64 0], .blk b3 25 [code.v, words.v, .int .i64 locks, .int .i64 regs], .at_ code, .at_ words, .deep 35 (⟨vo, os⟩ : Ls (Ls (Ls Int)))])) [(1, .pointer (some ⟨b3, 0, none⟩)), (3, .pointer (some ⟨b5, 0, none⟩)), (5, vo), (7, (nth code.l t).v), (8, v39), (9, s43.v), (12, .int .i64 (wrG (nth ((nth code.l t).l) k))), (15, .int .i64 ((r : Nat) : Int)), (16, .bool (nth ((nth (liveA (f t) (nth code.l t).l.length) ((nth (nextsL ((nth code.l t).l) k) q).toNat)).l) r)), (26, code.v), (27, .int .i64 ((code.l.length : Nat) : Int)), (28, .int .i64 ((t : Nat) : Int)), (37, (nth code.l t).v), (38, .int .i64 ((((nth code.l t).l).length : Nat) : Int)), (39, .int .i64 ((k : Nat) : Int)), (48, s70.v), (49, .int .i64 (((nextsL ((nth code.l t).l) k).length : Nat) : Int)), (50, .int .i64 ((q : Nat) : Int)), (57, .agg (((nth (liveA (f t) (nth code.l t).l.length) ((nth (nextsL ((nth code.l t).l) k) q).toNat)).l).map Value.bool).toArray), (58, .int .i64 ((r : Nat) : Int)), (59, .bool (decide (r < 200))), (60, .int .i64 ((r : Nat) : Int)), (61, .bool (nth ((nth (liveA (f t) (nth code.l t).l.length) ((nth (nextsL ((nth code.l t).l) k) q).toNat)).l) r)), (62, .int .i64 (wrG (nth ((nth code.l t).l) k))), (63, .bool (decide (0 ≤ wrG (nth ((nth code.l t).l) k)))), (64, .bool (decide (0 ≤ wrG (nth ((nth code.l t).l) k)))), (65, .bool (nth ((nth (liveA (f t) (nth code.l t).l.length) ((nth (nextsL ((nth code.l t).l) k) q).toNat)).l) r)), (66, .bool (nth ((nth (liveA (f t) (nth code.l t).l.length) ((nth (nextsL ((nth code.l t).l) k) q).toNat)).l) r)), (67, .bool (nth ((nth (liveA (f t) (nth code.l t).l.length) ((nth (nextsL ((nth code.l t).l) k) q).toNat)).l) r)), (68, .int .i64 ((r : Nat) : Int)), (69, .int .i64 (wrG (nth ((nth code.l t).l) k))), (70, .bool (decide (((r : Nat) : Int) ≠ wrG (nth ((nth code.l t).l) k)))), (71, .bool (decide (((r : Nat) : Int) ≠ wrG (nth ((nth code.l t).l) k))))] [(0, 72, v39), (1, 73, .int .i64 ((r : Nat) : Int)), (2, 74, .int .i64 (wrG (nth ((nth code.l t).l) k))), (3, 75, v39), (4, 76, .int .i64 (wrG (nth ((nth code.l t).l) k))), (5, 77, .int .i64 ((r : Nat) : Int)), (6, 78, .pointer (some (padr v39 200 r 0))), (7, 79, .pointer (some (padr v39 200 r ((wrG (nth ((nth code.l t).l) k)).toNat)))), (9, 80, .pointer (some (padr v39 200 ((wrG (nth ((nth code.l t).l) k)).toNat) 0)))]) (by kernel_rfl) (by kernel_rfl) (Or.inl (⟨rfl, rfl, FrI.start h114.fr, h114.sh.drew⟩)) ?_ ?_
        ·intro S i o ho hSi hcl hdep a w hI
         clear h114
         rcases i with _ | _ | _ | _ | _ | _ | _ | _ | _ | _ | _ | _ | i
         ·obtain rfl : _ = o := Option.some.inj ho
          rcases hI with ⟨ν8, ν11, φ, ς⟩ | ⟨ν8, _⟩ | ⟨ν8, _⟩
          ·exact sq φ φ.fr0 ς (r_move rfl rfl) 0 rfl rfl rfl rfl rfl rfl fun a hg => Or.inl (⟨un rfl ν8, un rfl ν11, hg, ς⟩)
          ·exact no_way (cA hcl 8 0 rfl ν8) hSi
          ·exact no_way (cA hcl 8 0 rfl ν8) hSi
         ·obtain rfl : _ = o := Option.some.inj ho
          rcases hI with ⟨ν8, ν11, φ, ς⟩ | ⟨ν8, _⟩ | ⟨ν8, _⟩
          ·exact sq φ φ.fr0 ς (r_move rfl rfl) 1 rfl rfl rfl rfl rfl rfl fun a hg => Or.inl (⟨un rfl ν8, un rfl ν11, hg, ς⟩)
          ·exact no_way (cA hcl 8 1 rfl ν8) hSi
          ·exact no_way (cA hcl 8 1 rfl ν8) hSi
         ·obtain rfl : _ = o := Option.some.inj ho
          rcases hI with ⟨ν8, ν11, φ, ς⟩ | ⟨ν8, _⟩ | ⟨ν8, _⟩
          ·exact sq φ φ.fr0 ς (r_move rfl rfl) 2 rfl rfl rfl rfl rfl rfl fun a hg => Or.inl (⟨un rfl ν8, un rfl ν11, hg, ς⟩)
          ·exact no_way (cA hcl 8 2 rfl ν8) hSi
          ·exact no_way (cA hcl 8 2 rfl ν8) hSi
         ·obtain rfl : _ = o := Option.some.inj ho
          rcases hI with ⟨ν8, ν11, φ, ς⟩ | ⟨ν8, ν11, φ, ς⟩ | ⟨_, ν11, _⟩
          ·exact sq φ φ.fr0 ς (r_move rfl rfl) 3 rfl rfl rfl rfl rfl rfl fun a hg => Or.inl (⟨un rfl ν8, un rfl ν11, hg, ς⟩)
          ·exact sq φ φ.fr0 ς (r_move rfl rfl) 3 rfl rfl rfl rfl rfl rfl fun a hg => Or.inr (Or.inl (⟨un rfl ν8, un rfl ν11, hg, ς⟩))
          ·exact no_way (cA hcl 11 3 rfl ν11) hSi
         ·obtain rfl : _ = o := Option.some.inj ho
          rcases hI with ⟨ν8, ν11, φ, ς⟩ | ⟨ν8, ν11, φ, ς⟩ | ⟨_, ν11, _⟩
          ·exact sq φ φ.fr0 ς (r_move rfl rfl) 4 rfl rfl rfl rfl rfl rfl fun a hg => Or.inl (⟨un rfl ν8, un rfl ν11, hg, ς⟩)
          ·exact sq φ φ.fr0 ς (r_move rfl rfl) 4 rfl rfl rfl rfl rfl rfl fun a hg => Or.inr (Or.inl (⟨un rfl ν8, un rfl ν11, hg, ς⟩))
          ·exact no_way (cA hcl 11 4 rfl ν11) hSi
         ·obtain rfl : _ = o := Option.some.inj ho
          rcases hI with ⟨ν8, ν11, φ, ς⟩ | ⟨ν8, ν11, φ, ς⟩ | ⟨_, ν11, _⟩
          ·exact sq φ φ.fr0 ς (r_move rfl rfl) 5 rfl rfl rfl rfl rfl rfl fun a hg => Or.inl (⟨un rfl ν8, un rfl ν11, hg, ς⟩)
          ·exact sq φ φ.fr0 ς (r_move rfl rfl) 5 rfl rfl rfl rfl rfl rfl fun a hg => Or.inr (Or.inl (⟨un rfl ν8, un rfl ν11, hg, ς⟩))
          ·exact no_way (cA hcl 11 5 rfl ν11) hSi
         ·obtain rfl : _ = o := Option.some.inj ho
          have hd0 : S 0 = true := depAt hdep 0 rfl rfl
          have hd1 : S 1 = true := depAt hdep 1 rfl rfl
          rcases hI with ⟨ν8, ν11, φ, ς⟩ | ⟨ν8, _⟩ | ⟨ν8, _⟩
          ·have hs := St.mk (Fr.cons (Fr.cons φ.fr0 (φ.at_ 0 0 72 _ rfl hd0)) (φ.at_ 1 1 73 _ rfl hd1)) ς
           have hl128 : M4.length ≤ 140737488355328 := (hs.sh.own 3 rfl).len
           exact sq φ (Fr.cons (Fr.cons φ.fr0 (φ.at_ 0 0 72 _ rfl hd0)) (φ.at_ 1 1 73 _ rfl hd1)) ς (r_ixN (s := (⟨v39, M4⟩ : Ls BArr)) (q := r) sl_98 ti_101 rfl rfl rfl (fun w h => (h.own 3 rfl)) (show r < M4.length from (by omega))) 6 rfl rfl rfl rfl rfl rfl fun a hg => Or.inl (⟨un rfl ν8, un rfl ν11, hg, ς⟩)
          ·exact no_way (cA hcl 8 6 rfl ν8) hSi
          ·exact no_way (cA hcl 8 6 rfl ν8) hSi
         ·obtain rfl : _ = o := Option.some.inj ho
          have hd6 : S 6 = true := depAt hdep 0 rfl rfl
          have hd2 : S 2 = true := depAt hdep 1 rfl rfl
          rcases hI with ⟨ν8, ν11, φ, ς⟩ | ⟨ν8, _⟩ | ⟨ν8, _⟩
          ·exact sq φ (Fr.cons (Fr.cons φ.fr0 (φ.at_ 2 2 74 _ rfl hd2)) (φ.at_ 6 6 78 _ rfl hd6)) ς (r_ixArEI (q := wrG (nth ((nth code.l t).l) k)) ar_101 ti_4 rfl rfl rfl rfl (show 0 ≤ wrG (nth ((nth code.l t).l) k) ∧ wrG (nth ((nth code.l t).l) k) < 200 from (by omega))) 7 rfl rfl rfl rfl rfl rfl fun a hg => Or.inl (⟨un rfl ν8, un rfl ν11, hg, ς⟩)
          ·exact no_way (cA hcl 8 7 rfl ν8) hSi
          ·exact no_way (cA hcl 8 7 rfl ν8) hSi
         ·obtain rfl : _ = o := Option.some.inj ho
          have hd7 : S 7 = true := depAt hdep 0 rfl rfl
          rcases hI with ⟨ν8, ν11, φ, ς⟩ | ⟨ν8, _⟩ | ⟨ν8, _⟩
          ·have hs := St.mk (Fr.cons φ.fr0 (φ.at_ 7 7 79 _ rfl hd7)) ς
           refine step_ex (x_steAr (r := 3) (i := r) (s := (⟨v39, M4⟩ : Ls BArr)) (j := (wrG (nth ((nth code.l t).l) k)).toNat) (b := true) hs ti_4 rfl rfl rfl rfl (show r < M4.length from (by omega)) (show (wrG (nth ((nth code.l t).l) k)).toNat < 200 from (by omega)) rfl) (wanted_none rfl _) ?_
           rintro a131 w131 h131 ⟨v0, ht131⟩
           exact Or.inr (Or.inl (⟨upd_self _ _, un rfl ν11, φ.noneW hcl hSi [0, 1, 2, 3, 4, 5, 6, 7, 8] (by kernel_rfl) (by kernel_rfl) ht131 h131.fr.defers rfl, (h131.sh.sel (L' := [.own 3 (⟨s70.v, nextsL ((nth code.l t).l) k⟩ : Ls Int), .blk b61 32 [.int .i64 ((nth ((nth code.l t).l) k).op), .int .i64 ((nth ((nth code.l t).l) k).a), .int .i64 ((nth ((nth code.l t).l) k).b), .int .i64 ((nth ((nth code.l t).l) k).c)], .own 101 (⟨s43.v, liveA (f t) (nth code.l t).l.length⟩ : Ls BArr), .own 101 (⟨v39, M4.set r ⟨(nth M4 r).l.set ((wrG (nth ((nth code.l t).l) k)).toNat) true⟩⟩ : Ls BArr), .blk b10 28 [.int .i64 ((checkG (pgOf code words locks regs)).code), .int .i64 ((checkG (pgOf code words locks regs)).thread), .int .i64 ((checkG (pgOf code words locks regs)).at_)], .blk b5 28 [.int .i64 0, .int .i64 0, .int .i64 0], .blk b3 25 [code.v, words.v, .int .i64 locks, .int .i64 regs], .at_ code, .at_ words, .deep 35 (⟨vo, os⟩ : Ls (Ls (Ls Int)))]) [0, 1, 2, 3, 4, 5, 6, 7, 8, 9] (by decide) ⟨rfl, rfl, rfl, rfl, rfl, rfl, rfl, rfl, rfl, rfl, trivial⟩)⟩))
          ·exact no_way ν8 hSi
          ·exact no_way ν8 hSi
         ·obtain rfl : _ = o := Option.some.inj ho
          have hd3 : S 3 = true := depAt hdep 0 rfl rfl
          have hd4 : S 4 = true := depAt hdep 1 rfl rfl
          rcases hI with ⟨ν8, ν11, φ, ς⟩ | ⟨ν8, ν11, φ, ς⟩ | ⟨_, ν11, _⟩
          ·have hs := St.mk (Fr.cons (Fr.cons φ.fr0 (φ.at_ 3 3 75 _ rfl hd3)) (φ.at_ 4 4 76 _ rfl hd4)) ς
           have hl132 : M4.length ≤ 140737488355328 := (hs.sh.own 3 rfl).len
           exact sq φ (Fr.cons (Fr.cons φ.fr0 (φ.at_ 3 3 75 _ rfl hd3)) (φ.at_ 4 4 76 _ rfl hd4)) ς (r_ixI (s := (⟨v39, M4⟩ : Ls BArr)) (q := wrG (nth ((nth code.l t).l) k)) sl_98 ti_101 rfl rfl rfl (fun w h => (h.own 3 rfl)) (show 0 ≤ wrG (nth ((nth code.l t).l) k) ∧ wrG (nth ((nth code.l t).l) k) < M4.length from (by omega))) 8 rfl rfl rfl rfl rfl rfl fun a hg => Or.inl (⟨un rfl ν8, un rfl ν11, hg, ς⟩)
          ·exact sq φ (Fr.cons (Fr.cons φ.fr0 (φ.at_ 3 3 75 _ rfl hd3)) (φ.at_ 4 4 76 _ rfl hd4)) ς (r_ixI (s := (⟨v39, M4.set r ⟨(nth M4 r).l.set ((wrG (nth ((nth code.l t).l) k)).toNat) true⟩⟩ : Ls BArr)) (q := wrG (nth ((nth code.l t).l) k)) sl_98 ti_101 rfl rfl rfl (fun w h => (h.own 3 rfl)) (show 0 ≤ wrG (nth ((nth code.l t).l) k) ∧ wrG (nth ((nth code.l t).l) k) < (M4.set r ⟨(nth M4 r).l.set ((wrG (nth ((nth code.l t).l) k)).toNat) true⟩).length from (by first | omega | (simp only [lens9]; omega)))) 8 rfl rfl rfl rfl rfl rfl fun a hg => Or.inr (Or.inl (⟨un rfl ν8, un rfl ν11, hg, ς⟩))
          ·exact no_way (cA hcl 11 9 rfl ν11) hSi
         ·obtain rfl : _ = o := Option.some.inj ho
          have hd9 : S 9 = true := depAt hdep 0 rfl rfl
          have hd5 : S 5 = true := depAt hdep 1 rfl rfl
          have hd8 : S 8 = true := depAt hdep 10 rfl rfl
          rcases hI with ⟨ν8, _⟩ | ⟨ν8, ν11, φ, ς⟩ | ⟨_, ν11, _⟩
          ·exact no_way hd8 ν8
          ·exact sq φ (Fr.cons (Fr.cons φ.fr0 (φ.at_ 5 5 77 _ rfl hd5)) (φ.at_ 8 9 80 _ rfl hd9)) ς (r_ixArE (q := r) ar_101 ti_4 rfl rfl rfl rfl (show r < 200 from (by omega))) 9 rfl rfl rfl rfl rfl rfl fun a hg => Or.inr (Or.inl (⟨un rfl ν8, un rfl ν11, hg, ς⟩))
          ·exact no_way (cA hcl 11 10 rfl ν11) hSi
         ·obtain rfl : _ = o := Option.some.inj ho
          have hd10 : S 10 = true := depAt hdep 0 rfl rfl
          have hd8 : S 8 = true := depAt hdep 1 rfl rfl
          rcases hI with ⟨ν8, _⟩ | ⟨ν8, ν11, φ, ς⟩ | ⟨_, ν11, _⟩
          ·exact no_way hd8 ν8
          ·have hs := St.mk (Fr.cons φ.fr0 (φ.at_ 9 10 81 _ rfl hd10)) ς
           refine step_ex (x_steAr (r := 3) (i := (wrG (nth ((nth code.l t).l) k)).toNat) (s := (⟨v39, M4.set r ⟨(nth M4 r).l.set ((wrG (nth ((nth code.l t).l) k)).toNat) true⟩⟩ : Ls BArr)) (j := r) (b := true) hs ti_4 rfl rfl rfl rfl (show (wrG (nth ((nth code.l t).l) k)).toNat < (M4.set r ⟨(nth M4 r).l.set ((wrG (nth ((nth code.l t).l) k)).toNat) true⟩).length from (by first | omega | (simp only [lens9]; omega))) (show r < 200 from (by omega)) rfl) (wanted_none rfl _) ?_
           rintro a136 w136 h136 ⟨v0, ht136⟩
           exact Or.inr (Or.inr (⟨un rfl ν8, upd_self _ _, φ.noneW hcl hSi [0, 1, 2, 3, 4, 5, 6, 7, 8, 9] (by kernel_rfl) (by kernel_rfl) ht136 h136.fr.defers rfl, (h136.sh.sel (L' := [.own 3 (⟨s70.v, nextsL ((nth code.l t).l) k⟩ : Ls Int), .blk b61 32 [.int .i64 ((nth ((nth code.l t).l) k).op), .int .i64 ((nth ((nth code.l t).l) k).a), .int .i64 ((nth ((nth code.l t).l) k).b), .int .i64 ((nth ((nth code.l t).l) k).c)], .own 101 (⟨s43.v, liveA (f t) (nth code.l t).l.length⟩ : Ls BArr), .own 101 (⟨v39, (M4.set r ⟨(nth M4 r).l.set ((wrG (nth ((nth code.l t).l) k)).toNat) true⟩).set ((wrG (nth ((nth code.l t).l) k)).toNat) ⟨(nth (M4.set r ⟨(nth M4 r).l.set ((wrG (nth ((nth code.l t).l) k)).toNat) true⟩) ((wrG (nth ((nth code.l t).l) k)).toNat)).l.set r true⟩⟩ : Ls BArr), .blk b10 28 [.int .i64 ((checkG (pgOf code words locks regs)).code), .int .i64 ((checkG (pgOf code words locks regs)).thread), .int .i64 ((checkG (pgOf code words locks regs)).at_)], .blk b5 28 [.int .i64 0, .int .i64 0, .int .i64 0], .blk b3 25 [code.v, words.v, .int .i64 locks, .int .i64 regs], .at_ code, .at_ words, .deep 35 (⟨vo, os⟩ : Ls (Ls (Ls Int)))]) [0, 1, 2, 3, 4, 5, 6, 7, 8, 9] (by decide) ⟨rfl, rfl, rfl, rfl, rfl, rfl, rfl, rfl, rfl, rfl, trivial⟩)⟩))
          ·exact no_way ν11 hSi
         · simp at ho
        intro S hall a w hI
        clear h114
        rcases hI with ⟨ν8, ν11, φ, ς⟩ | ⟨ν8, ν11, φ, ς⟩ | ⟨ν8, ν11, φ, ς⟩
        · exact no_way (hall 8 (by decide)) ν8
        · exact no_way (hall 11 (by decide)) ν11
        have h137 : St 110 (fun _ => False) W a w _ [.own 3 (⟨s70.v, nextsL ((nth code.l t).l) k⟩ : Ls Int), .blk b61 32 [.int .i64 ((nth ((nth code.l t).l) k).op), .int .i64 ((nth ((nth code.l t).l) k).a), .int .i64 ((nth ((nth code.l t).l) k).b), .int .i64 ((nth ((nth code.l t).l) k).c)], .own 101 (⟨s43.v, liveA (f t) (nth code.l t).l.length⟩ : Ls BArr), .own 101 (⟨v39, (M4.set r ⟨(nth M4 r).l.set ((wrG (nth ((nth code.l t).l) k)).toNat) true⟩).set ((wrG (nth ((nth code.l t).l) k)).toNat) ⟨(nth (M4.set r ⟨(nth M4 r).l.set ((wrG (nth ((nth code.l t).l) k)).toNat) true⟩) ((wrG (nth ((nth code.l t).l) k)).toNat)).l.set r true⟩⟩ : Ls BArr), .blk b10 28 [.int .i64 ((checkG (pgOf code words locks regs)).code), .int .i64 ((checkG (pgOf code words locks regs)).thread), .int .i64 ((checkG (pgOf code words locks regs)).at_)], .blk b5 28 [.int .i64 0, .int .i64 0, .int .i64 0], .blk b3 25 [code.v, words.v, .int .i64 locks, .int .i64 regs], .at_ code, .at_ words, .deep 35 (⟨vo, os⟩ : Ls (Ls (Ls Int)))] := ⟨φ.fr0, ς⟩
        clear hall φ ς ν8 ν11
        refine hK95 _ _ <| wp_region_lit <| wv h137 (r_addN (p := r) (q := 1) rfl rfl rfl (show r + 1 < 9223372036854775808 from (by omega))) rfl rfl fun a138 h138 => wms 1 h138 rfl fun a139 h139 => wpList_nil <| x_again ⟨_, ?_, r + 1, (M4.set r ⟨(nth M4 r).l.set ((wrG (nth ((nth code.l t).l) k)).toNat) true⟩).set ((wrG (nth ((nth code.l t).l) k)).toNat) ⟨(nth (M4.set r ⟨(nth M4 r).l.set ((wrG (nth ((nth code.l t).l) k)).toNat) true⟩) ((wrG (nth ((nth code.l t).l) k)).toNat)).l.set r true⟩, ?_, ?_, ?_, ?_, h139.nrm ⟨rfl, rfl, rfl, rfl, rfl, rfl, rfl, rfl, rfl, rfl, rfl, rfl, rfl, rfl, rfl, rfl, rfl, rfl, trivial⟩ [0, 1, 2, 3, 4, 5, 6, 7, 8, 9] (by decide) ⟨rfl, rfl, rfl, rfl, rfl, rfl, rfl, rfl, rfl, rfl, trivial⟩, rfl⟩; clear h137 h138
        · rw [hm90]; first | omega | (simp only [lens9]; omega)
        · omega
        · first | exact hM4 | (simp only [List.length_set]; exact hM4)
        · first | exact hw4 | exact set_lenA (set_lenA hw4)
        · first | exact cl_upd (wn := (wrG (nth (nth code.l t).l k)).toNat) (fun a b => get2_set (by omega) rfl (by rw [hw4 _ (by omega)]; omega)) (fun a b => get2_set (by simp only [List.length_set]; omega) rfl (by rw [set_lenA hw4 _ (by simp only [List.length_set]; omega)]; omega)) hv4 (by omega) (by rw [← hfr]; assumption) (by omega) | (intro a b ha hb; rw [clJ_skip (by first | exact .inl (by omega) | exact .inr (.inl (by rw [← hfr]; assumption)) | exact .inr (.inr (by omega))), hv4 a b ha hb])
       have hp113 : ¬ (((r : Nat) : Int) ≠ wrG (nth ((nth code.l t).l) k)) := of_decide_eq_false hb113
       refine wp_skip <| hK95 _ _ <| wp_region_lit <| wv h112 (r_addN (p := r) (q := 1) rfl rfl rfl (show r + 1 < 9223372036854775808 from (by omega))) rfl rfl fun a140 h140 => wms 1 h140 rfl fun a141 h141 => wpList_nil <| x_again ⟨_, ?_, r + 1, M4, ?_, ?_, ?_, ?_, h141.nrm ⟨rfl, rfl, rfl, rfl, rfl, rfl, rfl, rfl, rfl, rfl, rfl, rfl, rfl, rfl, rfl, rfl, rfl, rfl, trivial⟩ [0, 1, 2, 3, 4, 5, 6, 7, 8, 9] (by decide) ⟨rfl, rfl, rfl, rfl, rfl, rfl, rfl, rfl, rfl, rfl, trivial⟩, rfl⟩; clear h112 h140
       · rw [hm90]; first | omega | (simp only [lens9]; omega)
       · omega
       · first | exact hM4 | (simp only [List.length_set]; exact hM4)
       · first | exact hw4 | exact set_lenA (set_lenA hw4)
       · first | exact cl_upd (wn := (wrG (nth (nth code.l t).l k)).toNat) (fun a b => get2_set (by omega) rfl (by rw [hw4 _ (by omega)]; omega)) (fun a b => get2_set (by simp only [List.length_set]; omega) rfl (by rw [set_lenA hw4 _ (by simp only [List.length_set]; omega)]; omega)) hv4 (by omega) (by rw [← hfr]; assumption) (by omega) | (intro a b ha hb; rw [clJ_skip (by first | exact .inl (by omega) | exact .inr (.inl (by rw [← hfr]; assumption)) | exact .inr (.inr (by omega))), hv4 a b ha hb])
      refine wl_skip h107 (wanted_no h107.fr rfl rfl rfl rfl hb108) rfl rfl fun a142 h142 => wl_skip h142 (wanted_no h142.fr rfl rfl rfl rfl hb108) rfl rfl fun a143 h143 => wl_skip h143 (wanted_no h143.fr rfl rfl rfl rfl hb108) rfl rfl fun a144 h144 => wv h144 (r_pickF rfl rfl hb108 rfl) rfl rfl fun a145 h145 => wpList_nil <| hK100 _ _ <| x_condF h145 rfl rfl <| wp_skip <| hK95 _ _ <| wp_region_lit <| wv h145 (r_addN (p := r) (q := 1) rfl rfl rfl (show r + 1 < 9223372036854775808 from (by omega))) rfl rfl fun a146 h146 => wms 1 h146 rfl fun a147 h147 => wpList_nil <| x_again ⟨_, ?_, r + 1, M4, ?_, ?_, ?_, ?_, h147.nrm ⟨rfl, rfl, rfl, rfl, rfl, rfl, rfl, rfl, rfl, rfl, rfl, rfl, rfl, rfl, rfl, rfl, rfl, rfl, trivial⟩ [0, 1, 2, 3, 4, 5, 6, 7, 8, 9] (by decide) ⟨rfl, rfl, rfl, rfl, rfl, rfl, rfl, rfl, rfl, rfl, trivial⟩, rfl⟩; clear h107 h142 h143 h144 h145 h146
      · rw [hm90]; first | omega | (simp only [lens9]; omega)
      · omega
      · first | exact hM4 | (simp only [List.length_set]; exact hM4)
      · first | exact hw4 | exact set_lenA (set_lenA hw4)
      · first | exact cl_upd (wn := (wrG (nth (nth code.l t).l k)).toNat) (fun a b => get2_set (by omega) rfl (by rw [hw4 _ (by omega)]; omega)) (fun a b => get2_set (by simp only [List.length_set]; omega) rfl (by rw [set_lenA hw4 _ (by simp only [List.length_set]; omega)]; omega)) hv4 (by omega) (by rw [← hfr]; assumption) (by omega) | (intro a b ha hb; rw [clJ_skip (by first | exact .inl (by omega) | exact .inr (.inl (by rw [← hfr]; assumption)) | exact .inr (.inr (by omega))), hv4 a b ha hb])
     have hp104 : ¬ (0 ≤ wrG (nth ((nth code.l t).l) k)) := of_decide_eq_false hb104
     refine wl_skip h103 (wanted_no h103.fr rfl rfl rfl rfl hb104) rfl rfl fun a148 h148 => wv h148 (r_pickF rfl rfl hb104 rfl) rfl rfl fun a149 h149 => wms 1 h149 rfl fun a150 h150 => wl_skip h150 (wanted_no h150.fr rfl rfl rfl rfl rfl) rfl rfl fun a151 h151 => wl_skip h151 (wanted_no h151.fr rfl rfl rfl rfl rfl) rfl rfl fun a152 h152 => wl_skip h152 (wanted_no h152.fr rfl rfl rfl rfl rfl) rfl rfl fun a153 h153 => wv h153 (r_pickF rfl rfl rfl rfl) rfl rfl fun a154 h154 => wpList_nil <| hK100 _ _ <| x_condF h154 rfl rfl <| wp_skip <| hK95 _ _ <| wp_region_lit <| wv h154 (r_addN (p := r) (q := 1) rfl rfl rfl (show r + 1 < 9223372036854775808 from (by omega))) rfl rfl fun a155 h155 => ?_; clear h103 h148 h149 h150 h151 h152 h153 h154
     refine wms 1 h155 rfl fun a156 h156 => wpList_nil <| x_again ⟨_, ?_, r + 1, M4, ?_, ?_, ?_, ?_, h156.nrm ⟨rfl, rfl, rfl, rfl, rfl, rfl, rfl, rfl, rfl, rfl, rfl, rfl, rfl, rfl, rfl, rfl, rfl, rfl, trivial⟩ [0, 1, 2, 3, 4, 5, 6, 7, 8, 9] (by decide) ⟨rfl, rfl, rfl, rfl, rfl, rfl, rfl, rfl, rfl, rfl, trivial⟩, rfl⟩; clear h155
     · rw [hm90]; first | omega | (simp only [lens9]; omega)
     · omega
     · first | exact hM4 | (simp only [List.length_set]; exact hM4)
     · first | exact hw4 | exact set_lenA (set_lenA hw4)
     · first | exact cl_upd (wn := (wrG (nth (nth code.l t).l k)).toNat) (fun a b => get2_set (by omega) rfl (by rw [hw4 _ (by omega)]; omega)) (fun a b => get2_set (by simp only [List.length_set]; omega) rfl (by rw [set_lenA hw4 _ (by simp only [List.length_set]; omega)]; omega)) hv4 (by omega) (by rw [← hfr]; assumption) (by omega) | (intro a b ha hb; rw [clJ_skip (by first | exact .inl (by omega) | exact .inr (.inl (by rw [← hfr]; assumption)) | exact .inr (.inr (by omega))), hv4 a b ha hb])
    have hp94 : ¬ (r < 200) := of_decide_eq_false hb94
    refine wp_exit <| hK79 _ _ <| wp_region_lit <| wv h92 (r_addN (p := q) (q := 1) rfl rfl rfl (show q + 1 < 9223372036854775808 from (by omega))) rfl rfl fun a157 h157 => wms 1 h157 rfl fun a158 h158 => wpList_nil <| x_again ⟨_, ?_, q + 1, M4, ?_, ?_, ?_, ?_, h158.nrm ⟨rfl, rfl, rfl, rfl, rfl, rfl, rfl, rfl, rfl, rfl, rfl, rfl, rfl, rfl, rfl, rfl, trivial⟩ [0, 1, 2, 3, 4, 5, 6, 7, 8, 9] (by decide) ⟨rfl, rfl, rfl, rfl, rfl, rfl, rfl, rfl, rfl, rfl, trivial⟩, rfl⟩; clear h92 h157
    · rw [hm74]; first | omega | (simp only [lens9]; omega)
    · omega
    · exact hM4
    · exact hw4
    · intro a b ha hb; rw [any_step (by omega), ← Bool.or_assoc, hv4 a b ha hb, clJ_all (by omega) (by omega)]
   have hp78 : ¬ (q < (nextsL ((nth code.l t).l) k).length) := of_decide_eq_false hb78
   refine wp_exit <| hK56 _ _ <| wp_region_lit <| wv h76 (r_addN (p := k) (q := 1) rfl rfl rfl (show k + 1 < 9223372036854775808 from (by omega))) rfl rfl fun a159 h159 => wms 1 h159 rfl fun a160 h160 => wpList_nil <| x_again ⟨_, ?_, k + 1, M3, ?_, ?_, ?_, ?_, h160.nrm ⟨rfl, rfl, rfl, rfl, rfl, rfl, rfl, rfl, rfl, rfl, rfl, rfl, trivial⟩ [2, 3, 4, 5, 6, 7, 8, 9] (by decide) ⟨rfl, rfl, rfl, rfl, rfl, rfl, rfl, rfl, trivial⟩, rfl⟩; clear h76 h159
   · rw [hm51]; first | omega | (simp only [lens9]; omega)
   · omega
   · exact hM3
   · exact hw3
   · intro a b ha hb; rw [clTo_succ, hv3 a b ha hb, any_all (by omega)]
  have hp55 : ¬ (k < ((nth code.l t).l).length) := of_decide_eq_false hb55
  refine wp_exit <| hK45 _ _ <| wp_seq_k fun K161 hK161 => wp_region_lit <| wv h53 (r_fieldB (r := 3) fl_25_3 rfl rfl rfl) rfl rfl fun a162 h162 => wv h162 (r_ldb (i := 4) ti_3 rfl rfl rfl rfl) rfl rfl fun a163 h163 => wl_ex (x_makeMatH (n := regs.toNat) h163 sl_35 ti_23 rfl (ev_nat (show 0 ≤ regs from (by omega)) rfl) (ev_nat (show 0 ≤ regs from (by omega)) rfl) (show 24 * regs.toNat ≤ 140737488355328 ∧ regs.toNat ≤ 140737488355328 from (by omega)) rfl rfl Int) (wanted_none rfl _) ?_; clear h53 h162
  rintro a164 w164 ⟨v164, h164⟩; clear h163
  refine wms 1 h164 rfl fun a165 h165 => wpList_nil <| hK161 _ _ <| wp_seq_k fun K166 hK166 => wp_seq_k fun K167 hK167 => wp_region_lit <| wms 1 h165 rfl fun a168 h168 => ?_; clear h164 h165
  have hl169 : M2.length ≤ 140737488355328 := (h168.sh.own 2 rfl).len
  refine wv h168 (r_len (s := (⟨v39, M2⟩ : Ls BArr)) (n := M2.length) sl_98 rfl rfl (fun w h => (h.own 2 rfl)) rfl) rfl rfl fun a170 h170 => wms 1 h170 rfl fun a171 h171 => wpList_nil <| hK167 _ _ <| wp_block <| x_loop (fun m a w => ∃ (i5 : Nat) (N : List (Ls Int)), (i5 ≤ regs.toNat) ∧ (N.length = regs.toNat) ∧ (∀ a, a < i5 → (nth N a).l = listB (nth M2 a).l) ∧ St 110 (fun _ => False) W a w [(1, .pointer (some ⟨b3, 0, none⟩)), (3, .pointer (some ⟨b5, 0, none⟩)), (5, vo), (8, v39), (17, v164), (26, code.v), (27, .int .i64 ((code.l.length : Nat) : Int)), (28, .int .i64 ((t : Nat) : Int)), (89, .int .i64 ((M2.length : Nat) : Int)), (90, .int .i64 ((i5 : Nat) : Int))] [.big (matX .hold 23 v164 N), .own 101 (⟨s43.v, liveA (f t) (nth code.l t).l.length⟩ : Ls BArr), .own 101 (⟨v39, M2⟩ : Ls BArr), .blk b10 28 [.int .i64 ((checkG (pgOf code words locks regs)).code), .int .i64 ((checkG (pgOf code words locks regs)).thread), .int .i64 ((checkG (pgOf code words locks regs)).at_)], .blk b5 28 [.int .i64 0, .int .i64 0, .int .i64 0], .blk b3 25 [code.v, words.v, .int .i64 locks, .int .i64 regs], .at_ code, .at_ words, .deep 35 (⟨vo, os⟩ : Ls (Ls (Ls Int)))] ∧ m = regs.toNat - i5) ⟨_, 0, List.replicate regs.toNat (⟨.slice none 0 0, []⟩ : Ls Int), (by omega), (List.length_replicate), (fun a ha => absurd ha (by omega)), h171.nrm ⟨rfl, rfl, rfl, rfl, rfl, rfl, rfl, rfl, rfl, rfl, trivial⟩ [0, 1, 2, 3, 4, 5, 6, 7, 8] (by decide) ⟨rfl, rfl, rfl, rfl, rfl, rfl, rfl, rfl, rfl, trivial⟩, rfl⟩ ?_; clear h168 h170
  clear h171
  rintro m172 a172 w172 ⟨i5, N, hi5, hN, hn5, h172, hm172⟩
  refine wp_seq_k fun K173 hK173 => wp_region_lit <| wv h172 (r_lssN (p := i5) (q := M2.length) rfl rfl rfl) rfl rfl fun a174 h174 => wpList_nil <| hK173 _ _ <| wp_seq_k fun K175 hK175 => x_cond h174 rfl (fun hb176 => ?_) (fun hb176 => ?_); clear h172
  ·have hp176 : i5 < M2.length := of_decide_eq_true hb176
   refine wp_skip <| hK175 _ _ <| wp_seq_k fun K177 hK177 => wp_block <| wp_seq_k fun K178 hK178 => wp_region_lit <| wms 2 h174 rfl fun a179 h179 => wpList_nil <| hK178 _ _ <| wp_region_lit <| wms 4 h179 rfl fun a180 h180 => wv h180 (r_ixN (s := (⟨v39, M2⟩ : Ls BArr)) (q := i5) sl_98 ti_101 rfl rfl rfl (fun w h => (h.own 2 rfl)) (show i5 < M2.length from (by omega))) rfl rfl fun a181 h181 => wv h181 (r_ldewAr (n := 0) (i := i5) (s := (⟨v39, M2⟩ : Ls BArr)) ti_101 rfl rfl (fun w h => (h.own 2 rfl)) (show i5 < M2.length from (by omega))) rfl rfl fun a182 h182 => wl_ex (x_call h182 bd_133 rfl rfl rfl rfl rfl (list_ls (list_c ((nth M2 i5).l) _ (hw2 _ (by omega))))) (wanted_none rfl _) ?_; clear h174 h179 h180 h181
   rintro a183 w183 ⟨_, ⟨s183, rfl, hs183⟩, hf183⟩
   have h183 := (⟨hf183, h182.sh.call hs183 (by intro A hA b hb; first | (simp at hA; done) | (simp at hA; subst hA; first | exact Flat.noRd hb | exact barr_noRd hb | exact (hb : False).elim))⟩ : St 110 (fun _ => False) W a183 w183 _ _)
   clear hf183 hs183
   clear h182
   refine wl_ex (x_call h183 bd_132 rfl rfl rfl rfl rfl (clip_c (⟨s183.v, listB ((nth M2 i5).l)⟩ : Ls Int) _ (h183.sh.own 0 rfl))) (wanted_none rfl _) ?_
   rintro a184 w184 ⟨_, ⟨rfl, hs184⟩, hf184⟩
   have h184 : St 110 (fun _ => False) W a184 w184 _ _ := ⟨hf184, h183.sh.call0 hs184⟩
   clear hf184 hs184
   clear h183
   refine wv h184 (r_ixN (s := (⟨v164, rvs N⟩ : Ls RV)) (q := i5) sl_35 ti_23 rfl rfl rfl (fun w h => (h.matAt 1 rfl)) (by rw [rvs_len]; exact (show i5 < N.length from (by omega)))) rfl rfl fun a185 h185 => ?_; clear h184
   have ha186 := (clip_at (h185.sh.own 0 rfl))
   have h187 : St 110 (fun _ => False) W a185 w184 _ _ := ⟨h185.fr, h185.sh.toHoldClip⟩
   clear h185
   have h188 := h187.sel (L' := [.big (matX .hold 23 v164 N), .hold (⟨vclip s183.v, listB ((nth M2 i5).l)⟩ : Ls Int), .own 101 (⟨s43.v, liveA (f t) (nth code.l t).l.length⟩ : Ls BArr), .own 101 (⟨v39, M2⟩ : Ls BArr), .blk b10 28 [.int .i64 ((checkG (pgOf code words locks regs)).code), .int .i64 ((checkG (pgOf code words locks regs)).thread), .int .i64 ((checkG (pgOf code words locks regs)).at_)], .blk b5 28 [.int .i64 0, .int .i64 0, .int .i64 0], .blk b3 25 [code.v, words.v, .int .i64 locks, .int .i64 regs], .at_ code, .at_ words, .deep 35 (⟨vo, os⟩ : Ls (Ls (Ls Int)))]) [1, 0, 2, 3, 4, 5, 6, 7, 8, 9] (by decide) ⟨rfl, rfl, rfl, rfl, rfl, rfl, rfl, rfl, rfl, rfl, trivial⟩
   refine wl_ex (x_stMat (i := i5) (s := (⟨vclip s183.v, listB ((nth M2 i5).l)⟩ : Ls Int)) h188 ti_23 rfl rfl rfl rfl (show i5 < N.length from (by omega)) ha186) (wanted_none rfl _) ?_
   rintro a189 w189 h189
   clear h188
   refine wpList_nil <| hK177 _ _ <| wp_region_lit <| wv h189 (r_addN (p := i5) (q := 1) rfl rfl rfl (show i5 + 1 < 9223372036854775808 from (by omega))) rfl rfl fun a190 h190 => wms 1 h190 rfl fun a191 h191 => wpList_nil <| x_again ⟨_, ?_, i5 + 1, N.set i5 (⟨vclip s183.v, listB ((nth M2 i5).l)⟩ : Ls Int), ?_, ?_, ?_, h191.nrm ⟨rfl, rfl, rfl, rfl, rfl, rfl, rfl, rfl, rfl, rfl, trivial⟩ [0, 1, 2, 3, 4, 5, 6, 7, 8] (by decide) ⟨rfl, rfl, rfl, rfl, rfl, rfl, rfl, rfl, rfl, trivial⟩, rfl⟩; clear h189 h190
   · rw [hm172]; first | omega | (simp only [lens9]; omega)
   · omega
   · rw [List.length_set]; exact hN
   · intro a ha; rw [nth_set]; split; (rename_i h9; rw [h9.1]); (rename_i h9; exact hn5 a (by omega))
  have hp176 : ¬ (i5 < M2.length) := of_decide_eq_false hb176
  refine wp_exit <| hK166 _ _ ?_
  have h192 : St 110 (fun _ => False) W a174 w172 _ _ := ⟨h174.fr, h174.sh.matDeep hold_mat⟩
  clear h174
  have hN2 : N.map (·.l) = clashL (nth code.l t).l (f t) regs.toNat := rowsI_eq hN fun a ha => by rw [hn5 a (by omega)]; congr 1; exact eq_mapR (hw2 a (by omega)) fun b hb => by rw [← show k = (nth code.l t).l.length by omega]; exact hv2 a b ha hb
  refine wp_region_lit <| wms 2 h192 rfl fun a193 h193 => wl_ex (x_litD (E := 0) (x := (⟨v164, N⟩ : Ls (Ls Int))) h193 sl_131 ti_35 rfl rfl rfl ((h193.sh.deep 0 rfl)) (fun b hb => by rcases hb with ⟨h0, rfl⟩ | hb; exact .inl (own_blk h0 (h193.sh.ok _ (List.mem_of_getElem? (i := 0) rfl)).1); exact .inr hb) (fun b hb => hb) rfl rfl) (wanted_none rfl _) ?_; clear h192
  rintro a194 w194 ⟨v194, h194⟩; clear h193
  have h195 := h194.sel (L' := [.deep 35 (⟨vo, os⟩ : Ls (Ls (Ls Int))), .deep 35 (⟨v194, [(⟨v164, N⟩ : Ls (Ls Int))]⟩ : Ls (Ls (Ls Int))), .own 101 (⟨s43.v, liveA (f t) (nth code.l t).l.length⟩ : Ls BArr), .own 101 (⟨v39, M2⟩ : Ls BArr), .blk b10 28 [.int .i64 ((checkG (pgOf code words locks regs)).code), .int .i64 ((checkG (pgOf code words locks regs)).thread), .int .i64 ((checkG (pgOf code words locks regs)).at_)], .blk b5 28 [.int .i64 0, .int .i64 0, .int .i64 0], .blk b3 25 [code.v, words.v, .int .i64 locks, .int .i64 regs], .at_ code, .at_ words]) [8, 0, 1, 2, 3, 4, 5, 6, 7] (by decide) ⟨rfl, rfl, rfl, rfl, rfl, rfl, rfl, rfl, rfl, trivial⟩
  refine wl_ex (x_appD (s := (⟨vo, os⟩ : Ls (Ls (Ls Int)))) (m := (⟨v194, [(⟨v164, N⟩ : Ls (Ls Int))]⟩ : Ls (Ls (Ls Int)))) h195 sl_131 ti_35 rfl rfl rfl rfl rfl rfl rfl inferInstance (show (os.length + ([(⟨v164, N⟩ : Ls (Ls Int))]).length) * 24 ≤ 140737488355328 ∧ os.length + ([(⟨v164, N⟩ : Ls (Ls Int))]).length ≤ 140737488355328 from (by first | omega | (simp only [lens9]; omega))) rfl rfl) (wanted_none rfl _) ?_
  rintro a196 w196 ⟨v196, h196⟩; clear h195
  refine wms 1 h196 rfl fun a197 h197 => wpList_nil <| hK31 _ _ <| wp_region_lit <| wv h197 (r_addN (p := t) (q := 1) rfl rfl rfl (show t + 1 < 9223372036854775808 from (by omega))) rfl rfl fun a198 h198 => wms 1 h198 rfl fun a199 h199 => wpList_nil <| x_again ⟨_, ?_, t + 1, os ++ ([(⟨v164, N⟩ : Ls (Ls Int))]), v196, ?_, ?_, ?_, h199.nrm ⟨rfl, rfl, rfl, rfl, rfl, rfl, trivial⟩ [3, 4, 5, 6, 7, 0] (by decide) ⟨rfl, rfl, rfl, rfl, rfl, rfl, trivial⟩, rfl⟩; clear h196 h197 h198
  · rw [hm25]; first | omega | (simp only [lens9]; omega)
  · omega
  · rw [List.map_append, hos, List.range_succ, List.map_append]; congr 1; show [N.map (·.l)] = [_]; rw [hN2]
  · simp [hol]
 have hp30 : ¬ (t < code.l.length) := of_decide_eq_false hb30
 refine wp_exit <| hK18 _ _ <| wp_seq_k fun K200 hK200 => wp_region_lit <| wms 1 h28 rfl fun a201 h201 => wv h201 (r_build (cs := [.int .i64 0, .int .i64 0, .int .i64 0]) rfl rfl (by kernel_rfl)) rfl rfl fun a202 h202 => wms 1 h202 rfl fun a203 h203 => wl_ex (x_stb (i := 1) (vs := [.int .i64 0, .int .i64 0, .int .i64 0]) (cs' := [.int .i64 0, .int .i64 0, .int .i64 0]) h203 ti_28 rfl rfl rfl rfl rfl rfl rfl (allOne_cons rfl (allOne_cons rfl (allOne_cons rfl allOne_nil))) (Nat.le_of_ble_eq_true rfl) rfl) (wanted_none rfl _) ?_; clear h28 h201 h202
 rintro a204 w204 h204
 clear h203
 refine wpList_nil <| hK200 _ _ <| wp_ret ?_
 try simp only [Exit.then, Exit.inBlock]
 refine x_rettc (fn := Try.f83) (t := 3) (u := 2) (i := 1) ti_28 rfl h204 rfl rfl rfl rfl <| ⟨⟨vo, os⟩, rfl, ?_, (h204.sh.sel (L' := [.deep 35 (⟨vo, os⟩ : Ls (Ls (Ls Int)))]) [5] (by decide) ⟨rfl, trivial⟩)⟩
 show os.map _ = _
 rw [hos, show t = code.l.length by omega]

end Go.Proofs.Ytfpaahkleienoaa
