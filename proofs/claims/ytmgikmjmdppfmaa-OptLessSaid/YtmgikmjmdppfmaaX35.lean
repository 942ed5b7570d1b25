/-
  Contracts of functions of this program and of the references, each walked once.
-/
import Derived.Test.YtmgikmjmdppfmaaX33
namespace Go.Proofs.Ytmgikmjmdppfmaa
open Go.RowKit
set_option linter.unusedSimpArgs false
set_option linter.unusedVariables false
set_option maxRecDepth 100000
set_option maxHeartbeats 4000000


theorem fit114 {p : Pg} {size : Int} {x : Ins} {k : Nat} (h : okNumG p size x k = true) (hk : kAt (kindsB x.op) k = 114) : 0 ≤ x.num k ∧ x.num k < p.regs := by
  unfold okNumG at h
  unfold kAt at hk
  split at h
  · rename_i hlt
    rw [dif_pos hlt] at hk
    rw [hk] at h
    unfold fitsG at h
    simp only [Int.reduceEq, if_false, if_true, Bool.and_eq_true, decide_eq_true_eq] at h
    exact h
  · rename_i hlt
    rw [dif_neg hlt] at hk
    cases hk
theorem kAt_a (op : Int) (h : 1 ≤ op ∧ op ≤ 18) (h2 : op ≤ 8 ∨ op = 10) (h3 : op ≠ 9) : kAt (kindsB op) 0 = 114 := by
  rcases cases18 op h with h | h | h | h | h | h | h | h | h | h | h | h | h | h | h | h | h | h <;> subst h <;> first | decide +kernel | (exfalso; omega)
theorem kAt_b : kAt (kindsB 13) 1 = 114 := by decide +kernel
theorem okV_ins {p : Pg} {size : Int} {x : Ins} (hr : 1 ≤ p.regs) (h : OkIns p size x) : (1 ≤ x.op ∧ x.op ≤ 18) ∧ (x.op ≤ 8 ∨ x.op = 10 → 0 ≤ x.a) ∧ (-1 ≤ wrG x ∧ wrG x < p.regs) ∧ ∀ v ∈ rdG x, 0 ≤ v ∧ v < p.regs := by
  have ha : x.op ≤ 8 ∨ x.op = 10 → 0 ≤ x.a ∧ x.a < p.regs := fun e => fit114 (k := 0) h.n0 (kAt_a _ h.op e (by omega))
  refine ⟨h.op, fun e => (ha e).1, ?_, fun v hv => ?_⟩
  · unfold wrG
    split
    · rename_i e
      have := fit114 (k := 1) h.n1 (by rw [e]; exact kAt_b)
      have e2 : x.num 1 = x.b := rfl
      omega
    · split
      · rename_i e; have := ha (by omega); omega
      · omega
  · rw [← rdTo_all x h.op fun e => (ha e).1] at hv
    unfold rdTo at hv
    obtain ⟨k, hk, hv⟩ := List.mem_flatMap.1 hv
    split at hv
    · rename_i hd
      have hv : v = nth [x.a, x.b, x.c] k := by simpa using hv
      subst hv
      have hk3 : k < 3 := by have := (kinds_small x.op).1; have := List.mem_range.1 hk; omega
      unfold rdK at hd
      have hd := of_decide_eq_true ((Bool.and_eq_true _ _).mp hd).1
      rcases (by omega : k = 0 ∨ k = 1 ∨ k = 2) with rfl | rfl | rfl
      · exact fit114 (k := 0) h.n0 hd
      · exact fit114 (k := 1) h.n1 hd
      · exact fit114 (k := 2) h.n2 hd
    · cases hv
theorem okV_of {code : Ls (Ls Ins)} {words : Ls Int} {locks regs : Int} (h : OkPg (pgOf code words locks regs)) (t : Nat) (ht : t < code.l.length) : OkV (nth code.l t).l regs := by
  intro i hi
  have ht2 : t < (pgOf code words locks regs).code.length := by show t < (code.l.map (·.l)).length; simpa using ht
  have e : nth (pgOf code words locks regs).code t = (nth code.l t).l := nth_map' _ _ _ ht
  have := okV_ins h.regs.1 (h.ins t i ht2 (by rw [e]; exact hi))
  rw [e] at this
  exact this

theorem sets_c (x : Ls Ins) (rg : Int) (f : Nat → Nat → Bool) (W : World) (hx : x.At W) (hl : x.l.length ≤ 5000) (hj : JumpsOK x.l) (hok : OkV x.l rg) (hf : ∀ r j, (f r j = true ↔ LiveI x.l r j)) (hrg : 0 ≤ rg ∧ rg ≤ 200) :
    Rets Try.prog 24 [x.v] W (fun v w' => ∃ s : Ls BArr, v = s.v ∧ s.l = liveA f x.l.length ∧ Sh0 W w' [.own 55 s]) := by
 refine gen Try.func24 Try.ntmps24 (Sh0.ext1 hx : Sh (fun _ => False) W W [.at_ x]) rfl fun a10 h10 => gG h10<|sG (oM 1 rfl<|.nl)<|sK fun _ k12 => gNl (aA 0 rfl) fun hl13 => gRn (oM 1 rfl<|oln sl_45 (aA 0 rfl) rfl<|oadN _ 1 om9 rfl<|.nl)<|gE1 (fun _ _ h_ => x_makeAr (n := x.l.length + 1) h_ sl_52 ti_55 (by kernel_rfl) rfl rfl rfl (show 200 * (x.l.length + 1) ≤ 140737488355328 ∧ x.l.length + 1 ≤ 140737488355328 from om9) rfl rfl) rfl fun v14 => gRn (oM 1 rfl<|.nl)<|nK k12<|gK fun _ k15 => sG (oM 1 rfl<|.nl)<|gB<|fun a18 w18 h18 => x_loop (fun m a w => ∃ (a1 : List BArr) (ag : Bool), (AI x.l a1) ∧ (ag = false → ∀ i, i < x.l.length → ClA x.l a1 i) ∧ St 85 (fun _ => False) W a w [(0, x.v), (3, v14), (4, .bool ag)] [.own 55 (⟨v14, a1⟩ : Ls BArr), .at_ x] ∧ m = (bif ag then 1 else 0) + 2 * (200 * (x.l.length + 1) - cntA a1)) ⟨_, List.replicate (x.l.length + 1) ⟨List.replicate 200 false⟩, true, (AI.start x.l), (fun h => by cases h), h18.nf ⟨rfl, rfl, rfl, trivial⟩, rfl⟩ ?_; clear h10
 clear h18
 rintro m17 a17 w17 ⟨a1, ag, hai, hcl, h17, hm17⟩
 have hd1 := hai.l1
 refine gG h17<|gK fun _ k19 => sG (oM 1 rfl<|.nl)<|?_; clear h17
 refine gCb rfl (fun hb21 => ?_) fun hb21 => ?_
 ·skip
  refine gS<|hK k19<|gB<|sG (oM 1 rfl<|.nl)<|sG (oM 1 rfl<|oln sl_45 (aA 1 rfl) rfl<|osbI _ _ om9 rfl<|oM 1 rfl<|.nl)<|gB<|fun a25 w25 h25 => x_loop (fun m a w => ∃ (k : Nat) (a2 : List BArr) (ag2 : Bool), (k ≤ x.l.length) ∧ (AI x.l a2) ∧ (ag2 = false → a2 = a1 ∧ ∀ i, k ≤ i → i < x.l.length → ClA x.l a2 i) ∧ (ag2 = true → cntA a1 < cntA a2) ∧ St 85 (fun _ => False) W a w [(0, x.v), (3, v14), (4, .bool ag2), (5, .int .i64 (((k : Nat) : Int) - 1))] [.own 55 (⟨v14, a2⟩ : Ls BArr), .at_ x] ∧ m = k) ⟨_, x.l.length, a1, false, (by omega), (hai), (fun _ => ⟨rfl, fun i hi hi2 => absurd hi (by omega)⟩), (fun h => by cases h), h25.nf ⟨rfl, rfl, rfl, rfl, trivial⟩, rfl⟩ ?_
  clear h25
  rintro m24 a24 w24 ⟨k, a2, ag2, hk, hai2, h20, h21, h24, hm24⟩
  have hd3 := hai2.l1
  refine gG h24<|gK fun _ k26 => sG (oM 1 rfl<|ogeI _ _ rfl<|.nl)<|?_; clear h24
  refine gcd rfl (fun hb28 hp28 => ?_) fun hb28 hp28 => ?_
  ·skip
   obtain ⟨j, rfl⟩ : ∃ j, k = j + 1 := ⟨k - 1, by omega⟩
   intro a30 w30 h30
   have h29 : St 85 (fun _ => False) W a30 w30 [(0, x.v), (3, v14), (4, .bool ag2), (5, .int .i64 ((j : Nat) : Int)), (22, .int .i64 ((j : Nat) : Int))] [.own 55 (⟨v14, a2⟩ : Ls BArr), .at_ x] := (h30.sub (F' := [(0, x.v), (3, v14), (4, .bool ag2), (5, .int .i64 (((j + 1 : Nat) : Int) - 1)), (22, .int .i64 (((j + 1 : Nat) : Int) - 1))]) ⟨rfl, rfl, rfl, rfl, rfl, trivial⟩).cg (by simp only [show (((j + 1 : Nat) : Int) - 1) = ((j : Nat) : Int) by omega])
   clear h30
   refine gG h29<|gS<|hK k26<|gK fun _ k31 => gB<|sK fun _ k32 => gE1 (fun _ _ h_ => x_allocAr (k := 200) h_ ti_55 (by kernel_rfl) rfl rfl rfl) rfl fun b33 => nK k32<|gK fun _ k34 => sK fun _ k35 => gRn (oM 2 rfl<|.nl)<|gC (fun _ _ h_ => xCl h_ bd_43 rfl (nexts_c x j _ (h_.sh.at 2 rfl) (by omega) (by omega))) rfl<|?_; clear h29
   rintro _ _ w36 ⟨s36, rfl, hs36⟩
   refine gWk hs36 rfl<|gU<|gNl (aO 0 rfl) fun (hl37 : (nextsL x.l j).length ≤ 140737488355328) => gRn (oln (n := (nextsL x.l j).length) sl_23 (aO 0 rfl) rfl<|oM 1 rfl<|.nl)<|nK k35<|gB<|?_; clear hs36
   have hnl9 := nextsV_len x.l j
   intro a39 w39 h39
   refine x_loop (fun m a w => ∃ (q : Nat) (nw : List Bool), (q ≤ (nextsL x.l j).length) ∧ (nw.length = 200) ∧ (∀ b, b < 200 → nth nw b = ((nextsL x.l j).take q).any fun y => col a2 b y.toNat) ∧ St 85 (fun _ => False) W a w [(0, x.v), (3, v14), (4, .bool ag2), (5, .int .i64 ((j : Nat) : Int)), (6, .pointer (some ⟨b33, 0, none⟩)), (28, s36.v), (29, .int .i64 (((nextsL x.l j).length : Nat) : Int)), (30, .int .i64 ((q : Nat) : Int))] [.own 3 (⟨s36.v, nextsL x.l j⟩ : Ls Int), .blk b33 55 (nw.map Value.bool), .own 55 (⟨v14, a2⟩ : Ls BArr), .at_ x] ∧ m = (nextsL x.l j).length - q) ⟨_, 0, List.replicate 200 false, (by omega), (List.length_replicate), (fun b _ => by rw [zerosV, any_zero]), h39.nf ⟨rfl, rfl, rfl, rfl, rfl, rfl, rfl, rfl, trivial⟩, rfl⟩ ?_
   clear h39
   rintro m38 a38 w38 ⟨q, nw, hq, hnl, hnw, h38, hm38⟩
   refine gG h38<|sG (oltN _ _ rfl<|.nl)<|gK fun _ k41 => gcd rfl (fun hb42 hp42 => ?_) fun hb42 hp42 => ?_; clear h38
   ·skip
    refine gS<|hK k41<|gK fun _ k43 => gB<|sG (oxN sl_23 ti_3 (aO 0 rfl) _ om9 rfl<|olE (.int .i64 (nth (nextsL x.l j) q)) ti_3 (aO 0 rfl) om9 rfl<|oM 1 rfl<|.nl)<|?_
    have hmm : nth (nextsL x.l j) q ∈ nextsL x.l j := nth_mem _ _ (by omega)
    have hnx := nextsV_ok hj (by omega) hmm
    have hA2 : (nth a2 (nth (nextsL x.l j) q).toNat).l.length = 200 := hai2.l2 _ (by omega)
    refine sK fun _ k45 => gNl (aO 2 rfl) fun (hl46 : a2.length ≤ 140737488355328) => gRn (oM 2 rfl<|oxI sl_52 ti_55 (aO 2 rfl) om9 rfl<|oV (r_ldewAr (n := 0) (i := (nth (nextsL x.l j) q).toNat) (s := (⟨v14, a2⟩ : Ls BArr)) ti_55 rfl rfl (fun w h => (h.own 2 rfl)) (show (nth (nextsL x.l j) q).toNat < a2.length from om9)) rfl<|oM 1 rfl<|.nl)<|nK k45<|gB<|fun a48 w48 h48 => x_loop (fun m a w => ∃ (r : Nat) (nw2 : List Bool), (r ≤ 200) ∧ (nw2.length = 200) ∧ (∀ b, b < 200 → nth nw2 b = (nth nw b || (decide (b < r) && nth (nth a2 (nth (nextsL x.l j) q).toNat).l b))) ∧ St 85 (fun _ => False) W a w [(0, x.v), (3, v14), (4, .bool ag2), (5, .int .i64 ((j : Nat) : Int)), (6, .pointer (some ⟨b33, 0, none⟩)), (28, s36.v), (29, .int .i64 (((nextsL x.l j).length : Nat) : Int)), (30, .int .i64 ((q : Nat) : Int)), (37, .agg (((nth a2 ((nth (nextsL x.l j) q).toNat)).l).map Value.bool).toArray), (38, .int .i64 ((r : Nat) : Int))] [.own 3 (⟨s36.v, nextsL x.l j⟩ : Ls Int), .blk b33 55 (nw2.map Value.bool), .own 55 (⟨v14, a2⟩ : Ls BArr), .at_ x] ∧ m = 200 - r) ⟨_, 0, nw, (by omega), (hnl), (or_zero), h48.nf ⟨rfl, rfl, rfl, rfl, rfl, rfl, rfl, rfl, rfl, rfl, trivial⟩, rfl⟩ ?_
    clear h48
    rintro m47 a47 w47 ⟨r, nw2, hr, hnl2, hnw2, h47, hm47⟩
    refine gG h47<|sG (oltN _ 200 rfl<|.nl)<|gK fun _ k50 => gcd rfl (fun hb51 hp51 => ?_) fun hb51 hp51 => ?_; clear h47
    ·skip
     refine gS<|hK k50<|gK fun _ k52 => gB<|sG (oM 1 rfl<|oV (r_ixV (cs := ((nth a2 ((nth (nextsL x.l j) q).toNat)).l).map Value.bool) (q := r) ar_55 ti_4 rfl rfl rfl (show r < 200 from om9) (nth_bool (by rw [show ((nth a2 ((nth (nextsL x.l j) q).toNat)).l).length = 200 from (by first | assumption | (simp only [lens9]; done) | (simp only [lens9]; first | assumption | omega) | rfl)]; omega))) rfl<|oM 2 rfl<|.nl)<|gL<|gRn (oM 2 rfl<|oV (r_ixAr (q := r) ar_55 ti_4 rfl rfl rfl rfl (show r < 200 from om9)) rfl<|oV (r_ldAr (i := 1) (l := nw2) ti_4 rfl rfl rfl (show r < nw2.length from (by rw [show nw2.length = 200 from (by first | assumption | (simp only [lens9]; done) | (simp only [lens9]; first | assumption | omega) | rfl)]; omega))) rfl<|oM 1 rfl<|.nl)<|?_
     rcases Bool.eq_false_or_eq_true (nth nw2 r) with hb54 | hb54
     ·skip
      refine gRn (oK hb54 rfl<|opT hb54 rfl<|oV (r_ixAr (q := r) ar_55 ti_4 rfl rfl rfl rfl (show r < 200 from om9)) rfl<|.nl)<|gE (fun _ _ h_ => x_stAr (i := 1) (l := nw2) (b := true) h_ ti_4 rfl rfl rfl rfl rfl (show r < nw2.length from (by rw [show nw2.length = 200 from (by first | assumption | (simp only [lens9]; done) | (simp only [lens9]; first | assumption | omega) | rfl)]; omega))) rfl<|nK k52<|gL<|gRn (oadN _ 1 om9 rfl<|oM 1 rfl<|.nl)<|nN<|fun a56 w56 h56 => ?_
      refine x_again ⟨_, ?_, r + 1, nw2.set r true, ?_, ?_, ?_, h56.nf ⟨rfl, rfl, rfl, rfl, rfl, rfl, rfl, rfl, rfl, rfl, trivial⟩, rfl⟩
      · rw [hm47]; first | omega | (simp only [lens9]; omega)
      · omega
      · first | assumption | (simp only [List.length_set]; assumption)
      · first | exact or_step hnl2 (by omega) hnw2 (by rw [show nth nw2 r = true by assumption]; rfl) | exact or_step hnl2 (by omega) hnw2 (by rw [show nth nw2 r = false by assumption]; rfl)
     refine gRn (oG hb54 (r_move rfl rfl) rfl<|opF hb54 rfl<|oV (r_ixAr (q := r) ar_55 ti_4 rfl rfl rfl rfl (show r < 200 from om9)) rfl<|.nl)<|gE (fun _ _ h_ => x_stAr (i := 1) (l := nw2) (b := (nth ((nth a2 ((nth (nextsL x.l j) q).toNat)).l) r)) h_ ti_4 rfl rfl rfl rfl rfl (show r < nw2.length from (by rw [show nw2.length = 200 from (by first | assumption | (simp only [lens9]; done) | (simp only [lens9]; first | assumption | omega) | rfl)]; omega))) rfl<|nK k52<|gL<|gRn (oadN _ 1 om9 rfl<|oM 1 rfl<|.nl)<|nN<|fun a58 w58 h58 => ?_
     refine x_again ⟨_, ?_, r + 1, nw2.set r (nth ((nth a2 ((nth (nextsL x.l j) q).toNat)).l) r), ?_, ?_, ?_, h58.nf ⟨rfl, rfl, rfl, rfl, rfl, rfl, rfl, rfl, rfl, rfl, trivial⟩, rfl⟩
     · rw [hm47]; first | omega | (simp only [lens9]; omega)
     · omega
     · first | assumption | (simp only [List.length_set]; assumption)
     · first | exact or_step hnl2 (by omega) hnw2 (by rw [show nth nw2 r = true by assumption]; rfl) | exact or_step hnl2 (by omega) hnw2 (by rw [show nth nw2 r = false by assumption]; rfl)
    refine gX<|hK k43<|gL<|gRn (oadN _ 1 om9 rfl<|oM 1 rfl<|.nl)<|nN<|fun a59 w59 h59 => x_again ⟨_, ?_, q + 1, nw2, ?_, ?_, ?_, h59.nf ⟨rfl, rfl, rfl, rfl, rfl, rfl, rfl, rfl, trivial⟩, rfl⟩
    · rw [hm38]; first | omega | (simp only [lens9]; omega)
    · omega
    · exact hnl2
    · exact or_end (by omega) (by omega) hnw hnw2
   refine gX<|hK k34<|?_
   have hww := (hok j (by omega)).2.2.1
   refine gK fun _ k60 => sK fun _ k61 => gRn (oM 2 rfl<|oxN sl_45 ti_44 (aA 3 rfl) _ om9 rfl<|olw2 [.int .i64 ((nth x.l j).op), .int .i64 ((nth x.l j).a), .int .i64 ((nth x.l j).b), .int .i64 ((nth x.l j).c)] ti_44 (aA 3 rfl) om9 rfl<|.nl)<|gP (fun _ _ h_ => xCl h_ bd_44 rfl (writes_c (nth x.l j) _ (by have h8 := (hok j (by omega)).1; omega))) rfl<|gRn (oM 1 rfl<|.nl)<|nK k61<|sG (oM 1 rfl<|ogeI _ _ rfl<|.nl)<|gcd rfl (fun hb64 hp64 => ?_) fun hb64 hp64 => ?_
   ·skip
    refine gL<|gRn (oM 1 rfl<|oV (r_ixArI (q := wrG (nth x.l j)) ar_55 ti_4 rfl rfl rfl rfl (show 0 ≤ wrG (nth x.l j) ∧ wrG (nth x.l j) < 200 from om9)) rfl<|.nl)<|gE (fun _ _ h_ => x_stAr (i := 1) (l := nw) (b := false) h_ ti_4 rfl rfl rfl rfl rfl (show (wrG (nth x.l j)).toNat < nw.length from (by rw [show nw.length = 200 from (by first | assumption | (simp only [lens9]; done) | (simp only [lens9]; first | assumption | omega) | rfl)]; omega))) rfl<|nK k60<|gK fun _ k66 => sK fun _ k67 => gRn (oM 2 rfl<|oxN sl_45 ti_44 (aA 3 rfl) _ om9 rfl<|olw2 [.int .i64 ((nth x.l j).op), .int .i64 ((nth x.l j).a), .int .i64 ((nth x.l j).b), .int .i64 ((nth x.l j).c)] ti_44 (aA 3 rfl) om9 rfl<|.nl)<|gC (fun _ _ h_ => xCl h_ bd_45 rfl (reads_ls (reads_c (nth x.l j) _ (by have h8 := (hok j (by omega)).1; omega) (hok j (by omega)).2.1))) rfl<|?_
    rintro _ _ w68 ⟨s68, rfl, hs68⟩
    refine gWk hs68 rfl<|gU<|gNl (aO 0 rfl) fun (hl69 : (rdG (nth x.l j)).length ≤ 140737488355328) => gRn (oln (n := (rdG (nth x.l j)).length) sl_23 (aO 0 rfl) rfl<|oM 1 rfl<|.nl)<|nK k67<|gB<|?_; clear hs68
    have hrl := rdG_len (nth x.l j)
    have hall : ∀ b, b < 200 → nth nw b = (nextsL x.l j).any fun y => col a2 b y.toNat := fun b hb => by rw [hnw b hb, any_all (by omega)]
    intro a71 w71 h71
    refine x_loop (fun m a w => ∃ (q5 : Nat) (nw3 : List Bool), (q5 ≤ (rdG (nth x.l j)).length) ∧ (nw3.length = 200) ∧ (∀ b, b < 200 → nth nw3 b = ((decide (wrG (nth x.l j) ≠ (b : Int)) && (nextsL x.l j).any fun y => col a2 b y.toNat) || ((rdG (nth x.l j)).take q5).any fun v => decide (v = (b : Int)))) ∧ St 85 (fun _ => False) W a w [(0, x.v), (3, v14), (4, .bool ag2), (5, .int .i64 ((j : Nat) : Int)), (6, .pointer (some ⟨b33, 0, none⟩)), (65, s68.v), (66, .int .i64 (((rdG (nth x.l j)).length : Nat) : Int)), (67, .int .i64 ((q5 : Nat) : Int))] [.own 3 (⟨s68.v, rdG (nth x.l j)⟩ : Ls Int), .own 3 (⟨s36.v, nextsL x.l j⟩ : Ls Int), .blk b33 55 (nw3.map Value.bool), .own 55 (⟨v14, a2⟩ : Ls BArr), .at_ x] ∧ m = (rdG (nth x.l j)).length - q5) ⟨_, 0, nw.set ((wrG (nth x.l j)).toNat) false, (by omega), (by first | assumption | (simp only [List.length_set]; assumption)), (by first | exact wr_off hnl hall (by assumption) | exact wr_none hall (by assumption)), h71.nf ⟨rfl, rfl, rfl, rfl, rfl, rfl, rfl, rfl, trivial⟩, rfl⟩ ?_
    clear h71
    rintro m70 a70 w70 ⟨q5, nw3, hq5, hnl3, hnw3, h70, hm70⟩
    refine gG h70<|sG (oltN _ _ rfl<|.nl)<|gK fun _ k73 => gcd rfl (fun hb74 hp74 => ?_) fun hb74 hp74 => ?_; clear h70
    ·skip
     refine gS<|hK k73<|gK fun _ k75 => gB<|sG (oxN sl_23 ti_3 (aO 0 rfl) _ om9 rfl<|olE (.int .i64 (nth (rdG (nth x.l j)) q5)) ti_3 (aO 0 rfl) om9 rfl<|oM 1 rfl<|.nl)<|?_
     have hr5 := (hok j (by omega)).2.2.2 _ (nth_mem (rdG (nth x.l j)) q5 (by omega))
     refine gL<|gRn (oM 1 rfl<|oV (r_ixArI (q := nth (rdG (nth x.l j)) q5) ar_55 ti_4 rfl rfl rfl rfl (show 0 ≤ nth (rdG (nth x.l j)) q5 ∧ nth (rdG (nth x.l j)) q5 < 200 from om9)) rfl<|.nl)<|gE (fun _ _ h_ => x_stAr (i := 2) (l := nw3) (b := true) h_ ti_4 rfl rfl rfl rfl rfl (show (nth (rdG (nth x.l j)) q5).toNat < nw3.length from (by rw [show nw3.length = 200 from (by first | assumption | (simp only [lens9]; done) | (simp only [lens9]; first | assumption | omega) | rfl)]; omega))) rfl<|nK k75<|gL<|gRn (oadN _ 1 om9 rfl<|oM 1 rfl<|.nl)<|nN<|fun a78 w78 h78 => ?_
     refine x_again ⟨_, ?_, q5 + 1, nw3.set ((nth (rdG (nth x.l j)) q5).toNat) true, ?_, ?_, ?_, h78.nf ⟨rfl, rfl, rfl, rfl, rfl, rfl, rfl, rfl, trivial⟩, rfl⟩
     · rw [hm70]; first | omega | (simp only [lens9]; omega)
     · omega
     · first | assumption | (simp only [List.length_set]; assumption)
     · exact rd_step hnl3 (by omega) hr5.1 hnw3
    refine gX<|hK k66<|?_
    have hnow : NowIs x.l a2 j nw3 := now_is (by omega) hnw3
    have hA3 : (nth a2 j).l.length = 200 := hai2.l2 _ (by omega)
    refine gK fun _ k79 => gNl (aO 3 rfl) fun (hl80 : a2.length ≤ 140737488355328) => rQ (oV (r_ldwAr (i := 2) (l := nw3) ti_55 rfl rfl rfl (by first | assumption | (simp only [lens9]; done) | (simp only [lens9]; first | assumption | omega) | rfl)) rfl<|oM 2 rfl<|oxN sl_52 ti_55 (aO 3 rfl) _ om9 rfl<|oV (r_ldewAr (n := 0) (i := j) (s := (⟨v14, a2⟩ : Ls BArr)) ti_55 rfl rfl (fun w h => (h.own 3 rfl)) (show j < a2.length from om9)) rfl<|oV (r_neqAr (l := nw3) (m := ((nth a2 j).l)) ar_55 ti_4 Try.underlying4 (by kernel_rfl) rfl rfl rfl (by first | assumption | (simp only [lens9]; done) | (simp only [lens9]; first | assumption | omega) | rfl) (by first | assumption | (simp only [lens9]; done) | (simp only [lens9]; first | assumption | omega) | rfl)) rfl<|.nl)<|hK k79<|gcd rfl (fun hb81 hp81 => ?_) fun hb81 hp81 => ?_
    ·skip
     refine gL<|gRn (oM 2 rfl<|oV (r_ldwAr (i := 2) (l := nw3) ti_55 rfl rfl rfl (by first | assumption | (simp only [lens9]; done) | (simp only [lens9]; first | assumption | omega) | rfl)) rfl<|oxN sl_52 ti_55 (aO 3 rfl) _ om9 rfl<|.nl)<|gE (fun _ _ h_ => x_stewAr (r := 3) (i := j) (s := (⟨v14, a2⟩ : Ls BArr)) (l := nw3) h_ ti_55 rfl rfl rfl rfl (show j < a2.length from om9) (by first | assumption | (simp only [lens9]; done) | (simp only [lens9]; first | assumption | omega) | rfl) rfl) rfl<|gRn (oM 1 rfl<|.nl)<|nK k31<|gL<|gRn (oM 1 rfl<|osbI _ _ om9 rfl<|oM 1 rfl<|.nl)<|nN<|fun a83 w83 h83 => ?_
     refine x_again ⟨_, ?_, j, a2.set j ⟨nw3⟩, true, ?_, ?_, ?_, ?_, h83.nrm ⟨rfl, rfl, rfl, rfl, trivial⟩ [3, 4] rfl, rfl⟩
     · rw [hm24]; omega
     · omega
     · first | exact hai2 | exact hai2.set (by omega) hnl3 hnow
     · first | (intro h; cases h; done) | exact vr_same h20 (clA_same hnow (Classical.byContradiction fun h9 => absurd h9 (by assumption)))
     · first | exact h21 | (intro _; exact Nat.lt_of_le_of_lt (vr_le h20 (fun e => by rw [e]) h21) (hai2.grow (by omega) hnl3 hnow (by assumption)))
    refine gS<|hK k31<|gL<|gRn (oM 1 rfl<|osbI _ _ om9 rfl<|oM 1 rfl<|.nl)<|nN<|fun a84 w84 h84 => x_again ⟨_, ?_, j, a2, ag2, ?_, ?_, ?_, ?_, h84.nrm ⟨rfl, rfl, rfl, rfl, trivial⟩ [3, 4] rfl, rfl⟩
    · rw [hm24]; omega
    · omega
    · first | exact hai2 | exact hai2.set (by omega) hnl3 hnow
    · first | (intro h; cases h; done) | exact vr_same h20 (clA_same hnow (Classical.byContradiction fun h9 => absurd h9 (by assumption)))
    · first | exact h21 | (intro _; exact Nat.lt_of_le_of_lt (vr_le h20 (fun e => by rw [e]) h21) (hai2.grow (by omega) hnl3 hnow (by assumption)))
   refine gS<|hK k60<|gK fun _ k85 => sK fun _ k86 => gRn (oM 2 rfl<|oxN sl_45 ti_44 (aA 3 rfl) _ om9 rfl<|olw2 [.int .i64 ((nth x.l j).op), .int .i64 ((nth x.l j).a), .int .i64 ((nth x.l j).b), .int .i64 ((nth x.l j).c)] ti_44 (aA 3 rfl) om9 rfl<|.nl)<|gC (fun _ _ h_ => xCl h_ bd_45 rfl (reads_ls (reads_c (nth x.l j) _ (by have h8 := (hok j (by omega)).1; omega) (hok j (by omega)).2.1))) rfl<|?_
   rintro _ _ w87 ⟨s87, rfl, hs87⟩
   refine gWk hs87 rfl<|gU<|gNl (aO 0 rfl) fun (hl88 : (rdG (nth x.l j)).length ≤ 140737488355328) => gRn (oln (n := (rdG (nth x.l j)).length) sl_23 (aO 0 rfl) rfl<|oM 1 rfl<|.nl)<|nK k86<|gB<|?_; clear hs87
   have hrl := rdG_len (nth x.l j)
   have hall : ∀ b, b < 200 → nth nw b = (nextsL x.l j).any fun y => col a2 b y.toNat := fun b hb => by rw [hnw b hb, any_all (by omega)]
   intro a90 w90 h90
   refine x_loop (fun m a w => ∃ (q5 : Nat) (nw3 : List Bool), (q5 ≤ (rdG (nth x.l j)).length) ∧ (nw3.length = 200) ∧ (∀ b, b < 200 → nth nw3 b = ((decide (wrG (nth x.l j) ≠ (b : Int)) && (nextsL x.l j).any fun y => col a2 b y.toNat) || ((rdG (nth x.l j)).take q5).any fun v => decide (v = (b : Int)))) ∧ St 85 (fun _ => False) W a w [(0, x.v), (3, v14), (4, .bool ag2), (5, .int .i64 ((j : Nat) : Int)), (6, .pointer (some ⟨b33, 0, none⟩)), (65, s87.v), (66, .int .i64 (((rdG (nth x.l j)).length : Nat) : Int)), (67, .int .i64 ((q5 : Nat) : Int))] [.own 3 (⟨s87.v, rdG (nth x.l j)⟩ : Ls Int), .own 3 (⟨s36.v, nextsL x.l j⟩ : Ls Int), .blk b33 55 (nw3.map Value.bool), .own 55 (⟨v14, a2⟩ : Ls BArr), .at_ x] ∧ m = (rdG (nth x.l j)).length - q5) ⟨_, 0, nw, (by omega), (by first | assumption | (simp only [List.length_set]; assumption)), (by first | exact wr_off hnl hall (by assumption) | exact wr_none hall (by assumption)), h90.nf ⟨rfl, rfl, rfl, rfl, rfl, rfl, rfl, rfl, trivial⟩, rfl⟩ ?_
   clear h90
   rintro m89 a89 w89 ⟨q5, nw3, hq5, hnl3, hnw3, h89, hm89⟩
   refine gG h89<|sG (oltN _ _ rfl<|.nl)<|gK fun _ k92 => gcd rfl (fun hb93 hp93 => ?_) fun hb93 hp93 => ?_; clear h89
   ·skip
    refine gS<|hK k92<|gK fun _ k94 => gB<|sG (oxN sl_23 ti_3 (aO 0 rfl) _ om9 rfl<|olE (.int .i64 (nth (rdG (nth x.l j)) q5)) ti_3 (aO 0 rfl) om9 rfl<|oM 1 rfl<|.nl)<|?_
    have hr5 := (hok j (by omega)).2.2.2 _ (nth_mem (rdG (nth x.l j)) q5 (by omega))
    refine gL<|gRn (oM 1 rfl<|oV (r_ixArI (q := nth (rdG (nth x.l j)) q5) ar_55 ti_4 rfl rfl rfl rfl (show 0 ≤ nth (rdG (nth x.l j)) q5 ∧ nth (rdG (nth x.l j)) q5 < 200 from om9)) rfl<|.nl)<|gE (fun _ _ h_ => x_stAr (i := 2) (l := nw3) (b := true) h_ ti_4 rfl rfl rfl rfl rfl (show (nth (rdG (nth x.l j)) q5).toNat < nw3.length from (by rw [show nw3.length = 200 from (by first | assumption | (simp only [lens9]; done) | (simp only [lens9]; first | assumption | omega) | rfl)]; omega))) rfl<|nK k94<|gL<|gRn (oadN _ 1 om9 rfl<|oM 1 rfl<|.nl)<|nN<|fun a97 w97 h97 => ?_
    refine x_again ⟨_, ?_, q5 + 1, nw3.set ((nth (rdG (nth x.l j)) q5).toNat) true, ?_, ?_, ?_, h97.nf ⟨rfl, rfl, rfl, rfl, rfl, rfl, rfl, rfl, trivial⟩, rfl⟩
    · rw [hm89]; first | omega | (simp only [lens9]; omega)
    · omega
    · first | assumption | (simp only [List.length_set]; assumption)
    · exact rd_step hnl3 (by omega) hr5.1 hnw3
   refine gX<|hK k85<|?_
   have hnow : NowIs x.l a2 j nw3 := now_is (by omega) hnw3
   have hA3 : (nth a2 j).l.length = 200 := hai2.l2 _ (by omega)
   refine gK fun _ k98 => gNl (aO 3 rfl) fun (hl99 : a2.length ≤ 140737488355328) => rQ (oV (r_ldwAr (i := 2) (l := nw3) ti_55 rfl rfl rfl (by first | assumption | (simp only [lens9]; done) | (simp only [lens9]; first | assumption | omega) | rfl)) rfl<|oM 2 rfl<|oxN sl_52 ti_55 (aO 3 rfl) _ om9 rfl<|oV (r_ldewAr (n := 0) (i := j) (s := (⟨v14, a2⟩ : Ls BArr)) ti_55 rfl rfl (fun w h => (h.own 3 rfl)) (show j < a2.length from om9)) rfl<|oV (r_neqAr (l := nw3) (m := ((nth a2 j).l)) ar_55 ti_4 Try.underlying4 (by kernel_rfl) rfl rfl rfl (by first | assumption | (simp only [lens9]; done) | (simp only [lens9]; first | assumption | omega) | rfl) (by first | assumption | (simp only [lens9]; done) | (simp only [lens9]; first | assumption | omega) | rfl)) rfl<|.nl)<|hK k98<|gcd rfl (fun hb100 hp100 => ?_) fun hb100 hp100 => ?_
   ·skip
    refine gL<|gRn (oM 2 rfl<|oV (r_ldwAr (i := 2) (l := nw3) ti_55 rfl rfl rfl (by first | assumption | (simp only [lens9]; done) | (simp only [lens9]; first | assumption | omega) | rfl)) rfl<|oxN sl_52 ti_55 (aO 3 rfl) _ om9 rfl<|.nl)<|gE (fun _ _ h_ => x_stewAr (r := 3) (i := j) (s := (⟨v14, a2⟩ : Ls BArr)) (l := nw3) h_ ti_55 rfl rfl rfl rfl (show j < a2.length from om9) (by first | assumption | (simp only [lens9]; done) | (simp only [lens9]; first | assumption | omega) | rfl) rfl) rfl<|gRn (oM 1 rfl<|.nl)<|nK k31<|gL<|gRn (oM 1 rfl<|osbI _ _ om9 rfl<|oM 1 rfl<|.nl)<|nN<|fun a102 w102 h102 => ?_
    refine x_again ⟨_, ?_, j, a2.set j ⟨nw3⟩, true, ?_, ?_, ?_, ?_, h102.nrm ⟨rfl, rfl, rfl, rfl, trivial⟩ [3, 4] rfl, rfl⟩
    · rw [hm24]; omega
    · omega
    · first | exact hai2 | exact hai2.set (by omega) hnl3 hnow
    · first | (intro h; cases h; done) | exact vr_same h20 (clA_same hnow (Classical.byContradiction fun h9 => absurd h9 (by assumption)))
    · first | exact h21 | (intro _; exact Nat.lt_of_le_of_lt (vr_le h20 (fun e => by rw [e]) h21) (hai2.grow (by omega) hnl3 hnow (by assumption)))
   refine gS<|hK k31<|gL<|gRn (oM 1 rfl<|osbI _ _ om9 rfl<|oM 1 rfl<|.nl)<|nN<|fun a103 w103 h103 => x_again ⟨_, ?_, j, a2, ag2, ?_, ?_, ?_, ?_, h103.nrm ⟨rfl, rfl, rfl, rfl, trivial⟩ [3, 4] rfl, rfl⟩
   · rw [hm24]; omega
   · omega
   · first | exact hai2 | exact hai2.set (by omega) hnl3 hnow
   · first | (intro h; cases h; done) | exact vr_same h20 (clA_same hnow (Classical.byContradiction fun h9 => absurd h9 (by assumption)))
   · first | exact h21 | (intro _; exact Nat.lt_of_le_of_lt (vr_le h20 (fun e => by rw [e]) h21) (hai2.grow (by omega) hnl3 hnow (by assumption)))
  refine gX<|fun a104 w104 h104 => ?_
  change ∃ _m, _m < _ ∧ _
  refine ⟨_, ?_, a2, ag2, ?_, ?_, h104.nf ⟨rfl, rfl, rfl, trivial⟩, rfl⟩
  · rw [hm17]; exact vr_down (by assumption) (by have h8 := cntA_le hai2.l2; rw [hai2.l1] at h8; exact h8) h20 (fun e => by rw [e]) h21
  · exact hai2
  · exact fun h i hi => (h20 h).2 i (by omega) hi
 refine gX<|hK k15<|sG (oM 2 rfl<|.nl)<|gR<|fun a106 w106 h106 => x_ret1 (fn := Try.f24) (t := 2) rfl h106 rfl <| ⟨⟨v14, a1⟩, rfl, ra_fin hf hai (hcl (by assumption)), (h106.sh.sel [0] rfl)⟩

end Go.Proofs.Ytmgikmjmdppfmaa
