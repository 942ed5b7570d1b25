/-
  Contracts of functions of this program and of the references, each walked once.
-/
import Derived.Test.YtmgikmjmdppfmaaX33
namespace Go.Proofs.Ytmgikmjmdppfmaa
open Go.RowKit
set_option linter.unusedSimpArgs false
set_option linter.unusedVariables false
set_option maxRecDepth 100000
set_option maxHeartbeats 4000000


theorem rows_eq {M : List (Ls Bool)} {m : Nat} {h : Nat → List Bool} (hl : M.length = m) (hv : ∀ a, a < m → (nth M a).l = h a) : M.map (·.l) = (List.range m).map h := by
  apply List.ext_getElem (by simp [hl])
  intro i h1 h2
  have := hv i (by simpa [hl] using h1)
  rw [nth_lt _ _ (by simpa using h1)] at this
  simpa using this
theorem rAhead_c (x : Ls Ins) (r : Nat) (rg : Int) (f : Nat → Nat → Bool) (W : World) (hx : x.At W) (hl : x.l.length ≤ 5000) (hj : JumpsOK x.l) (hok : OkV x.l rg) (hf : ∀ r j, (f r j = true ↔ LiveI x.l r j)) :
    Rets Try.prog 50 [x.v, .int .i64 ((r : Nat) : Int)] W (fun v w' => ∃ s : Ls Bool, v = s.v ∧ s.l = (List.range (x.l.length + 1)).map (f r) ∧ Sh0 W w' [.own 4 s]) := by
 refine gen Try.func50 Try.ntmps50 (Sh0.ext1 hx : Sh (fun _ => False) W W [.at_ x]) rfl fun a10 h10 => gG h10<|sG (oM 1 rfl<|.nl)<|sK fun _ k12 => gNl (aA 0 rfl) fun hl13 => gRn (oM 1 rfl<|oln sl_45 (aA 0 rfl) rfl<|oadN _ 1 om9 rfl<|.nl)<|gE1 (fun _ _ h_ => x_make (n := x.l.length + 1) (false : Bool) h_ sl_63 ti_4 rfl rfl rfl rfl rfl (show 1 * (x.l.length + 1) ≤ 140737488355328 ∧ x.l.length + 1 ≤ 140737488355328 from om9) (fun w => Flat.inner _ _) (fun b => Flat.on _ _) rfl rfl) rfl fun v14 => gRn (oM 1 rfl<|.nl)<|nK k12<|gK fun _ k15 => sG (oM 1 rfl<|.nl)<|gB<|fun a18 w18 h18 => x_loop (fun m a w => ∃ (l : List Bool) (ag : Bool), (VI x.l r l) ∧ (ag = false → ∀ i, i < x.l.length → ClV x.l r l i) ∧ St 87 (fun _ => False) W a w [(0, x.v), (1, .int .i64 ((r : Nat) : Int)), (5, v14), (6, .bool ag)] [.own 4 (⟨v14, l⟩ : Ls Bool), .at_ x] ∧ m = (bif ag then 1 else 0) + 2 * ((x.l.length + 1) - cntV l)) ⟨_, List.replicate (x.l.length + 1) false, true, (VI.start x.l r), (fun h => by cases h), h18.nf ⟨rfl, rfl, rfl, rfl, trivial⟩, rfl⟩ ?_; clear h10
 clear h18
 rintro m17 a17 w17 ⟨l, ag, hdi, hcl, h17, hm17⟩
 have hd1 := hdi.l1
 refine gG h17<|gK fun _ k19 => sG (oM 1 rfl<|.nl)<|?_; clear h17
 refine gCb rfl (fun hb21 => ?_) fun hb21 => ?_
 ·skip
  refine gS<|hK k19<|gB<|sG (oM 1 rfl<|.nl)<|sG (oM 1 rfl<|oln sl_45 (aA 1 rfl) rfl<|osbI _ _ om9 rfl<|oM 1 rfl<|.nl)<|gB<|fun a25 w25 h25 => x_loop (fun m a w => ∃ (k : Nat) (l2 : List Bool) (ag2 : Bool), (k ≤ x.l.length) ∧ (VI x.l r l2) ∧ (ag2 = false → l2 = l ∧ ∀ i, k ≤ i → i < x.l.length → ClV x.l r l2 i) ∧ (ag2 = true → cntV l < cntV l2) ∧ St 87 (fun _ => False) W a w [(0, x.v), (1, .int .i64 ((r : Nat) : Int)), (5, v14), (6, .bool ag2), (7, .int .i64 (((k : Nat) : Int) - 1))] [.own 4 (⟨v14, l2⟩ : Ls Bool), .at_ x] ∧ m = k) ⟨_, x.l.length, l, false, (by omega), (hdi), (fun _ => ⟨rfl, fun i hi hi2 => absurd hi (by omega)⟩), (fun h => by cases h), h25.nf ⟨rfl, rfl, rfl, rfl, rfl, trivial⟩, rfl⟩ ?_
  clear h25
  rintro m24 a24 w24 ⟨k, l2, ag2, hk, hdi2, h20, h21, h24, hm24⟩
  have hd3 := hdi2.l1
  refine gG h24<|gK fun _ k26 => sG (oM 1 rfl<|ogeI _ _ rfl<|.nl)<|?_; clear h24
  refine gcd rfl (fun hb28 hp28 => ?_) fun hb28 hp28 => ?_
  ·skip
   obtain ⟨j, rfl⟩ : ∃ j, k = j + 1 := ⟨k - 1, by omega⟩
   intro a30 w30 h30
   have h29 : St 87 (fun _ => False) W a30 w30 [(0, x.v), (1, .int .i64 ((r : Nat) : Int)), (5, v14), (6, .bool ag2), (7, .int .i64 ((j : Nat) : Int)), (22, .int .i64 ((j : Nat) : Int))] [.own 4 (⟨v14, l2⟩ : Ls Bool), .at_ x] := (h30.sub (F' := [(0, x.v), (1, .int .i64 ((r : Nat) : Int)), (5, v14), (6, .bool ag2), (7, .int .i64 (((j + 1 : Nat) : Int) - 1)), (22, .int .i64 (((j + 1 : Nat) : Int) - 1))]) ⟨rfl, rfl, rfl, rfl, rfl, rfl, trivial⟩).cg (by simp only [show (((j + 1 : Nat) : Int) - 1) = ((j : Nat) : Int) by omega])
   clear h30
   refine gG h29<|gS<|hK k26<|gK fun _ k31 => gB<|sK fun _ k32 => gRn (oM 2 rfl<|oxN sl_45 ti_44 (aA 1 rfl) _ om9 rfl<|olw2 [.int .i64 ((nth x.l j).op), .int .i64 ((nth x.l j).a), .int .i64 ((nth x.l j).b), .int .i64 ((nth x.l j).c)] ti_44 (aA 1 rfl) om9 rfl<|.nl)<|gC (fun _ _ h_ => xCl h_ bd_64 rfl (reads_ls (rReads_c (nth x.l j) _ (by have h8 := (hok j (by omega)).1; omega) (hok j (by omega)).2.1))) rfl<|?_; clear h29
   rintro _ _ w33 ⟨s33, rfl, hs33⟩
   refine gWk hs33 rfl<|gU<|gRn (oM 1 rfl<|.nl)<|nK k32<|sG (oM 1 rfl<|.nl)<|gK fun _ k35 => sG (oM 1 rfl<|.nl)<|gB<|?_; clear hs33
   have hrl := rdG_len (nth x.l j)
   intro a38 w38 h38
   refine x_loop (fun m a w => ∃ (q : Nat) (ib : Bool), (q ≤ (rdG (nth x.l j)).length) ∧ (ib = ((rdG (nth x.l j)).take q).any fun v => decide (v = (r : Int))) ∧ St 87 (fun _ => False) W a w [(0, x.v), (1, .int .i64 ((r : Nat) : Int)), (5, v14), (6, .bool ag2), (7, .int .i64 ((j : Nat) : Int)), (8, s33.v), (9, .bool ib), (10, .int .i64 ((q : Nat) : Int))] [.own 3 (⟨s33.v, rdG (nth x.l j)⟩ : Ls Int), .own 4 (⟨v14, l2⟩ : Ls Bool), .at_ x] ∧ m = (rdG (nth x.l j)).length - q) ⟨_, 0, false, (by omega), (any_zero.symm), h38.nf ⟨rfl, rfl, rfl, rfl, rfl, rfl, rfl, rfl, trivial⟩, rfl⟩ ?_
   clear h38
   rintro m37 a37 w37 ⟨q, ib, hq, hib, h37, hm37⟩
   refine gG h37<|gK fun _ k39 => sK fun _ k40 => gNl (aO 0 rfl) fun (hl41 : (rdG (nth x.l j)).length ≤ 140737488355328) => gRn (oM 2 rfl<|oln (n := (rdG (nth x.l j)).length) sl_23 (aO 0 rfl) rfl<|oltN _ _ rfl<|.nl)<|nK k40<|?_; clear h37
   refine gcd rfl (fun hb42 hp42 => ?_) fun hb42 hp42 => ?_
   ·skip
    refine gS<|hK k39<|gK fun _ k43 => gB<|gL<|gRn (oM 2 rfl<|.nl)<|?_
    rcases Bool.eq_false_or_eq_true ib with hb44 | hb44
    ·skip
     refine gRn (oKs 6 hb44 rfl rfl<|opT hb44 rfl<|oM 1 rfl<|.nl)<|nK k43<|gL<|gRn (oM 1 rfl<|oadN _ 1 om9 rfl<|oM 1 rfl<|.nl)<|nN<|fun a45 w45 h45 => x_again ⟨_, ?_, q + 1, true, ?_, ?_, h45.nf ⟨rfl, rfl, rfl, rfl, rfl, rfl, rfl, rfl, trivial⟩, rfl⟩
     · rw [hm37]; first | omega | (simp only [lens9]; omega)
     · omega
     · first | (rw [any_step (by omega), ← hib, show ib = true by assumption]; rfl) | (rw [any_step (by omega), ← hib, show ib = false by assumption]; rfl)
    refine gRn (oG hb44 (r_move rfl rfl) rfl<|oG hb44 (r_move rfl rfl) rfl<|oG hb44 (r_ixN (s := (⟨s33.v, rdG (nth x.l j)⟩ : Ls Int)) (q := q) sl_23 ti_3 rfl rfl rfl (fun w h => (h.own 0 rfl)) (show q < (rdG (nth x.l j)).length from om9)) rfl<|oG hb44 (r_lde (s := (⟨s33.v, rdG (nth x.l j)⟩ : Ls Int)) (i := q) (v := .int .i64 (nth (rdG (nth x.l j)) q)) ti_3 rfl rfl rfl (fun w h => (h.own 0 rfl)) (show q < (rdG (nth x.l j)).length from om9) (Nat.le_of_ble_eq_true rfl) rfl) rfl<|oG hb44 (r_move rfl rfl) rfl<|oG hb44 (r_eqlI (p := nth (rdG (nth x.l j)) q) (q := ((r : Nat) : Int)) rfl rfl rfl) rfl<|opF hb44 rfl<|oM 1 rfl<|.nl)<|nK k43<|gL<|gRn (oM 1 rfl<|oadN _ 1 om9 rfl<|oM 1 rfl<|.nl)<|nN<|fun a46 w46 h46 => x_again ⟨_, ?_, q + 1, decide (nth (rdG (nth x.l j)) q = ((r : Nat) : Int)), ?_, ?_, h46.nf ⟨rfl, rfl, rfl, rfl, rfl, rfl, rfl, rfl, trivial⟩, rfl⟩
    · rw [hm37]; first | omega | (simp only [lens9]; omega)
    · omega
    · first | (rw [any_step (by omega), ← hib, show ib = true by assumption]; rfl) | (rw [any_step (by omega), ← hib, show ib = false by assumption]; rfl)
   refine gX<|hK k35<|sK fun _ k47 => gRn (oM 2 rfl<|oxN sl_45 ti_44 (aA 2 rfl) _ om9 rfl<|olw2 [.int .i64 ((nth x.l j).op), .int .i64 ((nth x.l j).a), .int .i64 ((nth x.l j).b), .int .i64 ((nth x.l j).c)] ti_44 (aA 2 rfl) om9 rfl<|.nl)<|gP (fun _ _ h_ => xCl h_ bd_46 rfl (rWrites_c (nth x.l j) _ (by have h8 := (hok j (by omega)).1; omega))) rfl<|gRn (oM 1 rfl<|.nl)<|nK k47<|sK fun _ k49 => gRn (oM 2 rfl<|.nl)<|gC (fun _ _ h_ => xCl h_ bd_47 rfl (rNexts_c x j _ (h_.sh.at 2 rfl) (by omega) (by omega))) rfl<|?_
   rintro _ _ w50 ⟨s50, rfl, hs50⟩
   refine gWk hs50 rfl<|gU<|gRn (oM 1 rfl<|.nl)<|nK k49<|gK fun _ k51 => sG (oM 1 rfl<|.nl)<|gB<|?_; clear hs50
   have hnl := nextsV_len x.l j
   intro a54 w54 h54
   refine x_loop (fun m a w => ∃ (q2 : Nat) (ib2 : Bool), (q2 ≤ (nextsL x.l j).length) ∧ (ib2 = (((rdG (nth x.l j)).any fun v => decide (v = (r : Int))) || (decide (wrG (nth x.l j) ≠ (r : Int)) && ((nextsL x.l j).take q2).any fun y => nth l2 y.toNat))) ∧ St 87 (fun _ => False) W a w [(0, x.v), (1, .int .i64 ((r : Nat) : Int)), (5, v14), (6, .bool ag2), (7, .int .i64 ((j : Nat) : Int)), (9, .bool ib2), (11, .int .i64 (wrG (nth x.l j))), (12, s50.v), (13, .int .i64 ((q2 : Nat) : Int))] [.own 3 (⟨s50.v, nextsL x.l j⟩ : Ls Int), .own 3 (⟨s33.v, rdG (nth x.l j)⟩ : Ls Int), .own 4 (⟨v14, l2⟩ : Ls Bool), .at_ x] ∧ m = (nextsL x.l j).length - q2) ⟨_, 0, ib, (by omega), (by rw [any_zero, Bool.and_false, Bool.or_false, hib, any_all (by omega)]), h54.nf ⟨rfl, rfl, rfl, rfl, rfl, rfl, rfl, rfl, rfl, trivial⟩, rfl⟩ ?_
   clear h54
   rintro m53 a53 w53 ⟨q2, ib2, hq2, hib2, h53, hm53⟩
   refine gG h53<|gK fun _ k55 => sK fun _ k56 => gNl (aO 0 rfl) fun (hl57 : (nextsL x.l j).length ≤ 140737488355328) => gRn (oM 2 rfl<|oln (n := (nextsL x.l j).length) sl_23 (aO 0 rfl) rfl<|oltN _ _ rfl<|oM 1 rfl<|.nl)<|?_; clear h53
   rcases dsp (q2 < (nextsL x.l j).length) with ⟨hb58, hp58⟩ | ⟨hb58, hp58⟩
   ·skip
    refine gRn (oG hb58 (r_move rfl rfl) rfl<|oG hb58 (r_move rfl rfl) rfl<|oG hb58 (r_neqI (p := wrG (nth x.l j)) (q := ((r : Nat) : Int)) rfl rfl rfl) rfl<|opT hb58 rfl<|.nl)<|nK k56<|gcd rfl (fun hb59 hp59 => ?_) fun hb59 hp59 => ?_
    ·skip
     refine gS<|hK k55<|?_
     have hmm : nth (nextsL x.l j) q2 ∈ nextsL x.l j := nth_mem _ _ (by omega)
     have hnx := nextsV_ok hj (by omega) hmm
     refine gK fun _ k60 => gB<|gL<|gRn (oM 2 rfl<|.nl)<|?_
     rcases Bool.eq_false_or_eq_true ib2 with hb61 | hb61
     ·skip
      refine gRn (oKs 7 hb61 rfl rfl<|opT hb61 rfl<|oM 1 rfl<|.nl)<|nK k60<|gL<|gRn (oM 1 rfl<|oadN _ 1 om9 rfl<|oM 1 rfl<|.nl)<|nN<|fun a62 w62 h62 => x_again ⟨_, ?_, q2 + 1, true, ?_, ?_, h62.nf ⟨rfl, rfl, rfl, rfl, rfl, rfl, rfl, rfl, rfl, trivial⟩, rfl⟩
      · rw [hm53]; first | omega | (simp only [lens9]; omega)
      · omega
      · rw [any_step (by omega)]; first | exact (need_more hib2 (decide_eq_true (by assumption))).1 (by assumption) | exact (need_more hib2 (decide_eq_true (by assumption))).2 (by assumption)
     refine gNl (aO 2 rfl) fun (hl63 : l2.length ≤ 140737488355328) => gRn (oG hb61 (r_move rfl rfl) rfl<|oG hb61 (r_move rfl rfl) rfl<|oG hb61 (r_move rfl rfl) rfl<|oG hb61 (r_ixN (s := (⟨s50.v, nextsL x.l j⟩ : Ls Int)) (q := q2) sl_23 ti_3 rfl rfl rfl (fun w h => (h.own 0 rfl)) (show q2 < (nextsL x.l j).length from om9)) rfl<|oG hb61 (r_lde (s := (⟨s50.v, nextsL x.l j⟩ : Ls Int)) (i := q2) (v := .int .i64 (nth (nextsL x.l j) q2)) ti_3 rfl rfl rfl (fun w h => (h.own 0 rfl)) (show q2 < (nextsL x.l j).length from om9) (Nat.le_of_ble_eq_true rfl) rfl) rfl<|oG hb61 (r_ixI (s := (⟨v14, l2⟩ : Ls Bool)) (q := nth (nextsL x.l j) q2) sl_63 ti_4 rfl rfl rfl (fun w h => (h.own 2 rfl)) (show 0 ≤ nth (nextsL x.l j) q2 ∧ nth (nextsL x.l j) q2 < l2.length from om9)) rfl<|oG hb61 (r_lde (s := (⟨v14, l2⟩ : Ls Bool)) (i := (nth (nextsL x.l j) q2).toNat) (v := .bool (nth l2 ((nth (nextsL x.l j) q2).toNat))) ti_4 rfl rfl rfl (fun w h => (h.own 2 rfl)) (show (nth (nextsL x.l j) q2).toNat < l2.length from om9) (Nat.le_of_ble_eq_true rfl) rfl) rfl<|opF hb61 rfl<|oM 1 rfl<|.nl)<|nK k60<|gL<|gRn (oM 1 rfl<|oadN _ 1 om9 rfl<|oM 1 rfl<|.nl)<|nN<|fun a64 w64 h64 => x_again ⟨_, ?_, q2 + 1, nth l2 ((nth (nextsL x.l j) q2).toNat), ?_, ?_, h64.nf ⟨rfl, rfl, rfl, rfl, rfl, rfl, rfl, rfl, rfl, trivial⟩, rfl⟩
     · rw [hm53]; first | omega | (simp only [lens9]; omega)
     · omega
     · rw [any_step (by omega)]; first | exact (need_more hib2 (decide_eq_true (by assumption))).1 (by assumption) | exact (need_more hib2 (decide_eq_true (by assumption))).2 (by assumption)
    refine gX<|hK k51<|?_
    have hneed : ib2 = needB (nth l2) x.l j r := need_end hib2 (by first | exact .inr (any_all (by omega)) | exact .inl (decide_eq_false (by omega)))
    refine sK fun _ k65 => gRn (oM 2 rfl<|.nl)<|?_
    rcases Bool.eq_false_or_eq_true ib2 with hb66 | hb66
    ·skip
     refine gNl (aO 2 rfl) fun (hl67 : l2.length ≤ 140737488355328) => gRn (oG hb66 (r_move rfl rfl) rfl<|oG hb66 (r_move rfl rfl) rfl<|oG hb66 (r_ixN (s := (⟨v14, l2⟩ : Ls Bool)) (q := j) sl_63 ti_4 rfl rfl rfl (fun w h => (h.own 2 rfl)) (show j < l2.length from om9)) rfl<|oG hb66 (r_lde (s := (⟨v14, l2⟩ : Ls Bool)) (i := j) (v := .bool (nth l2 j)) ti_4 rfl rfl rfl (fun w h => (h.own 2 rfl)) (show j < l2.length from om9) (Nat.le_of_ble_eq_true rfl) rfl) rfl<|oG hb66 (r_not rfl rfl) rfl<|opT hb66 rfl<|.nl)<|nK k65<|gCb rfl (fun hb68 => ?_) fun hb68 => ?_
     ·have hn68 : nth l2 j = false := (Bool.not_eq_true' _).mp hb68
      refine sK fun _ k69 => gRn (oM 2 rfl<|oxN sl_63 ti_4 (aO 2 rfl) _ om9 rfl<|.nl)<|gte 2 (true : Bool) ti_4 om9 rfl rfl<|nK k69<|gF [0, 1, 5, 7] rfl<|gL<|gRn (oM 1 rfl<|.nl)<|nK k31<|gL<|gRn (oM 1 rfl<|osbI _ _ om9 rfl<|oM 1 rfl<|.nl)<|nN<|fun a71 w71 h71 => x_again ⟨_, ?_, j, l2.set j true, true, ?_, ?_, ?_, ?_, h71.nrm ⟨rfl, rfl, rfl, rfl, rfl, trivial⟩ [2, 3] rfl, rfl⟩
      · rw [hm24]; omega
      · omega
      · first | exact hdi2 | exact hdi2.set (by omega) (hneed ▸ (by assumption))
      · first | (intro h; cases h; done) | exact vr_same h20 (fun h => by first | assumption | exact absurd (h.symm.trans (hneed.symm.trans (show ib2 = false by assumption))) (by decide))
      · first | exact h21 | (intro _; exact Nat.lt_of_le_of_lt (vr_le h20 (fun e => by rw [e]) h21) (cntV_set (by omega) (by assumption)))
     have hn68 : nth l2 j = true := (Bool.not_eq_false' _).mp hb68
     refine gS<|hK k31<|gL<|gRn (oM 1 rfl<|osbI _ _ om9 rfl<|oM 1 rfl<|.nl)<|nN<|fun a72 w72 h72 => x_again ⟨_, ?_, j, l2, ag2, ?_, ?_, ?_, ?_, h72.nrm ⟨rfl, rfl, rfl, rfl, rfl, trivial⟩ [2, 3] rfl, rfl⟩
     · rw [hm24]; omega
     · omega
     · first | exact hdi2 | exact hdi2.set (by omega) (hneed ▸ (by assumption))
     · first | (intro h; cases h; done) | exact vr_same h20 (fun h => by first | assumption | exact absurd (h.symm.trans (hneed.symm.trans (show ib2 = false by assumption))) (by decide))
     · first | exact h21 | (intro _; exact Nat.lt_of_le_of_lt (vr_le h20 (fun e => by rw [e]) h21) (cntV_set (by omega) (by assumption)))
    refine gRn (oKs 5 hb66 rfl rfl<|opF hb66 rfl<|.nl)<|nK k65<|gcF rfl rfl<|gS<|hK k31<|gL<|gRn (oM 1 rfl<|osbI _ _ om9 rfl<|oM 1 rfl<|.nl)<|nN<|fun a73 w73 h73 => x_again ⟨_, ?_, j, l2, ag2, ?_, ?_, ?_, ?_, h73.nrm ⟨rfl, rfl, rfl, rfl, rfl, trivial⟩ [2, 3] rfl, rfl⟩
    · rw [hm24]; omega
    · omega
    · first | exact hdi2 | exact hdi2.set (by omega) (hneed ▸ (by assumption))
    · first | (intro h; cases h; done) | exact vr_same h20 (fun h => by first | assumption | exact absurd (h.symm.trans (hneed.symm.trans (show ib2 = false by assumption))) (by decide))
    · first | exact h21 | (intro _; exact Nat.lt_of_le_of_lt (vr_le h20 (fun e => by rw [e]) h21) (cntV_set (by omega) (by assumption)))
   refine gRn (oKs 3 hb58 rfl rfl<|opF hb58 rfl<|.nl)<|nK k56<|gcF rfl rfl<|gX<|hK k51<|?_
   have hneed : ib2 = needB (nth l2) x.l j r := need_end hib2 (by first | exact .inr (any_all (by omega)) | exact .inl (decide_eq_false (by omega)))
   refine sK fun _ k74 => gRn (oM 2 rfl<|.nl)<|?_
   rcases Bool.eq_false_or_eq_true ib2 with hb75 | hb75
   ·skip
    refine gNl (aO 2 rfl) fun (hl76 : l2.length ≤ 140737488355328) => gRn (oG hb75 (r_move rfl rfl) rfl<|oG hb75 (r_move rfl rfl) rfl<|oG hb75 (r_ixN (s := (⟨v14, l2⟩ : Ls Bool)) (q := j) sl_63 ti_4 rfl rfl rfl (fun w h => (h.own 2 rfl)) (show j < l2.length from om9)) rfl<|oG hb75 (r_lde (s := (⟨v14, l2⟩ : Ls Bool)) (i := j) (v := .bool (nth l2 j)) ti_4 rfl rfl rfl (fun w h => (h.own 2 rfl)) (show j < l2.length from om9) (Nat.le_of_ble_eq_true rfl) rfl) rfl<|oG hb75 (r_not rfl rfl) rfl<|opT hb75 rfl<|.nl)<|nK k74<|gCb rfl (fun hb77 => ?_) fun hb77 => ?_
    ·have hn77 : nth l2 j = false := (Bool.not_eq_true' _).mp hb77
     refine sK fun _ k78 => gRn (oM 2 rfl<|oxN sl_63 ti_4 (aO 2 rfl) _ om9 rfl<|.nl)<|gte 2 (true : Bool) ti_4 om9 rfl rfl<|nK k78<|gF [0, 1, 5, 7] rfl<|gL<|gRn (oM 1 rfl<|.nl)<|nK k31<|gL<|gRn (oM 1 rfl<|osbI _ _ om9 rfl<|oM 1 rfl<|.nl)<|nN<|fun a80 w80 h80 => x_again ⟨_, ?_, j, l2.set j true, true, ?_, ?_, ?_, ?_, h80.nrm ⟨rfl, rfl, rfl, rfl, rfl, trivial⟩ [2, 3] rfl, rfl⟩
     · rw [hm24]; omega
     · omega
     · first | exact hdi2 | exact hdi2.set (by omega) (hneed ▸ (by assumption))
     · first | (intro h; cases h; done) | exact vr_same h20 (fun h => by first | assumption | exact absurd (h.symm.trans (hneed.symm.trans (show ib2 = false by assumption))) (by decide))
     · first | exact h21 | (intro _; exact Nat.lt_of_le_of_lt (vr_le h20 (fun e => by rw [e]) h21) (cntV_set (by omega) (by assumption)))
    have hn77 : nth l2 j = true := (Bool.not_eq_false' _).mp hb77
    refine gS<|hK k31<|gL<|gRn (oM 1 rfl<|osbI _ _ om9 rfl<|oM 1 rfl<|.nl)<|nN<|fun a81 w81 h81 => x_again ⟨_, ?_, j, l2, ag2, ?_, ?_, ?_, ?_, h81.nrm ⟨rfl, rfl, rfl, rfl, rfl, trivial⟩ [2, 3] rfl, rfl⟩
    · rw [hm24]; omega
    · omega
    · first | exact hdi2 | exact hdi2.set (by omega) (hneed ▸ (by assumption))
    · first | (intro h; cases h; done) | exact vr_same h20 (fun h => by first | assumption | exact absurd (h.symm.trans (hneed.symm.trans (show ib2 = false by assumption))) (by decide))
    · first | exact h21 | (intro _; exact Nat.lt_of_le_of_lt (vr_le h20 (fun e => by rw [e]) h21) (cntV_set (by omega) (by assumption)))
   refine gRn (oKs 5 hb75 rfl rfl<|opF hb75 rfl<|.nl)<|nK k74<|gcF rfl rfl<|gS<|hK k31<|gL<|gRn (oM 1 rfl<|osbI _ _ om9 rfl<|oM 1 rfl<|.nl)<|nN<|fun a82 w82 h82 => x_again ⟨_, ?_, j, l2, ag2, ?_, ?_, ?_, ?_, h82.nrm ⟨rfl, rfl, rfl, rfl, rfl, trivial⟩ [2, 3] rfl, rfl⟩
   · rw [hm24]; omega
   · omega
   · first | exact hdi2 | exact hdi2.set (by omega) (hneed ▸ (by assumption))
   · first | (intro h; cases h; done) | exact vr_same h20 (fun h => by first | assumption | exact absurd (h.symm.trans (hneed.symm.trans (show ib2 = false by assumption))) (by decide))
   · first | exact h21 | (intro _; exact Nat.lt_of_le_of_lt (vr_le h20 (fun e => by rw [e]) h21) (cntV_set (by omega) (by assumption)))
  refine gX<|fun a83 w83 h83 => ?_
  change ∃ _m, _m < _ ∧ _
  refine ⟨_, ?_, l2, ag2, ?_, ?_, h83.nf ⟨rfl, rfl, rfl, rfl, trivial⟩, rfl⟩
  · rw [hm17]; exact vr_down (by assumption) (by have h8 := cntV_le l2; rw [hdi2.l1] at h8; exact h8) h20 (fun e => by rw [e]) h21
  · exact hdi2
  · exact fun h i hi => (h20 h).2 i (by omega) hi
 refine gX<|hK k15<|sG (oM 2 rfl<|.nl)<|gR<|fun a85 w85 h85 => x_ret1 (fn := Try.f50) (t := 4) rfl h85 rfl <| ⟨⟨v14, l⟩, rfl, rv_fin hf hdi (hcl (by assumption)), (h85.sh.sel [0] rfl)⟩

theorem rSets_c (x : Ls Ins) (rg : Int) (f : Nat → Nat → Bool) (W : World) (hx : x.At W) (hl : x.l.length ≤ 5000) (hj : JumpsOK x.l) (hok : OkV x.l rg) (hf : ∀ r j, (f r j = true ↔ LiveI x.l r j)) (hrg : 0 ≤ rg ∧ rg ≤ 200) :
    Rets Try.prog 33 [x.v, .int .i64 ((rg.toNat : Nat) : Int)] W (fun v w' => ∃ s : Ls (Ls Bool), v = s.v ∧ s.l.map (·.l) = (List.range (x.l.length + 1)).map (fun a => (List.range rg.toNat).map fun b => f b a) ∧ Sh0 W w' [.deep 63 s]) := by
 refine gen Try.func33 Try.ntmps33 (Sh0.ext1 hx : Sh (fun _ => False) W W [.at_ x]) rfl fun a10 h10 => gG h10<|sG (oM 1 rfl<|.nl)<|sK fun _ k12 => gNl (aA 0 rfl) fun hl13 => gRn (oM 1 rfl<|oln sl_45 (aA 0 rfl) rfl<|oadN _ 1 om9 rfl<|.nl)<|gE1 (fun _ _ h_ => x_makeMat (n := x.l.length + 1) h_ sl_72 ti_63 rfl rfl rfl (show 24 * (x.l.length + 1) ≤ 140737488355328 ∧ x.l.length + 1 ≤ 140737488355328 from om9) rfl rfl 4 Bool) rfl fun v14 => gRn (oM 1 rfl<|.nl)<|nK k12<|gK fun _ k15 => sG (oM 1 rfl<|.nl)<|gB<|fun a18 w18 h18 => x_loop (fun m a w => ∃ (i : Nat) (M : List (Ls Bool)), (i ≤ x.l.length + 1) ∧ (M.length = x.l.length + 1) ∧ (∀ a, a < i → (nth M a).l = List.replicate rg.toNat false) ∧ St 50 (fun _ => False) W a w [(0, x.v), (1, .int .i64 ((rg.toNat : Nat) : Int)), (5, v14), (6, .int .i64 ((i : Nat) : Int))] [.big (matX (.own 4) 63 v14 M), .at_ x] ∧ m = x.l.length + 1 - i) ⟨_, 0, List.replicate (x.l.length + 1) (⟨.slice none 0 0, []⟩ : Ls Bool), (by omega), (by simp), (fun a ha => absurd ha (by omega)), h18.nf ⟨rfl, rfl, rfl, rfl, trivial⟩, rfl⟩ ?_; clear h10
 clear h18
 rintro m17 a17 w17 ⟨i, M, hi, hM, hz, h17, hm17⟩
 refine gG h17<|gK fun _ k19 => sG (oM 2 rfl<|oln sl_45 (aA 1 rfl) rfl<|oleN _ _ rfl<|.nl)<|?_; clear h17
 refine gcd rfl (fun hb21 hp21 => ?_) fun hb21 hp21 => ?_
 ·skip
  refine gS<|hK k19<|gK fun _ k22 => gB<|gL<|gRn (oM 3 rfl<|.nl)<|gE1 (fun _ _ h_ => x_make (n := rg.toNat) (false : Bool) h_ sl_63 ti_4 rfl rfl rfl rfl rfl (show 1 * rg.toNat ≤ 140737488355328 ∧ rg.toNat ≤ 140737488355328 from om9) (fun w => Flat.inner _ _) (fun b => Flat.on _ _) rfl rfl) rfl fun v23 => gRn (oxN sl_72 ti_63 (fun w h => (h.matAt 1 rfl)) _ (by rw [rvs_len]; exact (show i < M.length from (by first | omega | (rw [hw3 _ (by omega)]; omega) | (simp only [lens9]; omega)))) rfl<|.nl)<|fun a24 w24 h24 => ?_
  have ha25 := (h24.sh.own 0 rfl)
  have h26 := h24.sel (L' := [_, _, _]) [1, 0, 2] rfl
  refine wl_ex (x_stMat (i := i) (s := (⟨v23, List.replicate rg.toNat false⟩ : Ls Bool)) h26 ti_63 rfl rfl rfl rfl (show i < M.length from (by omega)) ha25) (wanted_none rfl _) ?_
  rintro a27 w27 h27
  clear h26
  refine gG h27<|nK k22<|gL<|gRn (oM 1 rfl<|oadN _ 1 om9 rfl<|oM 1 rfl<|.nl)<|nN<|fun a28 w28 h28 => x_again ⟨_, ?_, i + 1, M.set i (⟨v23, List.replicate rg.toNat false⟩ : Ls Bool), ?_, ?_, ?_, h28.nf ⟨rfl, rfl, rfl, rfl, trivial⟩, rfl⟩; clear h27
  · rw [hm17]; first | omega | (simp only [lens9]; omega)
  · omega
  · rw [List.length_set]; exact hM
  · intro a ha; rw [nth_set]; split; rfl; exact hz a (by omega)
 refine gX<|hK k15<|gK fun _ k29 => sG (oM 1 rfl<|.nl)<|gB<|fun a32 w32 h32 => x_loop (fun m a w => ∃ (r : Nat) (M2 : List (Ls Bool)), (r ≤ rg.toNat) ∧ (M2.length = x.l.length + 1) ∧ (∀ a, a < x.l.length + 1 → (nth M2 a).l.length = rg.toNat) ∧ (∀ a, a < x.l.length + 1 → ∀ b, b < r → nth (nth M2 a).l b = f b a) ∧ St 50 (fun _ => False) W a w [(0, x.v), (1, .int .i64 ((rg.toNat : Nat) : Int)), (5, v14), (7, .int .i64 ((r : Nat) : Int))] [.big (matX (.own 4) 63 v14 M2), .at_ x] ∧ m = rg.toNat - r) ⟨_, 0, M, (by omega), (hM), (fun a ha => by rw [hz a (by omega)]; simp), (fun a ha b hb => absurd hb (by omega)), h32.nf ⟨rfl, rfl, rfl, rfl, trivial⟩, rfl⟩ ?_
 clear h32
 rintro m31 a31 w31 ⟨r, M2, hr, hM2, hw2, hv2, h31, hm31⟩
 refine gG h31<|gK fun _ k33 => sG (oM 2 rfl<|oltN _ _ rfl<|.nl)<|?_; clear h31
 refine gcd rfl (fun hb35 hp35 => ?_) fun hb35 hp35 => ?_
 ·skip
  refine gS<|hK k33<|gK fun _ k36 => gB<|sK fun _ k37 => gRn (oM 2 rfl<|.nl)<|fun a39 w39 h39 => wl_ex (x_call h39 bd_50 rfl rfl rfl rfl rfl (rAhead_c x r rg f _ (h39.sh.at 1 rfl) hl hj hok hf)) (wanted_none rfl _) ?_
  rintro a40 w40 ⟨_, ⟨s40, rfl, ha40, hs40⟩, hf40⟩
  have h40 := (⟨hf40, h39.sh.call hs40 (by intro A hA b hb; first | (simp at hA; done) | (simp at hA; subst hA; first | exact Flat.noRd hb | exact (hb : False).elim) | (simp at hA; rcases hA with rfl | rfl <;> first | exact Flat.noRd hb | exact (hb : False).elim))⟩ : St 50 (fun _ => False) W a40 w40 _ _)
  clear hf40 hs40
  clear h39
  refine gG h40<|gRn (oM 1 rfl<|.nl)<|nK k37<|sG (oM 1 rfl<|.nl)<|gB<|?_; clear h40
  have hal : s40.l.length = x.l.length + 1 := by rw [ha40]; simp
  have han : ∀ q, q < x.l.length + 1 → nth s40.l q = f r q := fun q hq => by rw [ha40]; exact nth_mapR hq
  intro a43 w43 h43
  refine x_loop (fun m a w => ∃ (i3 : Nat) (M3 : List (Ls Bool)), (i3 ≤ x.l.length + 1) ∧ (M3.length = x.l.length + 1) ∧ (∀ a, a < x.l.length + 1 → (nth M3 a).l.length = rg.toNat) ∧ (∀ a, a < x.l.length + 1 → ∀ b, b < r → nth (nth M3 a).l b = f b a) ∧ (∀ a, a < i3 → nth (nth M3 a).l r = f r a) ∧ St 50 (fun _ => False) W a w [(0, x.v), (1, .int .i64 ((rg.toNat : Nat) : Int)), (5, v14), (7, .int .i64 ((r : Nat) : Int)), (8, s40.v), (9, .int .i64 ((i3 : Nat) : Int))] [.own 4 s40, .big (matX (.own 4) 63 v14 M3), .at_ x] ∧ m = x.l.length + 1 - i3) ⟨_, 0, M2, (by omega), (hM2), (hw2), (hv2), (fun a ha => absurd ha (by omega)), h43.nf ⟨rfl, rfl, rfl, rfl, rfl, rfl, trivial⟩, rfl⟩ ?_
  clear h43
  rintro m42 a42 w42 ⟨i3, M3, hi3, hM3, hw3, hv3, hn3, h42, hm42⟩
  refine gG h42<|gK fun _ k44 => sG (oM 2 rfl<|oln sl_45 (aA 2 rfl) rfl<|oleN _ _ rfl<|.nl)<|?_; clear h42
  refine gcd rfl (fun hb46 hp46 => ?_) fun hb46 hp46 => ?_
  ·skip
   refine gS<|hK k44<|gK fun _ k47 => gB<|gNl (aO 0 rfl) fun hl48 => gNl (fun w h => (h.matRow 1 rfl i3 (show i3 < M3.length from (by omega)))) fun (hl49 : ((nth M3 i3).l).length ≤ 140737488355328) => rT 10 [] (oM 2 rfl<|oxN sl_72 ti_63 (fun w h => (h.matAt 1 rfl)) _ (by rw [rvs_len]; exact (show i3 < M3.length from (by first | omega | (rw [hw3 _ (by omega)]; omega) | (simp only [lens9]; omega)))) rfl<|oV (Rn.same (r_lde (s := (⟨v14, rvs M3⟩ : Ls RV)) (i := i3) (v := (nth (rvs M3) i3).v) ti_63 rfl rfl rfl (fun w h => h.matAt 1 rfl) (by rw [rvs_len]; exact (show i3 < M3.length from om9)) (Nat.le_of_ble_eq_true rfl) rfl) (nth_rvs M3 i3)) rfl<|oM 3 rfl<|oxN sl_63 ti_4 (aO 0 rfl) _ (show i3 < s40.l.length from (by first | omega | (rw [hw3 _ (by omega)]; omega) | (simp only [lens9]; omega))) rfl<|olE (.bool (nth s40.l i3)) ti_4 (aO 0 rfl) om9 rfl<|oxN sl_63 ti_4 (fun w h => (h.matRow 1 rfl i3 (show i3 < M3.length from (by omega)))) _ (show r < ((nth M3 i3).l).length from (by first | omega | (rw [hw3 _ (by omega)]; omega) | (simp only [lens9]; omega))) rfl<|.nl)<|gO [1, 0, 2] rfl<|gE (fun _ _ h_ => x_stMatE (i := i3) (q := r) (x' := (nth s40.l i3 : Bool)) h_ ti_4 rfl rfl rfl rfl (show i3 < M3.length from om9) (show r < (nth M3 i3).l.length from (by rw [hw3 _ (by omega)]; omega)) rfl rfl rfl rfl) rfl<|nK k47<|gL<|gRn (oM 1 rfl<|oadN _ 1 om9 rfl<|oM 1 rfl<|.nl)<|nN<|fun a52 w52 h52 => ?_
   refine x_again ⟨_, ?_, i3 + 1, M3.set i3 ⟨(nth M3 i3).v, (nth M3 i3).l.set r (nth s40.l i3)⟩, ?_, ?_, ?_, ?_, ?_, h52.nrm ⟨rfl, rfl, rfl, rfl, rfl, rfl, trivial⟩ [1, 0, 2] rfl, rfl⟩
   · rw [hm42]; first | omega | (simp only [lens9]; omega)
   · omega
   · rw [List.length_set]; exact hM3
   · intro a ha; rw [nth_set]; split; (rename_i h9; rw [List.length_set, h9.1]; exact hw3 a ha); exact hw3 a ha
   · intro a ha b hb; rw [nth_set]; split; (rename_i h9; rw [nth_set, if_neg (by omega), h9.1]; exact hv3 a ha b hb); exact hv3 a ha b hb
   · intro a ha; rw [nth_set]; split; (rename_i h9; rw [nth_set, if_pos ⟨rfl, by rw [hw3 _ (by omega)]; omega⟩, han _ (by omega), h9.1]); (rename_i h9; exact hn3 a (by omega))
  refine gX<|hK k36<|gL<|gRn (oM 1 rfl<|oadN _ 1 om9 rfl<|oM 1 rfl<|.nl)<|nN<|fun a53 w53 h53 => x_again ⟨_, ?_, r + 1, M3, ?_, ?_, ?_, ?_, h53.nrm ⟨rfl, rfl, rfl, rfl, trivial⟩ [1, 2] rfl, rfl⟩
  · rw [hm31]; first | omega | (simp only [lens9]; omega)
  · omega
  · exact hM3
  · exact hw3
  · intro a ha b hb; rcases Nat.lt_or_ge b r with h9 | h9; (exact hv3 a ha b h9); obtain rfl : b = r := (by omega); exact hn3 a (by omega)
 refine gX<|hK k29<|sG (oM 2 rfl<|.nl)<|gR<|fun a55 w55 h55 => x_ret1 (fn := Try.f33) (t := 4) rfl h55 rfl ?_
 have hD := h55.sh.matDeep own_mat
 have hD2 : Sh0 W w55 [.deep 63 (⟨v14, M2⟩ : Ls (Ls Bool))] := hD.sel [0] rfl
 refine ⟨⟨v14, M2⟩, rfl, ?_, hD2⟩
 refine rows_eq hM2 fun a ha => eq_mapR (hw2 a ha) fun b hb => hv2 a ha b (by omega)

end Go.Proofs.Ytmgikmjmdppfmaa
