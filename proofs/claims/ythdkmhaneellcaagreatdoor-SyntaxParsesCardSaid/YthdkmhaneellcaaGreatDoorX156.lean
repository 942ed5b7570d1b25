/-
  The law that the program and the document read a text alike.
-/
import Derived.Test.YthdkmhaneellcaaGreatDoorX155
namespace Go.Proofs.YthdkmhaneellcaaGreatDoor
open Go.RowKit
set_option linter.unusedSimpArgs false
set_option linter.unusedVariables false
set_option maxRecDepth 100000
set_option maxHeartbeats 1000000


theorem ext_nth {α : Type} [Inhabited α] (l m : List α) (hl : l.length = m.length) (h : ∀ i, i < l.length → nth l i = nth m i) : l = m := by
  apply List.ext_getElem hl
  intro i h1 h2
  have := h i h1
  rwa [nth_lt l i h1, nth_lt m i h2] at this
theorem nds_at {l m : List NdL} (h : l.map NdL.nd = m.map NdL.nd) (k : Nat) (hk : k < l.length) : (nth l k).k = (nth m k).k ∧ (nth l k).n = (nth m k).n ∧ (nth l k).a = (nth m k).a ∧ (nth l k).t = (nth m k).t ∧ (nth l k).kids.l = (nth m k).kids.l := by
  have h2 : l.length = m.length := by simpa using congrArg List.length h
  have h3 : nth (l.map NdL.nd) k = nth (m.map NdL.nd) k := by rw [h]
  rw [nth_map' _ _ _ hk, nth_map' _ _ _ (by omega)] at h3
  exact ⟨congrArg Nd.k h3, congrArg Nd.n h3, congrArg Nd.a h3, congrArg Nd.t h3, congrArg Nd.kids h3⟩
theorem eq_flt3 (f g : Flt3) (w : World) : (binOp .eql 25 f.val g.val).run Tryz.prog w = .ok (.bool (decide (f = g))) w := by
  obtain ⟨a, b, c⟩ := f
  obtain ⟨a', b', c'⟩ := g
  simp [binOp, Flt3.val, Op.equal, Op.maxDepth, go_sem]
  by_cases h1 : a = a' <;> by_cases h2 : b = b' <;> by_cases h3 : c = c' <;> simp [h1, h2, h3]
theorem eq_flt3G (x y : Operand) (f g : Flt3) (w : World) : (eqGuard .eql 25 x y f.val g.val).run Tryz.prog w = .ok () w := by
  simp [eqGuard, Flt3.val]
  try kernel_rfl

theorem ints_c (x y : Ls Int) (W : World) (hx : x.At W) (hy : y.At W) :
    Rets Tryz.prog 12 [x.v, y.v] W (fun v w' => v = .bool (decide (x.l = y.l)) ∧ Sh0 W w' []) := by
 refine gen Tryz.func12 Tryz.ntmps12 (Sh0.ext2 hx hy : Sh (fun _ => False) W W [.at_ x, .at_ y]) rfl fun a10 h10 => gG h10<|sG (oM 1 rfl<|.nl)<|gK fun _ k12 => sK fun _ k13 => gNl (aA 0 rfl) fun hl14 => gNl (aA 1 rfl) fun hl15 => gRn (oM 1 rfl<|oln sl_30 (aA 0 rfl) rfl<|oM 1 rfl<|oln sl_30 (aA 1 rfl) rfl<|oneN _ _ rfl<|.nl)<|nK k13<|?_; clear h10
 refine gcd rfl (fun hb16 hp16 => ?_) fun hb16 hp16 => ?_
 ·skip
  refine sG (oM 1 rfl<|.nl)<|gR<|uT<|fun a18 w18 h18 => x_ret1 (fn := Tryz.f12) (t := 4) rfl h18 rfl <| ⟨?_, (h18.sh.sel [] rfl)⟩
  congr 1
  first | (exact (decide_eq_true (ext_nth _ _ (by omega) fun i hi => hall i (by omega))).symm) | (refine (decide_eq_false fun e => ?_).symm; simp_all)
 refine gS<|hK k12<|gK fun _ k19 => sG (oM 1 rfl<|.nl)<|gB<|fun a22 w22 h22 => x_loop (fun m a w => ∃ (k : Nat), (k ≤ x.l.length) ∧ (∀ j, j < k → nth x.l j = nth y.l j) ∧ St 26 (fun _ => False) W a w [(0, x.v), (1, y.v), (5, .int .i64 ((k : Nat) : Int))] [.at_ x, .at_ y] ∧ m = x.l.length - k) ⟨_, 0, (by omega), (fun j hj => absurd hj (by omega)), h22.nf ⟨rfl, rfl, rfl, trivial⟩, rfl⟩ ?_
 clear h22
 rintro m21 a21 w21 ⟨k, hk, hall, h21, hm21⟩
 refine gG h21<|gK fun _ k23 => sG (oM 2 rfl<|oln sl_30 (aA 0 rfl) rfl<|oltN _ _ rfl<|.nl)<|?_; clear h21
 refine gcd rfl (fun hb25 hp25 => ?_) fun hb25 hp25 => ?_
 ·skip
  refine gS<|hK k23<|gK fun _ k26 => gB<|gK fun _ k27 => rQ (oM 2 rfl<|oxN sl_30 ti_3 (aA 0 rfl) _ om9 rfl<|olI ti_3 (aA 0 rfl) om9 rfl<|oM 2 rfl<|oxN sl_30 ti_3 (aA 1 rfl) _ om9 rfl<|olI ti_3 (aA 1 rfl) om9 rfl<|oneI _ _ rfl<|.nl)<|hK k27<|gcd rfl (fun hb28 hp28 => ?_) fun hb28 hp28 => ?_
  ·skip
   refine sG (oM 1 rfl<|.nl)<|gR<|uB<|uT<|uT<|uB<|uT<|fun a30 w30 h30 => x_ret1 (fn := Tryz.f12) (t := 4) rfl h30 rfl <| ⟨?_, (h30.sh.sel [] rfl)⟩
   congr 1
   first | (exact (decide_eq_true (ext_nth _ _ (by omega) fun i hi => hall i (by omega))).symm) | (refine (decide_eq_false fun e => ?_).symm; simp_all)
  refine gS<|hK k26<|gL<|gRn (oM 1 rfl<|oadN _ 1 om9 rfl<|oM 1 rfl<|.nl)<|nN<|fun a31 w31 h31 => x_again ⟨_, ?_, k + 1, ?_, ?_, h31.nf ⟨rfl, rfl, rfl, trivial⟩, rfl⟩
  · rw [hm21]; first | omega | (simp only [lens9]; omega)
  · omega
  · intro j hj; rcases Nat.lt_or_ge j k with h | h; exact hall j h; obtain rfl : j = k := (by omega); simp_all
 refine gX<|hK k19<|sG (oM 1 rfl<|.nl)<|gR<|fun a33 w33 h33 => x_ret1 (fn := Tryz.f12) (t := 4) rfl h33 rfl <| ⟨?_, (h33.sh.sel [] rfl)⟩
 congr 1
 first | (exact (decide_eq_true (ext_nth _ _ (by omega) fun i hi => hall i (by omega))).symm) | (refine (decide_eq_false fun e => ?_).symm; simp_all)

theorem dSame_c (x y : Ls NdL) (W : World) (hx : x.At W) (hy : y.At W) (he : x.l.map NdL.nd = y.l.map NdL.nd) :
    Rets Tryz.prog 9 [x.v, y.v, .bool true] W (fun v w' => v = .bool true ∧ Sh0 W w' []) := by
 have hlen : x.l.length = y.l.length := by simpa using congrArg List.length he
 refine gen Tryz.func9 Tryz.ntmps9 (Sh0.ext2 hx hy : Sh (fun _ => False) W W [.at_ x, .at_ y]) rfl fun a10 h10 => gG h10<|sG (oM 1 rfl<|.nl)<|gK fun _ k12 => sK fun _ k13 => gNl (aA 0 rfl) fun hl14 => gNl (aA 1 rfl) fun hl15 => gRn (oM 1 rfl<|oln sl_22 (aA 0 rfl) rfl<|oM 1 rfl<|oln sl_22 (aA 1 rfl) rfl<|oneN _ _ rfl<|.nl)<|nK k13<|gcF rfl (decide_eq_false (fun h9 => h9 hlen))<|gS<|hK k12<|gK fun _ k16 => sG (oM 1 rfl<|.nl)<|gB<|fun a19 w19 h19 => x_loop (fun m a w => ∃ (k : Nat), (k ≤ x.l.length) ∧ St 88 (fun _ => False) W a w [(0, x.v), (1, y.v), (2, .bool true), (7, .int .i64 ((k : Nat) : Int))] [.at_ x, .at_ y] ∧ m = x.l.length - k) ⟨_, 0, (by omega), h19.nf ⟨rfl, rfl, rfl, rfl, trivial⟩, rfl⟩ ?_; clear h10
 clear h19
 rintro m18 a18 w18 ⟨k, hk, h18, hm18⟩
 refine gG h18<|gK fun _ k20 => sG (oM 2 rfl<|oln sl_22 (aA 0 rfl) rfl<|oltN _ _ rfl<|.nl)<|?_; clear h18
 refine gcd rfl (fun hb22 hp22 => ?_) fun hb22 hp22 => ?_
 ·skip
  refine gS<|hK k20<|?_
  obtain ⟨hq1, hq2, hq3, hq4, hq5⟩ := nds_at he k (by omega)
  refine gK fun _ k23 => gB<|gK fun _ k24 => rT 10 [] (oM 2 rfl<|oxN sl_22 ti_57 (aA 0 rfl) _ om9 rfl<|ofE fl_57_4 rfl<|olE (((nth x.l k).kids).v) ti_30 (aA 0 rfl) om9 rfl<|oM 2 rfl<|oxN sl_22 ti_57 (aA 1 rfl) _ om9 rfl<|ofE fl_57_4 rfl<|olE (((nth y.l k).kids).v) ti_30 (aA 1 rfl) om9 rfl<|.nl)<|gC (fun _ _ h_ => xCl h_ bd_12 rfl (ints_c ((nth x.l k).kids) ((nth y.l k).kids) _ ((h_.sh.at 0 rfl).inner k (show k < x.l.length from (by omega))) ((h_.sh.at 1 rfl).inner k (show k < y.l.length from (by omega))))) rfl<|?_
  rintro _ _ w25 ⟨rfl, hs25⟩
  refine gWk hs25 rfl<|gU<|gRn (oM 1 rfl<|.nl)<|nK k24<|gK fun _ k26 => rQ (oM 2 rfl<|oxN sl_22 ti_57 (aA 0 rfl) _ om9 rfl<|ofE fl_57_0 rfl<|olI ti_3 (aA 0 rfl) om9 rfl<|oM 2 rfl<|oxN sl_22 ti_57 (aA 1 rfl) _ om9 rfl<|ofE fl_57_0 rfl<|olI ti_3 (aA 1 rfl) om9 rfl<|oneI _ _ rfl<|oM 1 rfl<|oG (decide_eq_false (fun h9 => h9 (by assumption))) (r_move rfl rfl) rfl<|oG (decide_eq_false (fun h9 => h9 (by assumption))) (r_move rfl rfl) rfl<|oG (decide_eq_false (fun h9 => h9 (by assumption))) (r_ixN (s := x) (q := k) sl_22 ti_57 rfl rfl rfl (fun w h => (h.at 0 rfl)) (show k < x.l.length from om9)) rfl<|oG (decide_eq_false (fun h9 => h9 (by assumption))) (r_fieldE (r := 1) fl_57_1 rfl rfl rfl) rfl<|oG (decide_eq_false (fun h9 => h9 (by assumption))) (r_lde (s := x) (i := k) (v := .int .i64 ((nth x.l k).n)) ti_3 rfl rfl rfl (fun w h => (h.at 0 rfl)) (show k < x.l.length from om9) (Nat.le_of_ble_eq_true rfl) rfl) rfl<|oG (decide_eq_false (fun h9 => h9 (by assumption))) (r_move rfl rfl) rfl<|oG (decide_eq_false (fun h9 => h9 (by assumption))) (r_move rfl rfl) rfl<|oG (decide_eq_false (fun h9 => h9 (by assumption))) (r_ixN (s := y) (q := k) sl_22 ti_57 rfl rfl rfl (fun w h => (h.at 1 rfl)) (show k < y.l.length from om9)) rfl<|oG (decide_eq_false (fun h9 => h9 (by assumption))) (r_fieldE (r := 1) fl_57_1 rfl rfl rfl) rfl<|oG (decide_eq_false (fun h9 => h9 (by assumption))) (r_lde (s := y) (i := k) (v := .int .i64 ((nth y.l k).n)) ti_3 rfl rfl rfl (fun w h => (h.at 1 rfl)) (show k < y.l.length from om9) (Nat.le_of_ble_eq_true rfl) rfl) rfl<|oG (decide_eq_false (fun h9 => h9 (by assumption))) (r_neqI (p := (nth x.l k).n) (q := (nth y.l k).n) rfl rfl rfl) rfl<|opF (decide_eq_false (fun h9 => h9 (by assumption))) rfl<|oM 1 rfl<|oG (decide_eq_false (fun h9 => h9 (by assumption))) (r_move rfl rfl) rfl<|oG (decide_eq_false (fun h9 => h9 (by assumption))) (r_move rfl rfl) rfl<|oG (decide_eq_false (fun h9 => h9 (by assumption))) (r_ixN (s := x) (q := k) sl_22 ti_57 rfl rfl rfl (fun w h => (h.at 0 rfl)) (show k < x.l.length from om9)) rfl<|oG (decide_eq_false (fun h9 => h9 (by assumption))) (r_fieldE (r := 3) fl_57_3 rfl rfl rfl) rfl<|oG (decide_eq_false (fun h9 => h9 (by assumption))) (r_lde (s := x) (i := k) (v := .string ((nth x.l k).t)) ti_9 rfl rfl rfl (fun w h => (h.at 0 rfl)) (show k < x.l.length from om9) (Nat.le_of_ble_eq_true rfl) rfl) rfl<|oG (decide_eq_false (fun h9 => h9 (by assumption))) (r_move rfl rfl) rfl<|oG (decide_eq_false (fun h9 => h9 (by assumption))) (r_move rfl rfl) rfl<|oG (decide_eq_false (fun h9 => h9 (by assumption))) (r_ixN (s := y) (q := k) sl_22 ti_57 rfl rfl rfl (fun w h => (h.at 1 rfl)) (show k < y.l.length from om9)) rfl<|oG (decide_eq_false (fun h9 => h9 (by assumption))) (r_fieldE (r := 3) fl_57_3 rfl rfl rfl) rfl<|oG (decide_eq_false (fun h9 => h9 (by assumption))) (r_lde (s := y) (i := k) (v := .string ((nth y.l k).t)) ti_9 rfl rfl rfl (fun w h => (h.at 1 rfl)) (show k < y.l.length from om9) (Nat.le_of_ble_eq_true rfl) rfl) rfl<|oG (decide_eq_false (fun h9 => h9 (by assumption))) (r_neqStr (s := ((nth x.l k).t)) (t := ((nth y.l k).t)) rfl rfl rfl) rfl<|opF (decide_eq_false (fun h9 => h9 (by assumption))) rfl<|oM 1 rfl<|oG (by rw [decide_eq_true hq4]; rfl) (r_move rfl rfl) rfl<|oG (by rw [decide_eq_true hq4]; rfl) (r_not rfl rfl) rfl<|opF (by rw [decide_eq_true hq4]; rfl) rfl<|oM 1 rfl<|oG (by rw [(decide_eq_true hq5)]; rfl) (r_move rfl rfl) rfl<|oG (by rw [(decide_eq_true hq5)]; rfl) (r_move rfl rfl) rfl<|oG rfl (r_move rfl rfl) rfl<|oG rfl (r_move rfl rfl) rfl<|oG rfl (r_ixN (s := x) (q := k) sl_22 ti_57 rfl rfl rfl (fun w h => (h.at 0 rfl)) (show k < x.l.length from om9)) rfl<|oG rfl (r_fieldE (r := 2) fl_57_2 rfl rfl rfl) rfl<|oG rfl (r_lde (s := x) (i := k) (v := .int .i64 ((nth x.l k).a)) ti_3 rfl rfl rfl (fun w h => (h.at 0 rfl)) (show k < x.l.length from om9) (Nat.le_of_ble_eq_true rfl) rfl) rfl<|oG rfl (r_move rfl rfl) rfl<|oG rfl (r_move rfl rfl) rfl<|oG rfl (r_ixN (s := y) (q := k) sl_22 ti_57 rfl rfl rfl (fun w h => (h.at 1 rfl)) (show k < y.l.length from om9)) rfl<|oG rfl (r_fieldE (r := 2) fl_57_2 rfl rfl rfl) rfl<|oG rfl (r_lde (s := y) (i := k) (v := .int .i64 ((nth y.l k).a)) ti_3 rfl rfl rfl (fun w h => (h.at 1 rfl)) (show k < y.l.length from om9) (Nat.le_of_ble_eq_true rfl) rfl) rfl<|oG rfl (r_neqI (p := (nth x.l k).a) (q := (nth y.l k).a) rfl rfl rfl) rfl<|oG (by rw [(decide_eq_true hq5)]; rfl) (r_pickT rfl rfl rfl rfl) rfl<|opF (by rw [(decide_eq_true hq5)]; rfl) rfl<|.nl)<|hK k26<|gF [0, 1, 2, 7, 87] rfl<|gcF rfl (decide_eq_false (fun h9 => h9 (by assumption)))<|gS<|hK k23<|gL<|gRn (oM 1 rfl<|oadN _ 1 om9 rfl<|oM 1 rfl<|.nl)<|nN<|fun a27 w27 h27 => ?_; clear hs25
  refine x_again ⟨_, ?_, k + 1, ?_, h27.nf ⟨rfl, rfl, rfl, rfl, trivial⟩, rfl⟩
  · rw [hm18]; first | omega | (simp only [lens9]; omega)
  · omega
 refine gX<|hK k16<|sG (oM 1 rfl<|.nl)<|gR<|fun a29 w29 h29 => x_ret1 (fn := Tryz.f9) (t := 6) rfl h29 rfl ?_
 exact ⟨rfl, (h29.sh.sel [] rfl)⟩

theorem syntaxParses_c (s : ByteArray) (W : World) :
    Rets Tryz.prog 3 [.string s] W (fun v w' => v = .bool true ∧ Sh0 W w' []) := by
 refine gen Tryz.func3 Tryz.ntmps3 (Sh0.start W : Sh (fun _ => False) W W []) rfl fun a10 h10 => gG h10<|sG (oM 1 rfl<|.nl)<|sK fun _ k12 => gRn (oM 1 rfl<|.nl)<|gC (fun _ _ h_ => xCl h_ bd_7 rfl (parse_c s _)) rfl<|?_; clear h10
 rintro _ _ w13 ⟨u13, c13, a13, rfl, hu13, hs13⟩
 refine gWk hs13 rfl<|gU<|gRn (oM 1 rfl<|oxt rfl<|oxt rfl<|.nl)<|gal ti_25 rfl fun b14 => gRn (oM 1 rfl<|.nl)<|gsw 0 ti_25 rfl rfl rfl<|nK k12<|sK fun _ k16 => gRn (oM 1 rfl<|.nl)<|gC (fun _ _ h_ => xCl h_ bd_8 rfl (dParse_c s _)) rfl<|?_; clear hs13
 rintro _ _ w17 ⟨u17, c17, a17, rfl, hu17, hs17⟩
 refine gWk hs17 rfl<|gU<|gRn (oM 1 rfl<|oxt rfl<|oxt rfl<|.nl)<|gal ti_25 rfl fun b18 => gRn (oM 1 rfl<|.nl)<|gsw 0 ti_25 rfl rfl rfl<|nK k16<|?_; clear hs17
 obtain ⟨hl9, hc9, ha9⟩ : u13.l.map NdL.nd = u17.l.map NdL.nd ∧ c13 = c17 ∧ a13 = a17 := by have h9 := hu13.trans hu17.symm; simp only [Prod.mk.injEq] at h9; exact h9
 refine sK fun _ k20 => gRn (oM 2 rfl<|.nl)<|gC (fun _ _ h_ => xCl h_ bd_9 rfl (dSame_c u13 u17 _ (h_.sh.deep 3 rfl) (h_.sh.deep 1 rfl) hl9)) rfl<|?_
 rintro _ _ w21 ⟨rfl, hs21⟩
 refine gWk hs21 rfl<|gU<|gRn (oM 1 rfl<|.nl)<|nK k20<|sG (olw 2 ti_25 rfl rfl<|olw 0 ti_25 rfl rfl<|oV (r_eqS rfl rfl rfl (fun w => eq_flt3G _ _ ⟨c13, 0, a13⟩ ⟨c17, 0, a17⟩ w) (fun w => eq_flt3 ⟨c13, 0, a13⟩ ⟨c17, 0, a17⟩ w)) rfl<|oM 1 rfl<|oG (decide_eq_true (by rw [hc9, ha9])) (r_move rfl rfl) rfl<|opT (decide_eq_true (by rw [hc9, ha9])) rfl<|oM 1 rfl<|.nl)<|gF [2] rfl<|gR<|fun a23 w23 h23 => ?_; clear hs21
 refine x_ret1 (fn := Tryz.f3) (t := 2) rfl h23 rfl ?_
 exact ⟨rfl, (h23.sh.sel [] rfl)⟩

end Go.Proofs.YthdkmhaneellcaaGreatDoor
