/-
  Contracts of functions of this program and of the references, each walked once.
-/
import Derived.Test.YtmgikmjmdppfmaaX20
namespace Go.Proofs.Ytmgikmjmdppfmaa
open Go.RowKit
set_option linter.unusedSimpArgs false
set_option linter.unusedVariables false
set_option maxRecDepth 100000
set_option maxHeartbeats 1000000


def sumStep (h : Nat) (x : Int) : Nat := ((h ^^^ toU x) * 1099511628211 % 18446744073709551616) ^^^ (((h ^^^ toU x) * 1099511628211 % 18446744073709551616) / 2 ^ 29)
def sumL (l : List Int) : Nat := l.foldl sumStep (toU (l.length : Int)) % 4096
theorem sumL_lt (l : List Int) : sumL l < 4096 := Nat.mod_lt _ (by decide)
/-- The order of lists. -/
def lessB : List Int → List Int → Bool
  | a :: l, b :: m => if a = b then lessB l m else decide (a < b)
  | l, m => decide (l.length < m.length)
theorem lessB_ne : ∀ {l m : List Int} (i : Nat), i < l.length → i < m.length → (∀ j, j < i → nth l j = nth m j) → nth l i ≠ nth m i → lessB l m = decide (nth l i < nth m i)
  | a :: l, b :: m, 0, _, _, _, h => by
    have h' : a ≠ b := h
    unfold lessB; rw [if_neg h']; rfl
  | a :: l, b :: m, i + 1, hl, hm, hall, h => by
    have h0 : a = b := hall 0 (by omega)
    unfold lessB; rw [if_pos h0]
    exact lessB_ne i (by simpa using hl) (by simpa using hm) (fun j hj => hall (j + 1) (by omega)) h
theorem lessB_end : ∀ {l m : List Int} (i : Nat), i ≤ l.length → i ≤ m.length → (i = l.length ∨ i = m.length) → (∀ j, j < i → nth l j = nth m j) → lessB l m = decide (l.length < m.length)
  | [], m, i, _, _, _, _ => by unfold lessB; rfl
  | a :: l, [], i, _, _, _, _ => by unfold lessB; rfl
  | a :: l, b :: m, 0, _, _, h, _ => by simp at h
  | a :: l, b :: m, i + 1, hl, hm, he, hall => by
    have h0 : a = b := hall 0 (by omega)
    have ih := lessB_end (l := l) (m := m) i (by simpa using hl) (by simpa using hm) (by simpa using he) (fun j hj => hall (j + 1) (by omega))
    unfold lessB; rw [if_pos h0, ih]; simp
/-- The order of outcomes. -/
def aheadB (a b : Outc) : Bool := if a.st = b.st then (if a.words = b.words then lessB a.prints b.prints else lessB a.words b.words) else decide (a.st < b.st)

theorem sameOut {l m : List OutL} (hl : l.length = m.length) (h : ∀ i, i < l.length → (nth l i).out = (nth m i).out) : l.map OutL.out = m.map OutL.out := by
  refine ext_nth _ _ (by simpa using hl) fun i hi => ?_
  have hi' : i < l.length := by simpa using hi
  rw [nth_map' _ _ _ hi', nth_map' _ _ _ (by omega)]
  exact h i hi'
theorem sameAt {l m : List OutL} (h : l.map OutL.out = m.map OutL.out) (i : Nat) (hi : i < l.length) : (nth l i).out = (nth m i).out := by
  have hl : l.length = m.length := by simpa using congrArg List.length h
  have := congrArg (fun q => nth q i) h
  rwa [nth_map' _ _ _ hi, nth_map' _ _ _ (by omega)] at this
theorem LsNil {α : Type} [Enc α] (w : World) : (⟨.slice none 0 0, []⟩ : Ls α).At w := own_at (E := 0) (World.ownsRow_nil w 0 0 _ |> fun h => ⟨h, by simp, fun i hi => absurd hi (by simp)⟩)

theorem sum_c (x : Ls Int) (W : World) (hx : x.At W) :
    Rets Try.prog 66 [x.v] W (fun v w' => v = .int .i64 ((sumL x.l : Nat) : Int) ∧ Sh0 W w' []) := by
 refine gen Try.func66 Try.ntmps66 (Sh0.ext1 hx : Sh (fun _ => False) W W [.at_ x]) rfl fun a10 h10 => gG h10<|sG (oM 1 rfl<|.nl)<|sK fun _ k12 => gNl (aA 0 rfl) fun hl13 => gRn (oM 1 rfl<|oln sl_23 (aA 0 rfl) rfl<|oV (r_cvU Try.underlying3 Try.underlying134 rfl rfl) rfl<|oM 1 rfl<|.nl)<|nK k12<|gK fun _ k14 => sG (oM 1 rfl<|.nl)<|gB<|fun a17 w17 h17 => x_loop (fun m a w => ∃ (i hh : Nat), (i ≤ x.l.length) ∧ (hh < 18446744073709551616) ∧ (hh = (x.l.take i).foldl sumStep (toU (x.l.length : Int))) ∧ St 29 (fun _ => False) W a w [(0, x.v), (3, .int .u64 ((hh : Nat) : Int)), (4, .int .i64 ((i : Nat) : Int))] [.at_ x] ∧ m = x.l.length - i) ⟨_, 0, toU ((x.l.length : Nat) : Int), (by omega), (toU_lt _), (rfl), h17.nf ⟨rfl, rfl, rfl, trivial⟩, rfl⟩ ?_; clear h10
 clear h17
 rintro m16 a16 w16 ⟨i, hh, hi, hlt, hh2, h16, hm16⟩
 refine gG h16<|gK fun _ k18 => sG (oM 2 rfl<|oln sl_23 (aA 0 rfl) rfl<|oltN _ _ rfl<|.nl)<|?_; clear h16
 refine gcd rfl (fun hb20 hp20 => ?_) fun hb20 hp20 => ?_
 ·skip
  refine gS<|hK k18<|gK fun _ k21 => gB<|sG (oM 3 rfl<|oxN sl_23 ti_3 (aA 0 rfl) _ om9 rfl<|olI ti_3 (aA 0 rfl) om9 rfl<|oV (r_cvU Try.underlying3 Try.underlying134 rfl rfl) rfl<|oV (r_xorU (p := hh) (q := toU (nth x.l i)) rfl rfl rfl ⟨(by first | assumption | exact toU_lt _ | omega), (by first | assumption | exact toU_lt _ | omega)⟩) rfl<|oV (r_mulU (p := hh ^^^ (toU (nth x.l i))) (q := 1099511628211) rfl rfl rfl) rfl<|oM 1 rfl<|.nl)<|gL<|gRn (oM 2 rfl<|oV (r_shrU (p := (hh ^^^ (toU (nth x.l i))) * 1099511628211 % 18446744073709551616) (k := 29) rfl rfl rfl (by decide)) rfl<|oV (r_xorU (p := (hh ^^^ (toU (nth x.l i))) * 1099511628211 % 18446744073709551616) (q := ((hh ^^^ (toU (nth x.l i))) * 1099511628211 % 18446744073709551616) / 2 ^ 29) rfl rfl rfl ⟨(by first | assumption | exact toU_lt _ | omega), (by first | assumption | exact toU_lt _ | omega)⟩) rfl<|oM 1 rfl<|.nl)<|nK k21<|gL<|gRn (oM 1 rfl<|oadN _ 1 om9 rfl<|oM 1 rfl<|.nl)<|nN<|fun a23 w23 h23 => x_again ⟨_, ?_, i + 1, ((hh ^^^ (toU (nth x.l i))) * 1099511628211 % 18446744073709551616) ^^^ (((hh ^^^ (toU (nth x.l i))) * 1099511628211 % 18446744073709551616) / 2 ^ 29), ?_, ?_, ?_, h23.nf ⟨rfl, rfl, rfl, trivial⟩, rfl⟩
  · rw [hm16]; first | omega | (simp only [lens9]; omega)
  · omega
  · exact xor_lt64 (by omega) (by omega)
  · rw [take_succ_nth _ _ (by omega), List.foldl_append, ← hh2, List.foldl_cons, List.foldl_nil, sumStep]
 refine gX<|hK k14<|sG (oM 1 rfl<|oV (r_remU (p := hh) (q := 4096) rfl rfl rfl (by decide)) rfl<|oV (r_cvI Try.underlying134 Try.underlying3 rfl rfl (show hh % 4096 < 9223372036854775808 from om9)) rfl<|oM 1 rfl<|.nl)<|gR<|fun a25 w25 h25 => x_ret1 (fn := Try.f66) (t := 2) rfl h25 rfl <| ⟨?_, (h25.sh.sel [] rfl)⟩
 rw [show hh % 4096 = sumL x.l by rw [sumL, hh2, show i = x.l.length by omega, List.take_length]]

theorem less_c (x y : Ls Int) (W : World) (hx : x.At W) (hy : y.At W) :
    Rets Try.prog 77 [x.v, y.v] W (fun v w' => v = .bool (lessB x.l y.l) ∧ Sh0 W w' []) := by
 refine gen Try.func77 Try.ntmps77 (Sh0.ext2 hx hy : Sh (fun _ => False) W W [.at_ x, .at_ y]) rfl fun a10 h10 => gG h10<|sG (oM 1 rfl<|.nl)<|gK fun _ k12 => sG (oM 1 rfl<|.nl)<|gB<|fun a15 w15 h15 => x_loop (fun m a w => ∃ (i : Nat), (i ≤ x.l.length ∧ i ≤ y.l.length) ∧ (∀ j, j < i → nth x.l j = nth y.l j) ∧ St 41 (fun _ => False) W a w [(0, x.v), (1, y.v), (5, .int .i64 ((i : Nat) : Int))] [.at_ x, .at_ y] ∧ m = x.l.length - i) ⟨_, 0, (by omega), (fun j hj => absurd hj (by omega)), h15.nf ⟨rfl, rfl, rfl, trivial⟩, rfl⟩ ?_; clear h10
 clear h15
 rintro m14 a14 w14 ⟨i, hi, hall, h14, hm14⟩
 refine gG h14<|gK fun _ k16 => sK fun _ k17 => gNl (aA 0 rfl) fun hl18 => gRn (oM 2 rfl<|oln sl_23 (aA 0 rfl) rfl<|oltN _ _ rfl<|oM 1 rfl<|.nl)<|?_; clear h14
 rcases dsp (i < x.l.length) with ⟨hb19, hp19⟩ | ⟨hb19, hp19⟩
 ·skip
  refine gNl (aA 1 rfl) fun hl20 => gRn (oG hb19 (r_move rfl rfl) rfl<|oG hb19 (r_move rfl rfl) rfl<|oG hb19 (r_len (s := y) (n := y.l.length) sl_23 rfl rfl (fun w h => (h.at 1 rfl)) rfl) rfl<|oG hb19 (r_lssN (p := i) (q := y.l.length) rfl rfl rfl) rfl<|opT hb19 rfl<|.nl)<|nK k17<|gcd rfl (fun hb21 hp21 => ?_) fun hb21 hp21 => ?_
  ·skip
   refine gS<|hK k16<|gK fun _ k22 => gB<|gK fun _ k23 => rQ (oM 2 rfl<|oxN sl_23 ti_3 (aA 0 rfl) _ om9 rfl<|olI ti_3 (aA 0 rfl) om9 rfl<|oM 2 rfl<|oxN sl_23 ti_3 (aA 1 rfl) _ om9 rfl<|olI ti_3 (aA 1 rfl) om9 rfl<|oneI _ _ rfl<|.nl)<|hK k23<|gcd rfl (fun hb24 hp24 => ?_) fun hb24 hp24 => ?_
   ·skip
    refine gK fun _ k25 => rQ (oM 2 rfl<|oxN sl_23 ti_3 (aA 0 rfl) _ om9 rfl<|olI ti_3 (aA 0 rfl) om9 rfl<|oM 2 rfl<|oxN sl_23 ti_3 (aA 1 rfl) _ om9 rfl<|olI ti_3 (aA 1 rfl) om9 rfl<|oltI _ _ rfl<|oM 1 rfl<|.nl)<|hK k25<|gF [4] rfl<|gR<|uB<|uT<|uT<|uB<|uT<|fun a26 w26 h26 => x_ret1 (fn := Try.f77) (t := 4) rfl h26 rfl <| ⟨?_, (h26.sh.sel [] rfl)⟩
    congr 1
    first | exact (lessB_ne i (by omega) (by omega) (fun j hj => hall j hj) (by omega)).symm | exact (lessB_end i (by omega) (by omega) (by omega) (fun j hj => hall j hj)).symm
   refine gS<|hK k22<|gL<|gRn (oM 1 rfl<|oadN _ 1 om9 rfl<|oM 1 rfl<|.nl)<|nN<|fun a27 w27 h27 => x_again ⟨_, ?_, i + 1, ?_, ?_, h27.nf ⟨rfl, rfl, rfl, trivial⟩, rfl⟩
   · rw [hm14]; first | omega | (simp only [lens9]; omega)
   · omega
   · intro j hj; rcases Nat.lt_or_ge j i with h | h; exact hall j h; obtain rfl : j = i := (by omega); omega
  refine gX<|hK k12<|sG (oM 1 rfl<|oln sl_23 (aA 0 rfl) rfl<|oM 1 rfl<|oln sl_23 (aA 1 rfl) rfl<|oltN _ _ rfl<|oM 1 rfl<|.nl)<|gR<|fun a29 w29 h29 => x_ret1 (fn := Try.f77) (t := 4) rfl h29 rfl <| ⟨?_, (h29.sh.sel [] rfl)⟩
  congr 1
  first | exact (lessB_ne i (by omega) (by omega) (fun j hj => hall j hj) (by omega)).symm | exact (lessB_end i (by omega) (by omega) (by omega) (fun j hj => hall j hj)).symm
 refine gRn (oKs 4 hb19 rfl rfl<|opF hb19 rfl<|.nl)<|nK k17<|gcF rfl rfl<|gX<|hK k12<|sK fun _ k30 => gNl (aA 1 rfl) fun hl31 => gRn (oM 1 rfl<|oln sl_23 (aA 0 rfl) rfl<|oM 1 rfl<|oln sl_23 (aA 1 rfl) rfl<|oltN _ _ rfl<|oM 1 rfl<|.nl)<|nK k30<|gR<|fun a32 w32 h32 => x_ret1 (fn := Try.f77) (t := 4) rfl h32 rfl <| ⟨?_, (h32.sh.sel [] rfl)⟩
 congr 1
 first | exact (lessB_ne i (by omega) (by omega) (fun j hj => hall j hj) (by omega)).symm | exact (lessB_end i (by omega) (by omega) (by omega) (fun j hj => hall j hj)).symm

theorem ahead_c (x y : OutL) (W : World) (hxw : x.words.At W) (hxp : x.prints.At W) (hyw : y.words.At W) (hyp : y.prints.At W) :
    Rets Try.prog 70 [.agg #[.int .i64 x.st, x.words.v, x.prints.v], .agg #[.int .i64 y.st, y.words.v, y.prints.v]] W (fun v w' => v = .bool (aheadB x.out y.out) ∧ Sh0 W w' []) := by
 refine gen Try.func70 Try.ntmps70 (Sh0.ext4 hxw hxp hyw hyp : Sh (fun _ => False) W W [.at_ x.words, .at_ x.prints, .at_ y.words, .at_ y.prints]) rfl fun a10 h10 => gG h10<|sK fun _ k11 => gbx rfl rfl fun b12 => gbx rfl rfl fun b13 => gRn (oM 1 rfl<|.nl)<|nK k11<|gK fun _ k14 => sG (ofB fl_77_0 rfl<|olB 1 ti_3 rfl rfl<|ofB fl_77_0 rfl<|olB 0 ti_3 rfl rfl<|oneI _ _ rfl<|.nl)<|?_; clear h10
 refine gcd rfl (fun hb16 hp16 => ?_) fun hb16 hp16 => ?_
 ·skip
  refine sG (ofB fl_77_0 rfl<|olB 1 ti_3 rfl rfl<|ofB fl_77_0 rfl<|olB 0 ti_3 rfl rfl<|oltI _ _ rfl<|oM 1 rfl<|.nl)<|gR<|uT<|fun a18 w18 h18 => x_ret1 (fn := Try.f70) (t := 4) rfl h18 rfl <| ⟨?_, (h18.sh.sel [] rfl)⟩
  congr 1
  unfold aheadB OutL.out
  first | (rw [if_neg (by assumption)]; done) | (rw [if_pos (by omega), if_neg (by assumption)]; done) | (rw [if_pos (by omega), if_pos (by assumption)]; done) | (simp only []; rw [if_neg (by assumption)]; done) | (simp only []; rw [if_pos (by omega), if_neg (by assumption)]; done) | (simp only []; rw [if_pos (by omega), if_pos (by assumption)])
 refine gS<|hK k14<|sK fun _ k19 => gRn (ofB fl_77_1 rfl<|olB 1 ti_23 rfl rfl<|ofB fl_77_1 rfl<|olB 0 ti_23 rfl rfl<|.nl)<|gP (fun _ _ h_ => xCl h_ bd_34 rfl (ints_c x.words y.words _ (h_.sh.at 2 rfl) (h_.sh.at 4 rfl))) rfl<|gRn (oM 1 rfl<|.nl)<|nK k19<|gK fun _ k21 => sG (oM 1 rfl<|ont rfl<|.nl)<|gCb rfl (fun hb23 => ?_) fun hb23 => ?_
 ·have hp23 : ¬ (x.words.l = y.words.l) := by simpa using hb23
  refine sK fun _ k24 => gRn (ofB fl_77_1 rfl<|olB 1 ti_23 rfl rfl<|ofB fl_77_1 rfl<|olB 0 ti_23 rfl rfl<|.nl)<|gP (fun _ _ h_ => xCl h_ bd_77 rfl (less_c x.words y.words _ (h_.sh.at 2 rfl) (h_.sh.at 4 rfl))) rfl<|gRn (oM 1 rfl<|.nl)<|nK k24<|gR<|uT<|fun a26 w26 h26 => x_ret1 (fn := Try.f70) (t := 4) rfl h26 rfl <| ⟨?_, (h26.sh.sel [] rfl)⟩
  congr 1
  unfold aheadB OutL.out
  first | (rw [if_neg (by assumption)]; done) | (rw [if_pos (by omega), if_neg (by assumption)]; done) | (rw [if_pos (by omega), if_pos (by assumption)]; done) | (simp only []; rw [if_neg (by assumption)]; done) | (simp only []; rw [if_pos (by omega), if_neg (by assumption)]; done) | (simp only []; rw [if_pos (by omega), if_pos (by assumption)])
 have hp23 : x.words.l = y.words.l := by simpa using hb23
 refine gS<|hK k21<|sK fun _ k27 => gRn (ofB fl_77_2 rfl<|olB 1 ti_23 rfl rfl<|ofB fl_77_2 rfl<|olB 0 ti_23 rfl rfl<|.nl)<|gP (fun _ _ h_ => xCl h_ bd_77 rfl (less_c x.prints y.prints _ (h_.sh.at 3 rfl) (h_.sh.at 5 rfl))) rfl<|gRn (oM 1 rfl<|.nl)<|nK k27<|gR<|fun a29 w29 h29 => x_ret1 (fn := Try.f70) (t := 4) rfl h29 rfl <| ⟨?_, (h29.sh.sel [] rfl)⟩
 congr 1
 unfold aheadB OutL.out
 first | (rw [if_neg (by assumption)]; done) | (rw [if_pos (by omega), if_neg (by assumption)]; done) | (rw [if_pos (by omega), if_pos (by assumption)]; done) | (simp only []; rw [if_neg (by assumption)]; done) | (simp only []; rw [if_pos (by omega), if_neg (by assumption)]; done) | (simp only []; rw [if_pos (by omega), if_pos (by assumption)])

theorem sameO_c (x y : Ls OutL) (W : World) (hx : x.At W) (hy : y.At W) :
    Rets Try.prog 15 [x.v, y.v] W (fun v w' => v = .bool (decide (x.l.map OutL.out = y.l.map OutL.out)) ∧ Sh0 W w' []) := by
 refine gen Try.func15 Try.ntmps15 (Sh0.ext2 hx hy : Sh (fun _ => False) W W [.at_ x, .at_ y]) rfl fun a10 h10 => gG h10<|sG (oM 1 rfl<|.nl)<|gK fun _ k12 => sK fun _ k13 => gNl (aA 0 rfl) fun hl14 => gNl (aA 1 rfl) fun hl15 => gRn (oM 1 rfl<|oln sl_40 (aA 0 rfl) rfl<|oM 1 rfl<|oln sl_40 (aA 1 rfl) rfl<|oneN _ _ rfl<|.nl)<|nK k13<|?_; clear h10
 refine gcd rfl (fun hb16 hp16 => ?_) fun hb16 hp16 => ?_
 ·skip
  refine sG (oM 1 rfl<|.nl)<|gR<|uT<|fun a18 w18 h18 => x_ret1 (fn := Try.f15) (t := 4) rfl h18 rfl <| ⟨?_, (h18.sh.sel [] rfl)⟩
  congr 1
  first | (refine (decide_eq_true (sameOut (by omega) fun j hj => hall j (by omega))).symm; done) | (refine (decide_eq_false fun e => ?_).symm; have e1 := congrArg List.length e; simp only [List.length_map] at e1; first | omega | (have e2 := sameAt e i (by omega); have e3 := congrArg Outc.st e2; have e4 := congrArg Outc.words e2; have e5 := congrArg Outc.prints e2; simp only [OutL.out] at e3 e4 e5; first | omega | (exact absurd e4 (by assumption)) | (exact absurd e5 (by assumption))))
 refine gS<|hK k12<|gK fun _ k19 => sG (oM 1 rfl<|.nl)<|gB<|fun a22 w22 h22 => x_loop (fun m a w => ∃ (i : Nat), (i ≤ x.l.length) ∧ (∀ j, j < i → (nth x.l j).out = (nth y.l j).out) ∧ St 60 (fun _ => False) W a w [(0, x.v), (1, y.v), (5, .int .i64 ((i : Nat) : Int))] [.at_ x, .at_ y] ∧ m = x.l.length - i) ⟨_, 0, (by omega), (fun j hj => absurd hj (by omega)), h22.nf ⟨rfl, rfl, rfl, trivial⟩, rfl⟩ ?_
 clear h22
 rintro m21 a21 w21 ⟨i, hi, hall, h21, hm21⟩
 refine gG h21<|gK fun _ k23 => sG (oM 2 rfl<|oln sl_40 (aA 0 rfl) rfl<|oltN _ _ rfl<|.nl)<|?_; clear h21
 refine gcd rfl (fun hb25 hp25 => ?_) fun hb25 hp25 => ?_
 ·skip
  refine gS<|hK k23<|gK fun _ k26 => gB<|gK fun _ k27 => fun a28 w28 h28 => x_quiet (by kernel_rfl) (by kernel_rfl) h28 fun _ z29 => qQ h28.fr<|qRn (oM 2 rfl<|oxN sl_40 ti_77 (aA 0 rfl) _ om9 rfl<|ofE fl_77_1 rfl<|olE (((nth x.l i).words).v) ti_23 (aA 0 rfl) om9 rfl<|oM 2 rfl<|oxN sl_40 ti_77 (aA 1 rfl) _ om9 rfl<|ofE fl_77_1 rfl<|olE (((nth y.l i).words).v) ti_23 (aA 1 rfl) om9 rfl<|.nl)<|qP bd_34 rfl (fun w h => (ints_c ((nth x.l i).words) ((nth y.l i).words) _ ((h.at 0 rfl).inner i (show i < x.l.length from (by omega))).1 ((h.at 1 rfl).inner i (show i < y.l.length from (by omega))).1))<|qRn (oM 1 rfl<|.nl)<|qN z29<|hK k27<|gK fun _ k30 => fun a31 w31 h31 => x_quiet (by kernel_rfl) (by kernel_rfl) h31 fun _ z32 => qQ h31.fr<|qRn (oM 2 rfl<|oxN sl_40 ti_77 (aA 0 rfl) _ om9 rfl<|ofE fl_77_2 rfl<|olE (((nth x.l i).prints).v) ti_23 (aA 0 rfl) om9 rfl<|oM 2 rfl<|oxN sl_40 ti_77 (aA 1 rfl) _ om9 rfl<|ofE fl_77_2 rfl<|olE (((nth y.l i).prints).v) ti_23 (aA 1 rfl) om9 rfl<|.nl)<|qP bd_34 rfl (fun w h => (ints_c ((nth x.l i).prints) ((nth y.l i).prints) _ ((h.at 0 rfl).inner i (show i < x.l.length from (by omega))).2 ((h.at 1 rfl).inner i (show i < y.l.length from (by omega))).2))<|qRn (oM 1 rfl<|.nl)<|qN z32<|hK k30<|gF [0, 1, 5, 6, 7] rfl<|gK fun _ k33 => fun a34 w34 h34 => x_quiet (by kernel_rfl) (by kernel_rfl) h34 fun _ z35 => qQ h34.fr<|qRn (oM 2 rfl<|oxN sl_40 ti_77 (aA 0 rfl) _ om9 rfl<|ofE fl_77_0 rfl<|olI ti_3 (aA 0 rfl) om9 rfl<|oM 2 rfl<|oxN sl_40 ti_77 (aA 1 rfl) _ om9 rfl<|ofE fl_77_0 rfl<|olI ti_3 (aA 1 rfl) om9 rfl<|oneI _ _ rfl<|oM 1 rfl<|.nl)<|?_; clear h28 h31
  rcases dsp ((nth x.l i).st ≠ (nth y.l i).st) with ⟨hb36, hp36⟩ | ⟨hb36, hp36⟩
  ·skip
   refine qRn (oKs 2 hb36 rfl rfl<|opT hb36 rfl<|oM 1 rfl<|oKs 2 rfl rfl rfl<|opT rfl rfl<|.nl)<|qN z35<|?_; clear h34
   refine hK k33<|gcT rfl rfl<|sG (oM 1 rfl<|.nl)<|gF [4] rfl<|gR<|uB<|uT<|uT<|uB<|uT<|fun a40 w40 h40 => x_ret1 (fn := Try.f15) (t := 4) rfl h40 rfl <| ⟨?_, (h40.sh.sel [] rfl)⟩
   congr 1
   first | (refine (decide_eq_true (sameOut (by omega) fun j hj => hall j (by omega))).symm; done) | (refine (decide_eq_false fun e => ?_).symm; have e1 := congrArg List.length e; simp only [List.length_map] at e1; first | omega | (have e2 := sameAt e i (by omega); have e3 := congrArg Outc.st e2; have e4 := congrArg Outc.words e2; have e5 := congrArg Outc.prints e2; simp only [OutL.out] at e3 e4 e5; first | omega | (exact absurd e4 (by assumption)) | (exact absurd e5 (by assumption))))
  refine qRn (oG hb36 (r_move rfl rfl) rfl<|oG hb36 (r_not rfl rfl) rfl<|opF hb36 rfl<|oM 1 rfl<|.nl)<|?_
  rcases Bool.eq_false_or_eq_true (!(decide (((nth x.l i).words).l = ((nth y.l i).words).l))) with hb43 | hb43
  ·have hp43 : ¬ (((nth x.l i).words).l = ((nth y.l i).words).l) := by simpa using hb43
   refine qRn (oKs 2 hb43 rfl rfl<|opT hb43 rfl<|.nl)<|qN z35<|?_; clear h34
   refine hK k33<|gcT rfl rfl<|sG (oM 1 rfl<|.nl)<|gF [4] rfl<|gR<|uB<|uT<|uT<|uB<|uT<|fun a46 w46 h46 => x_ret1 (fn := Try.f15) (t := 4) rfl h46 rfl <| ⟨?_, (h46.sh.sel [] rfl)⟩
   congr 1
   first | (refine (decide_eq_true (sameOut (by omega) fun j hj => hall j (by omega))).symm; done) | (refine (decide_eq_false fun e => ?_).symm; have e1 := congrArg List.length e; simp only [List.length_map] at e1; first | omega | (have e2 := sameAt e i (by omega); have e3 := congrArg Outc.st e2; have e4 := congrArg Outc.words e2; have e5 := congrArg Outc.prints e2; simp only [OutL.out] at e3 e4 e5; first | omega | (exact absurd e4 (by assumption)) | (exact absurd e5 (by assumption))))
  have hp43 : ((nth x.l i).words).l = ((nth y.l i).words).l := by simpa using hb43
  refine qRn (oG hb43 (r_move rfl rfl) rfl<|oG hb43 (r_not rfl rfl) rfl<|opF hb43 rfl<|.nl)<|qN z35<|?_; clear h34
  refine hK k33<|gCb rfl (fun hb49 => ?_) fun hb49 => ?_
  ·have hp49 : ¬ (((nth x.l i).prints).l = ((nth y.l i).prints).l) := by simpa using hb49
   refine sG (oM 1 rfl<|.nl)<|gF [4] rfl<|gR<|uB<|uT<|uT<|uB<|uT<|fun a51 w51 h51 => x_ret1 (fn := Try.f15) (t := 4) rfl h51 rfl <| ⟨?_, (h51.sh.sel [] rfl)⟩
   congr 1
   first | (refine (decide_eq_true (sameOut (by omega) fun j hj => hall j (by omega))).symm; done) | (refine (decide_eq_false fun e => ?_).symm; have e1 := congrArg List.length e; simp only [List.length_map] at e1; first | omega | (have e2 := sameAt e i (by omega); have e3 := congrArg Outc.st e2; have e4 := congrArg Outc.words e2; have e5 := congrArg Outc.prints e2; simp only [OutL.out] at e3 e4 e5; first | omega | (exact absurd e4 (by assumption)) | (exact absurd e5 (by assumption))))
  have hp49 : ((nth x.l i).prints).l = ((nth y.l i).prints).l := by simpa using hb49
  refine gS<|hK k26<|gL<|gRn (oM 1 rfl<|oadN _ 1 om9 rfl<|oM 1 rfl<|.nl)<|nN<|fun a52 w52 h52 => x_again ⟨_, ?_, i + 1, ?_, ?_, h52.nf ⟨rfl, rfl, rfl, trivial⟩, rfl⟩
  · rw [hm21]; first | omega | (simp only [lens9]; omega)
  · omega
  · intro j hj; rcases Nat.lt_or_ge j i with h | h; exact hall j h; obtain rfl : j = i := (by omega); unfold OutL.out; congr 1 <;> first | assumption | omega
 refine gX<|hK k19<|sG (oM 1 rfl<|.nl)<|gR<|fun a54 w54 h54 => x_ret1 (fn := Try.f15) (t := 4) rfl h54 rfl <| ⟨?_, (h54.sh.sel [] rfl)⟩
 congr 1
 first | (refine (decide_eq_true (sameOut (by omega) fun j hj => hall j (by omega))).symm; done) | (refine (decide_eq_false fun e => ?_).symm; have e1 := congrArg List.length e; simp only [List.length_map] at e1; first | omega | (have e2 := sameAt e i (by omega); have e3 := congrArg Outc.st e2; have e4 := congrArg Outc.words e2; have e5 := congrArg Outc.prints e2; simp only [OutL.out] at e3 e4 e5; first | omega | (exact absurd e4 (by assumption)) | (exact absurd e5 (by assumption))))

end Go.Proofs.Ytmgikmjmdppfmaa
