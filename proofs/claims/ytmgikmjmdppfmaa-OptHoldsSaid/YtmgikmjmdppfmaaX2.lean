/-
  Contracts of functions of this program and of the references, each walked once.
-/
import Derived.Test.YtmgikmjmdppfmaaX1
import Derived.Test.YtmgikmjmdppfmaaC1
namespace Go.Proofs.Ytmgikmjmdppfmaa
open Go.RowKit
set_option linter.unusedSimpArgs false
set_option linter.unusedVariables false
set_option maxRecDepth 100000
set_option maxHeartbeats 2000000


theorem take_succ_nth {α : Type} [Inhabited α] (l : List α) (k : Nat) (h : k < l.length) : l.take (k + 1) = l.take k ++ [nth l k] := by
  rw [List.take_succ_eq_append_getElem h, nth_lt l k h]
theorem ext_nth {α : Type} [Inhabited α] (l m : List α) (hl : l.length = m.length) (h : ∀ i, i < l.length → nth l i = nth m i) : l = m := by
  apply List.ext_getElem hl
  intro i h1 h2
  have := h i h1
  rwa [nth_lt l i h1, nth_lt m i h2] at this

/-- Every jump of a thread leads to a place of it. -/
def JumpsOK (code : List Ins) : Prop := ∀ i, i < code.length → ((nth code i).op = 14 → 0 ≤ (nth code i).a ∧ (nth code i).a ≤ code.length) ∧ ((nth code i).op = 15 → 0 ≤ (nth code i).b ∧ (nth code i).b ≤ code.length)

def placeL (become : List (List Ins)) (i : Nat) : Nat := ((become.take i).map List.length).sum
theorem placeL_succ (become : List (List Ins)) (i : Nat) (h : i < become.length) : placeL become (i + 1) = placeL become i + (nth become i).length := by
  unfold placeL
  rw [take_succ_nth _ _ h]
  simp
instance : DecidableEq Pg := fun p q => by
  rcases p with ⟨a, b, c, d⟩; rcases q with ⟨a', b', c', d'⟩
  exact decidable_of_iff (a = a' ∧ b = b' ∧ c = c' ∧ d = d') (by simp)
section
variable {code code2 : Ls (Ls Ins)} {words words2 : Ls Int} {locks regs locks2 regs2 : Int}
end
theorem ints_c (x y : Ls Int) (W : World) (hx : x.At W) (hy : y.At W) :
    Rets Try.prog 34 [x.v, y.v] W (fun v w' => v = .bool (decide (x.l = y.l)) ∧ Sh0 W w' []) := by
 refine gen Try.func34 Try.ntmps34 (Sh0.ext2 hx hy : Sh (fun _ => False) W W [.at_ x, .at_ y]) rfl fun a10 h10 => gG h10<|sG (oM 1 rfl<|.nl)<|gK fun _ k12 => sK fun _ k13 => gNl (aA 0 rfl) fun hl14 => gNl (aA 1 rfl) fun hl15 => gRn (oM 1 rfl<|oln sl_23 (aA 0 rfl) rfl<|oM 1 rfl<|oln sl_23 (aA 1 rfl) rfl<|oneN _ _ rfl<|.nl)<|nK k13<|?_; clear h10
 refine gcd rfl (fun hb16 hp16 => ?_) fun hb16 hp16 => ?_
 ·skip
  refine sG (oM 1 rfl<|.nl)<|gR<|uT<|fun a18 w18 h18 => x_ret1 (fn := Try.f34) (t := 4) rfl h18 rfl <| ⟨?_, (h18.sh.sel [] rfl)⟩
  congr 1
  first | (exact (decide_eq_true (ext_nth _ _ (by omega) fun i hi => hall i (by omega))).symm) | (refine (decide_eq_false fun e => ?_).symm; simp_all)
 refine gS<|hK k12<|gK fun _ k19 => sG (oM 1 rfl<|.nl)<|gB<|fun a22 w22 h22 => x_loop (fun m a w => ∃ (k : Nat), (k ≤ x.l.length) ∧ (∀ j, j < k → nth x.l j = nth y.l j) ∧ St 26 (fun _ => False) W a w [(0, x.v), (1, y.v), (5, .int .i64 ((k : Nat) : Int))] [.at_ x, .at_ y] ∧ m = x.l.length - k) ⟨_, 0, (by omega), (fun j hj => absurd hj (by omega)), h22.nf ⟨rfl, rfl, rfl, trivial⟩, rfl⟩ ?_
 clear h22
 rintro m21 a21 w21 ⟨k, hk, hall, h21, hm21⟩
 refine gG h21<|gK fun _ k23 => sG (oM 2 rfl<|oln sl_23 (aA 0 rfl) rfl<|oltN _ _ rfl<|.nl)<|?_; clear h21
 refine gcd rfl (fun hb25 hp25 => ?_) fun hb25 hp25 => ?_
 ·skip
  refine gS<|hK k23<|gK fun _ k26 => gB<|gK fun _ k27 => rQ (oM 2 rfl<|oxN sl_23 ti_3 (aA 0 rfl) _ om9 rfl<|olI ti_3 (aA 0 rfl) om9 rfl<|oM 2 rfl<|oxN sl_23 ti_3 (aA 1 rfl) _ om9 rfl<|olI ti_3 (aA 1 rfl) om9 rfl<|oneI _ _ rfl<|.nl)<|hK k27<|gcd rfl (fun hb28 hp28 => ?_) fun hb28 hp28 => ?_
  ·skip
   refine sG (oM 1 rfl<|.nl)<|gR<|uB<|uT<|uT<|uB<|uT<|fun a30 w30 h30 => x_ret1 (fn := Try.f34) (t := 4) rfl h30 rfl <| ⟨?_, (h30.sh.sel [] rfl)⟩
   congr 1
   first | (exact (decide_eq_true (ext_nth _ _ (by omega) fun i hi => hall i (by omega))).symm) | (refine (decide_eq_false fun e => ?_).symm; simp_all)
  refine gS<|hK k26<|gL<|gRn (oM 1 rfl<|oadN _ 1 om9 rfl<|oM 1 rfl<|.nl)<|nN<|fun a31 w31 h31 => x_again ⟨_, ?_, k + 1, ?_, ?_, h31.nf ⟨rfl, rfl, rfl, trivial⟩, rfl⟩
  · rw [hm21]; first | omega | (simp only [lens9]; omega)
  · omega
  · intro j hj; rcases Nat.lt_or_ge j k with h | h; exact hall j h; obtain rfl : j = k := (by omega); simp_all
 refine gX<|hK k19<|sG (oM 1 rfl<|.nl)<|gR<|fun a33 w33 h33 => x_ret1 (fn := Try.f34) (t := 4) rfl h33 rfl <| ⟨?_, (h33.sh.sel [] rfl)⟩
 congr 1
 first | (exact (decide_eq_true (ext_nth _ _ (by omega) fun i hi => hall i (by omega))).symm) | (refine (decide_eq_false fun e => ?_).symm; simp_all)

end Go.Proofs.Ytmgikmjmdppfmaa
