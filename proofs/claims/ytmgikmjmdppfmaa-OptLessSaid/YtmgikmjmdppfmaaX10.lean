/-
  Contracts of functions of this program and of the references, each walked once.
-/
import Derived.Test.YtmgikmjmdppfmaaX6
namespace Go.Proofs.Ytmgikmjmdppfmaa
open Go.RowKit
set_option linter.unusedSimpArgs false
set_option linter.unusedVariables false
set_option maxRecDepth 100000
set_option maxHeartbeats 1000000


def nextsL (code : List Ins) (i : Nat) : List Int := if (nth code i).op = 14 then [(nth code i).a] else if (nth code i).op = 15 then [((i + 1 : Nat) : Int), (nth code i).b] else [((i + 1 : Nat) : Int)]
def fenB (b : Bool) (x : Ins) : List Ins := if b = true then [x, ⟨12, 0, 0, 0⟩] else [x]
def fenW (w : Nat → Bool) (i : Nat) (x : Ins) : List Ins := fenB (w i) x
theorem nexts_c (x : Ls Ins) (i : Nat) (W : World) (hx : x.At W) (hi : i < x.l.length) (hl : x.l.length ≤ 100000) :
    Rets Try.prog 43 [x.v, .int .i64 ((i : Nat) : Int)] W (fun v w' => ∃ s : Ls Int, v = s.v ∧ Sh0 W w' [.own 3 (⟨s.v, nextsL x.l i⟩ : Ls Int)]) := by
 refine gen Try.func43 Try.ntmps43 (Sh0.ext1 hx : Sh (fun _ => False) W W [.at_ x]) rfl fun a10 h10 => gG h10<|sG (oM 1 rfl<|.nl)<|gK fun _ k12 => sK fun _ k13 => gNl (aA 0 rfl) fun hl14 => gRn (oM 2 rfl<|oxN sl_45 ti_44 (aA 0 rfl) _ om9 rfl<|olw2 [.int .i64 ((nth x.l i).op), .int .i64 ((nth x.l i).a), .int .i64 ((nth x.l i).b), .int .i64 ((nth x.l i).c)] ti_44 (aA 0 rfl) om9 rfl<|.nl)<|gal ti_44 rfl fun b15 => gsw 0 ti_44 rfl rfl rfl<|nK k13<|sG (ofB fl_44_0 rfl<|olB 0 ti_3 rfl rfl<|.nl)<|gB<|sG (oeqI _ _ rfl<|oM 1 rfl<|.nl)<|?_; clear h10
 refine gcd rfl (fun hb19 hp19 => ?_) fun hb19 hp19 => ?_
 ·skip
  refine sK fun _ k20 => gRn (ofB fl_44_1 rfl<|olB 0 ti_3 rfl rfl<|.nl)<|gE1 (fun _ _ h_ => x_lit (n := 1) (cs := [.int .i64 ((nth x.l i).a)]) ([(nth x.l i).a] : List Int) h_ sl_23 ti_3 rfl rfl rfl (by decide) rfl (by kernel_rfl) rfl (fun q hq w h => Flat.inner _ _) (fun q hq b hb => (Flat.on _ _ hb).elim) rfl rfl) rfl fun v21 => gRn (oM 1 rfl<|.nl)<|nK k20<|gR<|uB<|uT<|fun a22 w22 h22 => x_ret1 (fn := Try.f43) (t := 4) rfl h22 rfl <| ⟨⟨v21, []⟩, rfl, ?_⟩
  rw [show nextsL x.l i = [(nth x.l i).a] from by unfold nextsL; (repeat' split) <;> first | rfl | (exfalso; omega)]
  exact (h22.sh.sel [0] rfl)
 refine sG (oeqI _ _ rfl<|oM 1 rfl<|.nl)<|gcd rfl (fun hb24 hp24 => ?_) fun hb24 hp24 => ?_
 ·skip
  refine sK fun _ k25 => gRn (oM 1 rfl<|oadN _ 1 om9 rfl<|ofB fl_44_2 rfl<|olB 0 ti_3 rfl rfl<|.nl)<|gE1 (fun _ _ h_ => x_lit (n := 2) (cs := [.int .i64 ((i + 1 : Nat) : Int), .int .i64 ((nth x.l i).b)]) ([((i + 1 : Nat) : Int), (nth x.l i).b] : List Int) h_ sl_23 ti_3 rfl rfl rfl (by decide) rfl (by kernel_rfl) rfl (fun q hq w h => Flat.inner _ _) (fun q hq b hb => (Flat.on _ _ hb).elim) rfl rfl) rfl fun v26 => gRn (oM 1 rfl<|.nl)<|nK k25<|gR<|uB<|uT<|fun a27 w27 h27 => x_ret1 (fn := Try.f43) (t := 4) rfl h27 rfl <| ⟨⟨v26, []⟩, rfl, ?_⟩
  rw [show nextsL x.l i = [((i + 1 : Nat) : Int), (nth x.l i).b] from by unfold nextsL; (repeat' split) <;> first | rfl | (exfalso; omega)]
  exact (h27.sh.sel [0] rfl)
 refine gS<|hK k12<|sK fun _ k28 => gRn (oM 1 rfl<|oadN _ 1 om9 rfl<|.nl)<|gE1 (fun _ _ h_ => x_lit (n := 1) (cs := [.int .i64 ((i + 1 : Nat) : Int)]) ([((i + 1 : Nat) : Int)] : List Int) h_ sl_23 ti_3 rfl rfl rfl (by decide) rfl (by kernel_rfl) rfl (fun q hq w h => Flat.inner _ _) (fun q hq b hb => (Flat.on _ _ hb).elim) rfl rfl) rfl fun v29 => gRn (oM 1 rfl<|.nl)<|nK k28<|gR<|fun a30 w30 h30 => x_ret1 (fn := Try.f43) (t := 4) rfl h30 rfl <| ⟨⟨v29, []⟩, rfl, ?_⟩
 rw [show nextsL x.l i = [((i + 1 : Nat) : Int)] from by unfold nextsL; (repeat' split) <;> first | rfl | (exfalso; omega)]
 exact (h30.sh.sel [0] rfl)

end Go.Proofs.Ytmgikmjmdppfmaa
