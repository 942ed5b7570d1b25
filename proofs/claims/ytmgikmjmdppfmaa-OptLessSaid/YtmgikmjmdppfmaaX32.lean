/-
  Contracts of functions of this program and of the references, each walked once.
-/
import Derived.Test.YtmgikmjmdppfmaaX2
import Derived.Test.YtmgikmjmdppfmaaS12
section
namespace Go.Proofs.Ytmgikmjmdppfmaa
open Go.RowKit
set_option linter.unusedSimpArgs false
set_option linter.unusedVariables false

theorem ar_55 : arI Try.prog 55 = some (200, 4) := by kernel_rfl

end Go.Proofs.Ytmgikmjmdppfmaa
end
namespace Go.Proofs.Ytmgikmjmdppfmaa
open Go.RowKit
set_option linter.unusedSimpArgs false
set_option linter.unusedVariables false
set_option maxRecDepth 100000
set_option maxHeartbeats 1000000


/-- The register that an order writes; -1: none. -/
def wrG (x : Ins) : Int := if x.op = 13 then x.b else if x.op ≤ 8 ∨ x.op = 10 then x.a else -1

theorem writes_c (x : Ins) (W : World) (hop : 1 ≤ x.op) :
    Rets Try.prog 44 [.agg #[.int .i64 x.op, .int .i64 x.a, .int .i64 x.b, .int .i64 x.c]] W (fun v w' => v = .int .i64 (wrG x) ∧ Sh0 W w' []) := by
 refine gen Try.func44 Try.ntmps44 (Sh0.start W : Sh (fun _ => False) W W []) rfl fun a10 h10 => gG h10<|sK fun _ k11 => gbx rfl rfl fun b12 => gRn (oM 1 rfl<|.nl)<|nK k11<|gK fun _ k13 => gB<|sG (ofB fl_44_0 rfl<|olB 0 ti_3 rfl rfl<|oeqI _ _ rfl<|oM 1 rfl<|.nl)<|?_; clear h10
 refine gcd rfl (fun hb15 hp15 => ?_) fun hb15 hp15 => ?_
 ·skip
  refine sG (ofB fl_44_2 rfl<|olB 0 ti_3 rfl rfl<|oM 1 rfl<|.nl)<|gR<|uB<|uT<|fun a17 w17 h17 => x_ret1 (fn := Try.f44) (t := 2) rfl h17 rfl <| ⟨?_, (h17.sh.sel [] rfl)⟩
  congr 1
  unfold wrG
  (repeat' split) <;> first | rfl | (exfalso; omega) | omega
 refine sK fun _ k18 => gRn (ofB fl_44_0 rfl<|olB 0 ti_3 rfl rfl<|oleI _ _ rfl<|oM 1 rfl<|.nl)<|?_
 rcases dsp (x.op ≤ 8) with ⟨hb19, hp19⟩ | ⟨hb19, hp19⟩
 ·skip
  refine gRn (oKs 3 hb19 rfl rfl<|opT hb19 rfl<|oM 1 rfl<|.nl)<|nK k18<|gcT rfl rfl<|sG (ofB fl_44_1 rfl<|olB 0 ti_3 rfl rfl<|oM 1 rfl<|.nl)<|gR<|uB<|uT<|fun a21 w21 h21 => x_ret1 (fn := Try.f44) (t := 2) rfl h21 rfl <| ⟨?_, (h21.sh.sel [] rfl)⟩
  congr 1
  unfold wrG
  (repeat' split) <;> first | rfl | (exfalso; omega) | omega
 refine gRn (oG hb19 (r_fieldB (r := 0) fl_44_0 rfl rfl rfl) rfl<|oG hb19 (r_ldb (i := 0) ti_3 rfl rfl rfl rfl) rfl<|oG hb19 (r_eqlI (p := x.op) (q := 10) rfl rfl rfl) rfl<|opF hb19 rfl<|oM 1 rfl<|.nl)<|nK k18<|gcd rfl (fun hb22 hp22 => ?_) fun hb22 hp22 => ?_
 ·skip
  refine sG (ofB fl_44_1 rfl<|olB 0 ti_3 rfl rfl<|oM 1 rfl<|.nl)<|gR<|uB<|uT<|fun a24 w24 h24 => x_ret1 (fn := Try.f44) (t := 2) rfl h24 rfl <| ⟨?_, (h24.sh.sel [] rfl)⟩
  congr 1
  unfold wrG
  (repeat' split) <;> first | rfl | (exfalso; omega) | omega
 refine gS<|hK k13<|sG (oM 1 rfl<|.nl)<|gR<|fun a26 w26 h26 => x_ret1 (fn := Try.f44) (t := 2) rfl h26 rfl <| ⟨?_, (h26.sh.sel [] rfl)⟩
 congr 1
 unfold wrG
 (repeat' split) <;> first | rfl | (exfalso; omega) | omega

end Go.Proofs.Ytmgikmjmdppfmaa
