/-
  Contracts of functions of this program and of the references, each walked once.
-/
import Derived.Test.YtmgikmjmdppfmaaX2
import Derived.Test.YtmgikmjmdppfmaaS12
section
namespace Go.Proofs.Ytmgikmjmdppfmaa
open Go.RowKit
set_option linter.unusedSimpArgs false
set_option linter.unusedVariables false

theorem ar_55 : arI Try.prog 55 = some (200, 4) := by kernel_rfl

end Go.Proofs.Ytmgikmjmdppfmaa
end
namespace Go.Proofs.Ytmgikmjmdppfmaa
open Go.RowKit
set_option linter.unusedSimpArgs false
set_option linter.unusedVariables false
set_option maxRecDepth 100000
set_option maxHeartbeats 1000000


/-- The register that an order writes; -1: none. -/
def wrG (x : Ins) : Int := if x.op = 13 then x.b else if x.op ≤ 8 ∨ x.op = 10 then x.a else -1

theorem writes_c (x : Ins) (W : World) (hop : 1 ≤ x.op) :
    Rets Try.prog 44 [.agg #[.int .i64 x.op, .int .i64 x.a, .int .i64 x.b, .int .i64 x.c]] W (fun v w' => v = .int .i64 (wrG x) ∧ Sh0 W w' []) := by
 refine gen Try.func44 Try.ntmps44 (Sh0.start W : Sh (fun _ => False) W W []) rfl fun a10 h10 => gG h10<|sK fun _ k11 => gbx rfl rfl fun b12 => gRn (oM 1 rfl<|.nl)<|nK k11<|gK fun _ k13 => gB<|sG (ofB fl_44_0 rfl<|olB 0 ti_3 rfl rfl<|oeqI _ _ rfl<|oM 1 rfl<|.nl)<|?_; clear h10
 refine gcd rfl (fun hb15 hp15 => ?_) fun hb15 hp15 => ?_
 ·skip
  refine sG (ofB fl_44_2 rfl<|olB 0 ti_3 rfl rfl<|oM 1 rfl<|.nl)<|gR<|uB<|uT<|fun a17 w17 h17 => x_ret1 (fn := Try.f44) (t := 2) rfl h17 rfl <| ⟨?_, (h17.sh.sel [] rfl)⟩
  congr 1
  unfold wrG
  (repeat' split) <;> first | rfl | (exfalso; omega) | omega
 refine sK fun _ k18 => gRn (ofB fl_44_0 rfl<|olB 0 ti_3 rfl rfl<|oleI _ _ rfl<|oM 1 rfl<|.nl)<|?_
 rcases dsp (x.op ≤ 8) with ⟨hb19, hp19⟩ | ⟨hb19, hp19⟩
 ·skip
  refine gRn (oKs 3 hb19 rfl rfl<|opT hb19 rfl<|oM 1 rfl<|.nl)<|nK k18<|gcT rfl rfl<|sG (ofB fl_44_1 rfl<|olB 0 ti_3 rfl rfl<|oM 1 rfl<|.nl)<|gR<|uB<|uT<|fun a21 w21 h21 => x_ret1 (fn := Try.f44) (t := 2) rfl h21 rfl <| ⟨?_, (h21.sh.sel [] rfl)⟩
  congr 1
  unfold wrG
  (repeat' split) <;> first | rfl | (exfalso; omega) | omega
 refine gRn (oG hb19 (r_fieldB (r := 0) fl_44_0 rfl rfl rfl) rfl<|oG hb19 (r_ldb (i := 0) ti_3 rfl rfl rfl rfl) rfl<|oG hb19 (r_eqlI (p := x.op) (q := 10) rfl rfl rfl) rfl<|opF hb19 rfl<|oM 1 rfl<|.nl)<|nK k18<|gcd rfl (fun hb22 hp22 => ?_) fun hb22 hp22 => ?_
 ·skip
  refine sG (ofB fl_44_1 rfl<|olB 0 ti_3 rfl rfl<|oM 1 rfl<|.nl)<|gR<|uB<|uT<|fun a24 w24 h24 => x_ret1 (fn := Try.f44) (t := 2) rfl h24 rfl <| ⟨?_, (h24.sh.sel [] rfl)⟩
  congr 1
  unfold wrG
  (repeat' split) <;> first | rfl | (exfalso; omega) | omega
 refine gS<|hK k13<|sG (oM 1 rfl<|.nl)<|gR<|fun a26 w26 h26 => x_ret1 (fn := Try.f44) (t := 2) rfl h26 rfl <| ⟨?_, (h26.sh.sel [] rfl)⟩
 congr 1
 unfold wrG
 (repeat' split) <;> first | rfl | (exfalso; omega) | omega

theorem rWrites_c (x : Ins) (W : World) (hop : 1 ≤ x.op) :
    Rets Try.prog 46 [.agg #[.int .i64 x.op, .int .i64 x.a, .int .i64 x.b, .int .i64 x.c]] W (fun v w' => v = .int .i64 (wrG x) ∧ Sh0 W w' []) := by
 refine gen Try.func46 Try.ntmps46 (Sh0.start W : Sh (fun _ => False) W W []) rfl fun a10 h10 => gG h10<|sK fun _ k11 => gbx rfl rfl fun b12 => gRn (oM 1 rfl<|.nl)<|nK k11<|gK fun _ k13 => sG (ofB fl_44_0 rfl<|olB 0 ti_3 rfl rfl<|.nl)<|gB<|gK fun _ k15 => sG (oeqI _ _ rfl<|oM 1 rfl<|.nl)<|?_; clear h10
 refine gcd rfl (fun hb17 hp17 => ?_) fun hb17 hp17 => ?_
 ·skip
  refine gS<|hK k15<|gcT rfl hb17<|sG (ofB fl_44_1 rfl<|olB 0 ti_3 rfl rfl<|oM 1 rfl<|.nl)<|gR<|uB<|uT<|fun a19 w19 h19 => x_ret1 (fn := Try.f46) (t := 2) rfl h19 rfl <| ⟨?_, (h19.sh.sel [] rfl)⟩
  congr 1
  unfold wrG
  (repeat' split) <;> first | rfl | (exfalso; omega) | omega
 refine sG (oeqI _ _ rfl<|oM 1 rfl<|.nl)<|gcd rfl (fun hb21 hp21 => ?_) fun hb21 hp21 => ?_
 ·skip
  refine gS<|hK k15<|gcT rfl hb21<|sG (ofB fl_44_1 rfl<|olB 0 ti_3 rfl rfl<|oM 1 rfl<|.nl)<|gR<|uB<|uT<|fun a23 w23 h23 => x_ret1 (fn := Try.f46) (t := 2) rfl h23 rfl <| ⟨?_, (h23.sh.sel [] rfl)⟩
  congr 1
  unfold wrG
  (repeat' split) <;> first | rfl | (exfalso; omega) | omega
 refine sG (oeqI _ _ rfl<|oM 1 rfl<|.nl)<|gcd rfl (fun hb25 hp25 => ?_) fun hb25 hp25 => ?_
 ·skip
  refine gS<|hK k15<|gcT rfl hb25<|sG (ofB fl_44_1 rfl<|olB 0 ti_3 rfl rfl<|oM 1 rfl<|.nl)<|gR<|uB<|uT<|fun a27 w27 h27 => x_ret1 (fn := Try.f46) (t := 2) rfl h27 rfl <| ⟨?_, (h27.sh.sel [] rfl)⟩
  congr 1
  unfold wrG
  (repeat' split) <;> first | rfl | (exfalso; omega) | omega
 refine sG (oeqI _ _ rfl<|oM 1 rfl<|.nl)<|gcd rfl (fun hb29 hp29 => ?_) fun hb29 hp29 => ?_
 ·skip
  refine gS<|hK k15<|gcT rfl hb29<|sG (ofB fl_44_1 rfl<|olB 0 ti_3 rfl rfl<|oM 1 rfl<|.nl)<|gR<|uB<|uT<|fun a31 w31 h31 => x_ret1 (fn := Try.f46) (t := 2) rfl h31 rfl <| ⟨?_, (h31.sh.sel [] rfl)⟩
  congr 1
  unfold wrG
  (repeat' split) <;> first | rfl | (exfalso; omega) | omega
 refine sG (oeqI _ _ rfl<|oM 1 rfl<|.nl)<|gcd rfl (fun hb33 hp33 => ?_) fun hb33 hp33 => ?_
 ·skip
  refine gS<|hK k15<|gcT rfl hb33<|sG (ofB fl_44_1 rfl<|olB 0 ti_3 rfl rfl<|oM 1 rfl<|.nl)<|gR<|uB<|uT<|fun a35 w35 h35 => x_ret1 (fn := Try.f46) (t := 2) rfl h35 rfl <| ⟨?_, (h35.sh.sel [] rfl)⟩
  congr 1
  unfold wrG
  (repeat' split) <;> first | rfl | (exfalso; omega) | omega
 refine sG (oeqI _ _ rfl<|oM 1 rfl<|.nl)<|gcd rfl (fun hb37 hp37 => ?_) fun hb37 hp37 => ?_
 ·skip
  refine gS<|hK k15<|gcT rfl hb37<|sG (ofB fl_44_1 rfl<|olB 0 ti_3 rfl rfl<|oM 1 rfl<|.nl)<|gR<|uB<|uT<|fun a39 w39 h39 => x_ret1 (fn := Try.f46) (t := 2) rfl h39 rfl <| ⟨?_, (h39.sh.sel [] rfl)⟩
  congr 1
  unfold wrG
  (repeat' split) <;> first | rfl | (exfalso; omega) | omega
 refine sG (oeqI _ _ rfl<|oM 1 rfl<|.nl)<|gcd rfl (fun hb41 hp41 => ?_) fun hb41 hp41 => ?_
 ·skip
  refine gS<|hK k15<|gcT rfl hb41<|sG (ofB fl_44_1 rfl<|olB 0 ti_3 rfl rfl<|oM 1 rfl<|.nl)<|gR<|uB<|uT<|fun a43 w43 h43 => x_ret1 (fn := Try.f46) (t := 2) rfl h43 rfl <| ⟨?_, (h43.sh.sel [] rfl)⟩
  congr 1
  unfold wrG
  (repeat' split) <;> first | rfl | (exfalso; omega) | omega
 refine sG (oeqI _ _ rfl<|oM 1 rfl<|.nl)<|gcd rfl (fun hb45 hp45 => ?_) fun hb45 hp45 => ?_
 ·skip
  refine gS<|hK k15<|gcT rfl hb45<|sG (ofB fl_44_1 rfl<|olB 0 ti_3 rfl rfl<|oM 1 rfl<|.nl)<|gR<|uB<|uT<|fun a47 w47 h47 => x_ret1 (fn := Try.f46) (t := 2) rfl h47 rfl <| ⟨?_, (h47.sh.sel [] rfl)⟩
  congr 1
  unfold wrG
  (repeat' split) <;> first | rfl | (exfalso; omega) | omega
 refine gL<|gRn (oeqI _ _ rfl<|oM 1 rfl<|.nl)<|nK k15<|gcd rfl (fun hb48 hp48 => ?_) fun hb48 hp48 => ?_
 ·skip
  refine sG (ofB fl_44_1 rfl<|olB 0 ti_3 rfl rfl<|oM 1 rfl<|.nl)<|gR<|uB<|uT<|fun a50 w50 h50 => x_ret1 (fn := Try.f46) (t := 2) rfl h50 rfl <| ⟨?_, (h50.sh.sel [] rfl)⟩
  congr 1
  unfold wrG
  (repeat' split) <;> first | rfl | (exfalso; omega) | omega
 refine sG (oeqI _ _ rfl<|oM 1 rfl<|.nl)<|gcd rfl (fun hb52 hp52 => ?_) fun hb52 hp52 => ?_
 ·skip
  refine sG (ofB fl_44_2 rfl<|olB 0 ti_3 rfl rfl<|oM 1 rfl<|.nl)<|gR<|uB<|uT<|fun a54 w54 h54 => x_ret1 (fn := Try.f46) (t := 2) rfl h54 rfl <| ⟨?_, (h54.sh.sel [] rfl)⟩
  congr 1
  unfold wrG
  (repeat' split) <;> first | rfl | (exfalso; omega) | omega
 refine gS<|hK k13<|sG (oM 1 rfl<|.nl)<|gR<|fun a56 w56 h56 => x_ret1 (fn := Try.f46) (t := 2) rfl h56 rfl <| ⟨?_, (h56.sh.sel [] rfl)⟩
 congr 1
 unfold wrG
 (repeat' split) <;> first | rfl | (exfalso; omega) | omega

end Go.Proofs.Ytmgikmjmdppfmaa
