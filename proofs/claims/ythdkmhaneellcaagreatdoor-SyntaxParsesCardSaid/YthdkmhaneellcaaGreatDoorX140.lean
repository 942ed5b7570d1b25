/-
  Bytes and tokens: what a byte is; a prefix; a fault.
-/
import Derived.Test.YthdkmhaneellcaaGreatDoorQ0
import Derived.Test.YthdkmhaneellcaaGreatDoorX0
namespace Go.Proofs.YthdkmhaneellcaaGreatDoor
open Go.RowKit
set_option linter.unusedSimpArgs false
set_option linter.unusedVariables false
set_option maxRecDepth 100000
set_option maxHeartbeats 1000000

theorem letter_c (n : Int) (W : World) :
    Rets Tryz.prog 59 [.int .u8 n] W (fun v w' => v = .bool (letterN n) ∧ Sh0 W w' []) := by
 refine gen Tryz.func59 Tryz.ntmps59 (Sh0.start W : Sh (fun _ => False) W W []) rfl fun a10 h10 => gG h10<|sG (oM 1 rfl<|.nl)<|sK fun _ k12 => gRn (oM 1 rfl<|ogeI _ _ rfl<|oM 1 rfl<|.nl)<|?_; clear h10
 rcases dsp (97 ≤ n) with ⟨hb13, hp13⟩ | ⟨hb13, hp13⟩
 ·skip
  refine gRn (oG hb13 (r_move rfl rfl) rfl<|oG hb13 (r_leqI (p := n) (q := 122) rfl rfl rfl) rfl<|opT hb13 rfl<|oM 1 rfl<|.nl)<|?_
  rcases dsp (n ≤ 122) with ⟨hb14, hp14⟩ | ⟨hb14, hp14⟩
  ·skip
   refine gRn (oKs 2 hb14 rfl rfl<|opT hb14 rfl<|oM 1 rfl<|.nl)<|nK k12<|gR<|fun a15 w15 h15 => x_ret1 (fn := Tryz.f59) (t := 2) rfl h15 rfl <| ⟨congrArg Value.bool ?_, (h15.sh.sel [] rfl)⟩
   unfold letterN; first | rfl | (simp [*]; done) | (simp only [*]; done) | (simp [*]; omega)
  refine gRn (oG hb14 (r_move rfl rfl) rfl<|oG hb14 (r_eqlI (p := n) (q := 95) rfl rfl rfl) rfl<|opF hb14 rfl<|oM 1 rfl<|.nl)<|nK k12<|gR<|fun a16 w16 h16 => x_ret1 (fn := Tryz.f59) (t := 2) rfl h16 rfl <| ⟨congrArg Value.bool ?_, (h16.sh.sel [] rfl)⟩
  unfold letterN; first | rfl | (simp [*]; done) | (simp only [*]; done) | (simp [*]; omega)
 refine gRn (oKs 2 hb13 rfl rfl<|opF hb13 rfl<|oM 1 rfl<|oG rfl (r_move rfl rfl) rfl<|oG rfl (r_eqlI (p := n) (q := 95) rfl rfl rfl) rfl<|opF rfl rfl<|oM 1 rfl<|.nl)<|nK k12<|gR<|fun a17 w17 h17 => x_ret1 (fn := Tryz.f59) (t := 2) rfl h17 rfl <| ⟨congrArg Value.bool ?_, (h17.sh.sel [] rfl)⟩
 unfold letterN; first | rfl | (simp [*]; done) | (simp only [*]; done) | (simp [*]; omega)

theorem digit_c (n : Int) (W : World) :
    Rets Tryz.prog 62 [.int .u8 n] W (fun v w' => v = .bool (digitN n) ∧ Sh0 W w' []) := by
 refine gen Tryz.func62 Tryz.ntmps62 (Sh0.start W : Sh (fun _ => False) W W []) rfl fun a10 h10 => gG h10<|sG (oM 1 rfl<|.nl)<|sK fun _ k12 => gRn (oM 1 rfl<|ogeI _ _ rfl<|oM 1 rfl<|.nl)<|?_; clear h10
 rcases dsp (48 ≤ n) with ⟨hb13, hp13⟩ | ⟨hb13, hp13⟩
 ·skip
  refine gRn (oG hb13 (r_move rfl rfl) rfl<|oG hb13 (r_leqI (p := n) (q := 57) rfl rfl rfl) rfl<|opT hb13 rfl<|oM 1 rfl<|.nl)<|nK k12<|gR<|fun a14 w14 h14 => x_ret1 (fn := Tryz.f62) (t := 2) rfl h14 rfl <| ⟨congrArg Value.bool ?_, (h14.sh.sel [] rfl)⟩
  unfold digitN; first | rfl | (simp [*]; done) | (simp only [*]; done) | (simp [*]; omega)
 refine gRn (oKs 2 hb13 rfl rfl<|opF hb13 rfl<|oM 1 rfl<|.nl)<|nK k12<|gR<|fun a15 w15 h15 => x_ret1 (fn := Tryz.f62) (t := 2) rfl h15 rfl <| ⟨congrArg Value.bool ?_, (h15.sh.sel [] rfl)⟩
 unfold digitN; first | rfl | (simp [*]; done) | (simp only [*]; done) | (simp [*]; omega)

theorem rLetter_c (n : Int) (W : World) :
    Rets Tryz.prog 79 [.int .u8 n] W (fun v w' => v = .bool (letterN n) ∧ Sh0 W w' []) := by
 refine gen Tryz.func79 Tryz.ntmps79 (Sh0.start W : Sh (fun _ => False) W W []) rfl fun a10 h10 => gG h10<|sG (oM 1 rfl<|.nl)<|sK fun _ k12 => gRn (oM 1 rfl<|ogeI _ _ rfl<|oM 1 rfl<|.nl)<|?_; clear h10
 rcases dsp (97 ≤ n) with ⟨hb13, hp13⟩ | ⟨hb13, hp13⟩
 ·skip
  refine gRn (oG hb13 (r_move rfl rfl) rfl<|oG hb13 (r_leqI (p := n) (q := 122) rfl rfl rfl) rfl<|opT hb13 rfl<|oM 1 rfl<|.nl)<|?_
  rcases dsp (n ≤ 122) with ⟨hb14, hp14⟩ | ⟨hb14, hp14⟩
  ·skip
   refine gRn (oKs 2 hb14 rfl rfl<|opT hb14 rfl<|oM 1 rfl<|.nl)<|nK k12<|gR<|fun a15 w15 h15 => x_ret1 (fn := Tryz.f79) (t := 2) rfl h15 rfl <| ⟨congrArg Value.bool ?_, (h15.sh.sel [] rfl)⟩
   unfold letterN; first | rfl | (simp [*]; done) | (simp only [*]; done) | (simp [*]; omega)
  refine gRn (oG hb14 (r_move rfl rfl) rfl<|oG hb14 (r_eqlI (p := n) (q := 95) rfl rfl rfl) rfl<|opF hb14 rfl<|oM 1 rfl<|.nl)<|nK k12<|gR<|fun a16 w16 h16 => x_ret1 (fn := Tryz.f79) (t := 2) rfl h16 rfl <| ⟨congrArg Value.bool ?_, (h16.sh.sel [] rfl)⟩
  unfold letterN; first | rfl | (simp [*]; done) | (simp only [*]; done) | (simp [*]; omega)
 refine gRn (oKs 2 hb13 rfl rfl<|opF hb13 rfl<|oM 1 rfl<|oG rfl (r_move rfl rfl) rfl<|oG rfl (r_eqlI (p := n) (q := 95) rfl rfl rfl) rfl<|opF rfl rfl<|oM 1 rfl<|.nl)<|nK k12<|gR<|fun a17 w17 h17 => x_ret1 (fn := Tryz.f79) (t := 2) rfl h17 rfl <| ⟨congrArg Value.bool ?_, (h17.sh.sel [] rfl)⟩
 unfold letterN; first | rfl | (simp [*]; done) | (simp only [*]; done) | (simp [*]; omega)

theorem rDigit_c (n : Int) (W : World) :
    Rets Tryz.prog 80 [.int .u8 n] W (fun v w' => v = .bool (digitN n) ∧ Sh0 W w' []) := by
 refine gen Tryz.func80 Tryz.ntmps80 (Sh0.start W : Sh (fun _ => False) W W []) rfl fun a10 h10 => gG h10<|sG (oM 1 rfl<|.nl)<|sK fun _ k12 => gRn (oM 1 rfl<|ogeI _ _ rfl<|oM 1 rfl<|.nl)<|?_; clear h10
 rcases dsp (48 ≤ n) with ⟨hb13, hp13⟩ | ⟨hb13, hp13⟩
 ·skip
  refine gRn (oG hb13 (r_move rfl rfl) rfl<|oG hb13 (r_leqI (p := n) (q := 57) rfl rfl rfl) rfl<|opT hb13 rfl<|oM 1 rfl<|.nl)<|nK k12<|gR<|fun a14 w14 h14 => x_ret1 (fn := Tryz.f80) (t := 2) rfl h14 rfl <| ⟨congrArg Value.bool ?_, (h14.sh.sel [] rfl)⟩
  unfold digitN; first | rfl | (simp [*]; done) | (simp only [*]; done) | (simp [*]; omega)
 refine gRn (oKs 2 hb13 rfl rfl<|opF hb13 rfl<|oM 1 rfl<|.nl)<|nK k12<|gR<|fun a15 w15 h15 => x_ret1 (fn := Tryz.f80) (t := 2) rfl h15 rfl <| ⟨congrArg Value.bool ?_, (h15.sh.sel [] rfl)⟩
 unfold digitN; first | rfl | (simp [*]; done) | (simp only [*]; done) | (simp [*]; omega)

theorem rBlank_c (n : Int) (W : World) :
    Rets Tryz.prog 78 [.int .u8 n] W (fun v w' => v = .bool (blankN n) ∧ Sh0 W w' []) := by
 refine gen Tryz.func78 Tryz.ntmps78 (Sh0.start W : Sh (fun _ => False) W W []) rfl fun a10 h10 => gG h10<|sG (oM 1 rfl<|.nl)<|sK fun _ k12 => gRn (oM 1 rfl<|oeqI _ _ rfl<|oM 1 rfl<|.nl)<|?_; clear h10
 rcases dsp (n = 32) with ⟨hb13, hp13⟩ | ⟨hb13, hp13⟩
 ·skip
  refine gRn (oKs 2 hb13 rfl rfl<|opT hb13 rfl<|oM 1 rfl<|oKs 2 rfl rfl rfl<|opT rfl rfl<|oM 1 rfl<|oKs 2 rfl rfl rfl<|opT rfl rfl<|oM 1 rfl<|.nl)<|nK k12<|gR<|fun a14 w14 h14 => x_ret1 (fn := Tryz.f78) (t := 2) rfl h14 rfl <| ⟨congrArg Value.bool ?_, (h14.sh.sel [] rfl)⟩
  unfold blankN; first | rfl | (simp [*]; done) | (simp only [*]; done) | (simp [*]; omega)
 refine gRn (oG hb13 (r_move rfl rfl) rfl<|oG hb13 (r_eqlI (p := n) (q := 9) rfl rfl rfl) rfl<|opF hb13 rfl<|oM 1 rfl<|.nl)<|?_
 rcases dsp (n = 9) with ⟨hb15, hp15⟩ | ⟨hb15, hp15⟩
 ·skip
  refine gRn (oKs 2 hb15 rfl rfl<|opT hb15 rfl<|oM 1 rfl<|oKs 2 rfl rfl rfl<|opT rfl rfl<|oM 1 rfl<|.nl)<|nK k12<|gR<|fun a16 w16 h16 => x_ret1 (fn := Tryz.f78) (t := 2) rfl h16 rfl <| ⟨congrArg Value.bool ?_, (h16.sh.sel [] rfl)⟩
  unfold blankN; first | rfl | (simp [*]; done) | (simp only [*]; done) | (simp [*]; omega)
 refine gRn (oG hb15 (r_move rfl rfl) rfl<|oG hb15 (r_eqlI (p := n) (q := 13) rfl rfl rfl) rfl<|opF hb15 rfl<|oM 1 rfl<|.nl)<|?_
 rcases dsp (n = 13) with ⟨hb17, hp17⟩ | ⟨hb17, hp17⟩
 ·skip
  refine gRn (oKs 2 hb17 rfl rfl<|opT hb17 rfl<|oM 1 rfl<|.nl)<|nK k12<|gR<|fun a18 w18 h18 => x_ret1 (fn := Tryz.f78) (t := 2) rfl h18 rfl <| ⟨congrArg Value.bool ?_, (h18.sh.sel [] rfl)⟩
  unfold blankN; first | rfl | (simp [*]; done) | (simp only [*]; done) | (simp [*]; omega)
 refine gRn (oG hb17 (r_move rfl rfl) rfl<|oG hb17 (r_eqlI (p := n) (q := 10) rfl rfl rfl) rfl<|opF hb17 rfl<|oM 1 rfl<|.nl)<|nK k12<|gR<|fun a19 w19 h19 => x_ret1 (fn := Tryz.f78) (t := 2) rfl h19 rfl <| ⟨congrArg Value.bool ?_, (h19.sh.sel [] rfl)⟩
 unfold blankN; first | rfl | (simp [*]; done) | (simp only [*]; done) | (simp [*]; omega)

theorem rStands_c (n : Int) (W : World) :
    Rets Tryz.prog 77 [.int .u8 n] W (fun v w' => v = .bool (standsN n) ∧ Sh0 W w' []) := by
 refine gen Tryz.func77 Tryz.ntmps77 (Sh0.start W : Sh (fun _ => False) W W []) rfl fun a10 h10 => gG h10<|sG (oM 1 rfl<|.nl)<|sK fun _ k12 => gRn (oM 1 rfl<|.nl)<|gP (fun _ _ h_ => xCl h_ bd_78 rfl (rBlank_c n _)) rfl<|gRn (oM 1 rfl<|.nl)<|nK k12<|sK fun _ k14 => gRn (oM 2 rfl<|.nl)<|?_; clear h10
 rcases Bool.eq_false_or_eq_true (blankN n) with hb15 | hb15
 ·skip
  refine gRn (oKs 3 hb15 rfl rfl<|oK2 rfl<|oK2 rfl<|oK hb15 rfl<|opT hb15 rfl<|oM 1 rfl<|.nl)<|nK k14<|gR<|fun a16 w16 h16 => x_ret1 (fn := Tryz.f77) (t := 2) rfl h16 rfl <| ⟨congrArg Value.bool ?_, (h16.sh.sel [] rfl)⟩
  unfold standsN; first | rfl | (simp [*]; done) | (simp only [*]; done) | (simp [*]; omega)
 refine gRn (oG hb15 (r_move rfl rfl) rfl<|oG hb15 (r_geqI (p := n) (q := 32) rfl rfl rfl) rfl<|oG hb15 (r_move rfl rfl) rfl<|.nl)<|?_
 rcases dsp (32 ≤ n) with ⟨hb17, hp17⟩ | ⟨hb17, hp17⟩
 ·skip
  refine gRn (oG hb17 (r_move rfl rfl) rfl<|oG hb17 (r_leqI (p := n) (q := 126) rfl rfl rfl) rfl<|oG hb15 (r_pickT rfl rfl hb17 rfl) rfl<|opF hb15 rfl<|oM 1 rfl<|.nl)<|nK k14<|gR<|fun a18 w18 h18 => x_ret1 (fn := Tryz.f77) (t := 2) rfl h18 rfl <| ⟨congrArg Value.bool ?_, (h18.sh.sel [] rfl)⟩
  unfold standsN; first | rfl | (simp [*]; done) | (simp only [*]; done) | (simp [*]; omega)
 refine gRn (oKs 2 hb17 rfl rfl<|oG hb15 (r_pickF rfl rfl hb17 rfl) rfl<|opF hb15 rfl<|oM 1 rfl<|.nl)<|nK k14<|gR<|fun a19 w19 h19 => x_ret1 (fn := Tryz.f77) (t := 2) rfl h19 rfl <| ⟨congrArg Value.bool ?_, (h19.sh.sel [] rfl)⟩
 unfold standsN; first | rfl | (simp [*]; done) | (simp only [*]; done) | (simp [*]; omega)

end Go.Proofs.YthdkmhaneellcaaGreatDoor
