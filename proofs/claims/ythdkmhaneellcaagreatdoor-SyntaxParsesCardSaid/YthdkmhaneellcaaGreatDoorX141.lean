/-
  Whether a byte is a blank sign; a prefix: by the library.
-/
import Derived.Test.YthdkmhaneellcaaGreatDoorX140
import Derived.Test.YthdkmhaneellcaaGreatDoorSL
namespace Go.Proofs.YthdkmhaneellcaaGreatDoor
open Go.RowKit
set_option linter.unusedSimpArgs false
set_option linter.unusedVariables false
set_option maxRecDepth 100000
set_option maxHeartbeats 1000000


def S3 : ByteArray := ⟨#[9, 10, 13]⟩
theorem enc_hi (r : Int) (h0 : 128 ≤ r) (h1 : r < 256) : ∃ a b : UInt8, Utf8.encode r = ⟨#[a, b]⟩ ∧ 128 ≤ b.toNat := by
  have hv : Utf8.valid r = true := by simp [Utf8.valid]; omega
  have hc : ¬ r.toNat < 128 := by omega
  have hd : r.toNat < 2048 := by omega
  unfold Utf8.encode
  simp only [hv, if_true, hc, if_false, hd]
  refine ⟨_, _, rfl, ?_⟩
  simp; omega
theorem ib_13 {b : UInt8} (hb : 128 ≤ b.toNat) : Lib.indexByte (S3.extract 2 S3.size).data.toList ((b.toNat : Int)).toNat.toUInt8 = -1 := by
  have e : (S3.extract 2 S3.size).data.toList = [13] := by decide +kernel
  rw [e]
  have h : (13 : UInt8) ≠ b := fun e => by rw [← e] at hb; exact absurd hb (by decide)
  have e2 : ((b.toNat : Int)).toNat.toUInt8 = b := by simp
  rw [e2]
  simp [Lib.indexByte, h]
theorem bt_S3 : bt S3 1 = 10 := by rfl
theorem bt_ab {a b : UInt8} : bt ⟨#[a, b]⟩ 1 = (b.toNat : Int) := rfl
def hasP (s p : ByteArray) : Bool := Lib.hasPrefix s.data.toList p.data.toList
theorem hasPrefix_c (s p : ByteArray) (w : World) : Rets Tryz.prog 58 [.string s, .string p] w (fun v w' => v = .bool (hasP s p) ∧ Sh0 w w' []) := rets_pure (Tryz.strings_HasPrefix s p w)
theorem vRune_c (r : Int) (h0 : 128 ≤ r) (h1 : r < 256) (w : World) : Rets Tryz.prog 139 [.int .i32 r] w (fun v w' => v = .bool true ∧ Sh0 w w' []) := by
  have h := Tryz.utf8_ValidRune r w
  rw [show Lib.validRune r = true by simp [Lib.validRune]; omega] at h
  exact rets_pure h
theorem iByte_c (s : ByteArray) (c : Int) (w : World) : Rets Tryz.prog 138 [.string s, .int .u8 c] w (fun v w' => v = .int .i64 (Lib.indexByte s.data.toList c.toNat.toUInt8) ∧ Sh0 w w' []) := rets_pure (Tryz.strings_IndexByte s c w)

theorem idxHi_c (r : Int) (W : World) (h0 : 128 ≤ r) (h1 : r < 256) :
    Rets Tryz.prog 121 [.string S3, .int .i32 r] W (fun v w' => v = .int .i64 (-1) ∧ Sh0 W w' []) := by
 obtain ⟨ea, eb, hab, hb⟩ := enc_hi r h0 h1
 have hsz : S3.size = 3 := rfl
 have hsz2 : (⟨#[ea, eb]⟩ : ByteArray).size = 2 := rfl
 have hib := ib_13 hb
 have e1 := bt_S3
 have e2 := bt_ab (a := ea) (b := eb)
 refine gen Tryz.func121 Tryz.ntmps121 (Sh0.start W : Sh (fun _ => False) W W []) rfl fun a10 h10 => gG h10<|sG (oM 1 rfl<|.nl)<|gB<|sG (oM 1 rfl<|oleI _ _ rfl<|oM 1 rfl<|oG (decide_eq_true (by omega)) (r_move rfl rfl) rfl<|oG (decide_eq_true (by omega)) (r_lssI (p := r) (q := 128) rfl rfl rfl) rfl<|opT (decide_eq_true (by omega)) rfl<|oM 1 rfl<|.nl)<|gcF rfl (decide_eq_false (by omega))<|sG (oM 1 rfl<|oeqI _ _ rfl<|oM 1 rfl<|.nl)<|gcF rfl (decide_eq_false (by omega))<|sK fun _ k14 => gRn (oM 1 rfl<|.nl)<|gP (fun _ _ h_ => xCl h_ bd_139 rfl (vRune_c r h0 h1 _)) rfl<|gRn (ont rfl<|oM 1 rfl<|.nl)<|nK k14<|gcF rfl rfl<|gSc<|sG (oM 1 rfl<|oV (r_cvRn (n := r) (s := (⟨#[ea, eb]⟩ : ByteArray)) (by kernel_rfl) Tryz.underlying9 rfl rfl hab) rfl<|oM 1 rfl<|.nl)<|sG (oM 1 rfl<|oV (r_lenStr (s := (⟨#[ea, eb]⟩ : ByteArray)) Tryz.underlying9 rfl rfl) rfl<|osbN _ 1 (show 1 ≤ (⟨#[ea, eb]⟩ : ByteArray).size ∧ (⟨#[ea, eb]⟩ : ByteArray).size < 9223372036854775808 from om9) rfl<|oM 1 rfl<|.nl)<|sG (oM 2 rfl<|.nl)<|sG (oM 1 rfl<|.nl)<|gF [0, 7, 8, 9] rfl<|gK fun _ k20 => gB<|fun a22 w22 h22 => x_loop (fun m a w => St 187 (fun _ => False) W a w [(0, .string S3), (7, .string (⟨#[ea, eb]⟩ : ByteArray)), (8, .int .i64 ((((⟨#[ea, eb]⟩ : ByteArray).size) - 1 : Nat) : Int)), (9, .int .i64 ((((⟨#[ea, eb]⟩ : ByteArray).size) - 1 : Nat) : Int))] [] ∧ m = 0) ⟨_, h22.nf ⟨rfl, rfl, rfl, rfl, trivial⟩, rfl⟩ ?_; clear h10
 clear h22
 rintro m21 a21 w21 ⟨h21, hm21⟩
 refine gG h21<|gK fun _ k23 => sG (oM 2 rfl<|oV (r_lenStr (s := S3) Tryz.underlying9 rfl rfl) rfl<|oltN _ _ rfl<|.nl)<|gcT rfl (decide_eq_true (by omega))<|gS<|hK k23<|gB<|gSc<|gK fun _ k25 => gK fun _ k26 => rQ (oM 2 rfl<|oV (r_ixBt (s := S3) (q := ((⟨#[ea, eb]⟩ : ByteArray).size) - 1) Tryz.underlying9 rfl rfl rfl (show ((⟨#[ea, eb]⟩ : ByteArray).size) - 1 < S3.size from om9)) rfl<|oM 2 rfl<|oV (r_ixBt (s := (⟨#[ea, eb]⟩ : ByteArray)) (q := ((⟨#[ea, eb]⟩ : ByteArray).size) - 1) Tryz.underlying9 rfl rfl rfl (show ((⟨#[ea, eb]⟩ : ByteArray).size) - 1 < (⟨#[ea, eb]⟩ : ByteArray).size from om9)) rfl<|oneI _ _ rfl<|.nl)<|hK k26<|gcT rfl (decide_eq_true (by first | (rw [show (⟨#[ea, eb]⟩ : ByteArray).size - 1 = 1 from rfl, e1, e2]; omega) | omega))<|gK fun _ k27 => fun a28 w28 h28 => x_quiet (by kernel_rfl) (by kernel_rfl) h28 fun _ z29 => qQ h28.fr<|qRn (oM 2 rfl<|oadN _ 1 (show (((⟨#[ea, eb]⟩ : ByteArray).size) - 1) + 1 < 9223372036854775808 from om9) rfl<|oV (r_slSl (s := S3) (p := (((⟨#[ea, eb]⟩ : ByteArray).size) - 1) + 1) Tryz.underlying9 rfl rfl rfl (show (((⟨#[ea, eb]⟩ : ByteArray).size) - 1) + 1 ≤ S3.size from om9)) rfl<|oM 2 rfl<|oV (r_ixBt (s := (⟨#[ea, eb]⟩ : ByteArray)) (q := ((⟨#[ea, eb]⟩ : ByteArray).size) - 1) Tryz.underlying9 rfl rfl rfl (show ((⟨#[ea, eb]⟩ : ByteArray).size) - 1 < (⟨#[ea, eb]⟩ : ByteArray).size from om9)) rfl<|.nl)<|qP bd_138 rfl (fun w h => (iByte_c (S3.extract ((((⟨#[ea, eb]⟩ : ByteArray).size) - 1) + 1) S3.size) (bt (⟨#[ea, eb]⟩ : ByteArray) (((⟨#[ea, eb]⟩ : ByteArray).size) - 1)) _))<|qRn (oM 1 rfl<|.nl)<|qN z29<|hK k27<|gK fun _ k30 => sG (oM 1 rfl<|oltI _ _ rfl<|.nl)<|gcT rfl (decide_eq_true (by first | (rw [show (⟨#[ea, eb]⟩ : ByteArray).size - 1 + 1 = 2 from rfl, show (⟨#[ea, eb]⟩ : ByteArray).size - 1 = 1 from rfl, e2, hib]; decide) | omega))<|sG (oM 1 rfl<|.nl)<|gF [4] rfl<|gR<|uT<|uT<|uSc<|uB<|uT<|uB<|uT<|uSc<|uB<|fun a33 w33 h33 => ?_; clear h21 h28
 refine x_ret1 (fn := Tryz.f121) (t := 4) rfl h33 rfl ?_
 exact ⟨rfl, (h33.sh.sel [] rfl)⟩

theorem crHi_c (r : Int) (W : World) (h0 : 128 ≤ r) (h1 : r < 256) :
    Rets Tryz.prog 99 [.string S3, .int .i32 r] W (fun v w' => v = .bool false ∧ Sh0 W w' []) := by
 refine gen Tryz.func99 Tryz.ntmps99 (Sh0.start W : Sh (fun _ => False) W W []) rfl fun a10 h10 => gG h10<|sG (oM 1 rfl<|.nl)<|sK fun _ k12 => gRn (oM 2 rfl<|.nl)<|gP (fun _ _ h_ => xCl h_ bd_121 rfl (idxHi_c r _ h0 h1)) rfl<|gRn (ogeI _ _ rfl<|oM 1 rfl<|.nl)<|nK k12<|gR<|fun a14 w14 h14 => x_ret1 (fn := Tryz.f99) (t := 4) rfl h14 rfl ?_; clear h10
 exact ⟨rfl, (h14.sh.sel [] rfl)⟩

theorem ib_3 {r : Int} (h0 : 0 ≤ r) (h1 : r < 128) : decide (0 ≤ Lib.indexByte S3.data.toList r.toNat.toUInt8) = (decide (r = 9) || decide (r = 10) || decide (r = 13)) := by
  obtain ⟨n, rfl⟩ := Int.eq_ofNat_of_zero_le h0
  have key : ∀ n : Nat, n < 128 → decide (0 ≤ Lib.indexByte S3.data.toList n.toUInt8) = (decide ((n : Int) = 9) || decide ((n : Int) = 10) || decide ((n : Int) = 13)) := by decide +kernel
  exact key n (by omega)
theorem cRune_c (r : Int) (w : World) (h0 : 0 ≤ r ∧ r < 256) : Rets Tryz.prog 99 [.string S3, .int .i32 r] w (fun v w' => v = .bool (decide (r = 9 ∨ r = 10 ∨ r = 13)) ∧ Sh0 w w' []) := by
  have e9 : (decide (r = 9) || decide (r = 10) || decide (r = 13)) = decide (r = 9 ∨ r = 10 ∨ r = 13) := by rw [Bool.eq_iff_iff]; simp [or_assoc]
  rw [← e9]
  rcases Int.lt_or_le r 128 with h | h
  · have h2 := Tryz.strings_ContainsRune_ascii S3 r w h0.1 h
    rw [ib_3 h0.1 h] at h2
    exact rets_pure h2
  · refine Rets.mono (crHi_c r w h h0.2) ?_
    rintro v w' ⟨rfl, hs⟩
    exact ⟨by rw [decide_eq_false (show ¬ r = 9 by omega), decide_eq_false (show ¬ r = 10 by omega), decide_eq_false (show ¬ r = 13 by omega)]; rfl, hs⟩
end Go.Proofs.YthdkmhaneellcaaGreatDoor
