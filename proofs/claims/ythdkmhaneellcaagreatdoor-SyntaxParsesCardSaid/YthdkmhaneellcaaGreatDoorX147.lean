/-
  The document cuts texts: blanks and notes, words, signs, one token.
-/
import Derived.Test.YthdkmhaneellcaaGreatDoorX146
namespace Go.Proofs.YthdkmhaneellcaaGreatDoor
open Go.RowKit
set_option linter.unusedSimpArgs false
set_option linter.unusedVariables false
set_option maxRecDepth 100000
set_option maxHeartbeats 4000000


theorem isWord_t {t x : ByteArray} (h : t = x) (hx : x ∈ wordL) : isWord t = true := by
  unfold isWord
  exact List.any_eq_true.2 ⟨x, hx, decide_eq_true h.symm⟩
theorem isWord_f {t : ByteArray} (h0 : ¬ t = ⟨#[105, 110, 116]⟩) (h1 : ¬ t = ⟨#[108, 111, 99, 107]⟩) (h2 : ¬ t = ⟨#[117, 110, 108, 111, 99, 107]⟩) (h3 : ¬ t = ⟨#[116, 104, 114, 101, 97, 100]⟩) (h4 : ¬ t = ⟨#[105, 102]⟩) (h5 : ¬ t = ⟨#[101, 108, 115, 101]⟩) (h6 : ¬ t = ⟨#[119, 104, 105, 108, 101]⟩) (h7 : ¬ t = ⟨#[112, 114, 105, 110, 116]⟩) (h8 : ¬ t = ⟨#[102, 101, 110, 99, 101]⟩) (h9 : ¬ t = ⟨#[99, 97, 115]⟩) : isWord t = false := by
  have key : ∀ x ∈ wordL, ¬ t = x := by
    intro x hx
    simp only [wordL, List.mem_cons, List.not_mem_nil, or_false] at hx
    rcases hx with rfl | rfl | rfl | rfl | rfl | rfl | rfl | rfl | rfl | rfl
    exact h0; exact h1; exact h2; exact h3; exact h4; exact h5; exact h6; exact h7; exact h8; exact h9
  unfold isWord
  exact List.any_eq_false.2 fun x hx => by simpa using fun e : x = t => key x hx e.symm
section
variable {s : ByteArray} {i : Nat}
theorem ext2 (h : i + 1 < s.size) (a b : UInt8) : (s.extract i (i + 2) = ⟨#[a, b]⟩) = (bt s i = (a.toNat : Int) ∧ bt s (i + 1) = (b.toNat : Int)) := by
  have h2 : i + 1 < s.data.toList.length := by rw [size_list]; exact h
  rw [bt_list h2, bt_list (show i < _ by omega)]
  rw [eq_iff_iff]
  constructor
  · intro e
    have e2 : (s.data.toList.drop i).take 2 = [a, b] := by rw [← ext_list2, e]
    rw [List.drop_eq_getElem_cons (by omega), List.drop_eq_getElem_cons h2] at e2
    simp only [List.take_succ_cons, List.take_zero, List.cons.injEq, and_true] at e2
    rw [e2.1, e2.2]
    exact ⟨rfl, rfl⟩
  · rintro ⟨e1, e2⟩
    apply ByteArray.ext
    apply Array.toList_inj.mp
    rw [ext_list2, List.drop_eq_getElem_cons (by omega), List.drop_eq_getElem_cons h2]
    simp only [List.take_succ_cons, List.take_zero]
    rw [show s.data.toList[i] = a from UInt8.toNat_inj.mp (by omega), show s.data.toList[i + 1] = b from UInt8.toNat_inj.mp (by omega)]
theorem ext2_0 (h : i + 1 < s.size) : (s.extract i (i + 2) = ⟨#[60, 61]⟩) = (bt s i = 60 ∧ bt s (i + 1) = 61) := ext2 h 60 61
theorem ext2_1 (h : i + 1 < s.size) : (s.extract i (i + 2) = ⟨#[62, 61]⟩) = (bt s i = 62 ∧ bt s (i + 1) = 61) := ext2 h 62 61
theorem ext2_2 (h : i + 1 < s.size) : (s.extract i (i + 2) = ⟨#[61, 61]⟩) = (bt s i = 61 ∧ bt s (i + 1) = 61) := ext2 h 61 61
theorem ext2_3 (h : i + 1 < s.size) : (s.extract i (i + 2) = ⟨#[33, 61]⟩) = (bt s i = 33 ∧ bt s (i + 1) = 61) := ext2 h 33 61
theorem ext2_4 (h : i + 1 < s.size) : (s.extract i (i + 2) = ⟨#[38, 38]⟩) = (bt s i = 38 ∧ bt s (i + 1) = 38) := ext2 h 38 38
theorem ext2_5 (h : i + 1 < s.size) : (s.extract i (i + 2) = ⟨#[124, 124]⟩) = (bt s i = 124 ∧ bt s (i + 1) = 124) := ext2 h 124 124
theorem numF_lt : ∀ k : Nat, k ≤ 8 → (∀ q, q < k → digitN (bt s (i + q)) = true) → 0 ≤ numF s i k ∧ numF s i k < 100000000 := by
  have key : ∀ k : Nat, (∀ q, q < k → digitN (bt s (i + q)) = true) → 0 ≤ numF s i k ∧ numF s i k < 10 ^ k := by
    intro k
    induction k with
    | zero => intro _; exact ⟨Int.le_refl _, show (0 : Int) < 10 ^ 0 by decide⟩
    | succ k ih =>
      intro hd
      have h1 := ih fun q hq => hd q (by omega)
      have h2 := digitN_iff.1 (hd k (by omega))
      have e : (10 : Int) ^ (k + 1) = 10 * 10 ^ k := by rw [Int.pow_succ, Int.mul_comm]
      show 0 ≤ 10 * numF s i k + (bt s (i + k) - 48) ∧ 10 * numF s i k + (bt s (i + k) - 48) < _
      rw [e]
      omega
  intro k hk hd
  have h1 := key k hd
  have h2 : (10 : Int) ^ k ≤ 10 ^ 8 := by
    rcases (by omega : k = 0 ∨ k = 1 ∨ k = 2 ∨ k = 3 ∨ k = 4 ∨ k = 5 ∨ k = 6 ∨ k = 7 ∨ k = 8) with rfl | rfl | rfl | rfl | rfl | rfl | rfl | rfl | rfl <;> decide
  have h3 : (10 : Int) ^ 8 = 100000000 := by decide
  omega
theorem run_at {p : Int → Bool} {n : Nat} (h1 : runS p s (i + n) = runS p s i) (h2 : i + n ≤ s.size) (h3 : s.size ≤ i + n ∨ (i + n < s.size ∧ p (bt s (i + n)) = false)) : runS p s i = i + n := by
  rw [← h1]
  rcases h3 with h3 | ⟨h3, h4⟩
  · exact runS_end h3
  · rw [runS_eq h3, if_neg (by rw [h4]; decide)]
theorem run_go {p : Int → Bool} {n : Nat} (h2 : i + n < s.size) (h3 : p (bt s (i + n)) = true) : runS p s (i + (n + 1)) = runS p s (i + n) := by
  rw [runS_eq h2, if_pos h3, Nat.add_assoc]
theorem run_at1 (hi : i < s.size) (h : letterN (bt s i) = true) : runS wordN s (i + 1) = runS wordN s i := (run_go (n := 0) hi (by unfold wordN; rw [show bt s (i + 0) = bt s i from rfl, h]; rfl))
theorem run_at2 (hi : i < s.size) (h : digitN (bt s i) = true) : runS digitN s (i + 1) = runS digitN s i := (run_go (n := 0) hi h)
theorem word_or {n : Int} (h : letterN n = true ∨ digitN n = true) : wordN n = true := by unfold wordN; rcases h with h | h <;> simp [h]
theorem word_no {n : Int} (h : letterN n = false) (h2 : digitN n = false) : wordN n = false := by unfold wordN; rw [h, h2]; rfl
/-- A token, its length and its fault, as the document says it. -/
def OneR (s : ByteArray) (i : Nat) (t : Tok) (n : Nat) (c : Int) : Prop := (c = 0 ∧ oneF s i = some (t, i + n)) ∨ (c = 5 ∧ oneF s i = none)
theorem oneR_word {n : Nat} (h : letterN (bt s i) = true) (e : runS wordN s i = i + n) (h2 : isWord (s.extract i (i + n)) = true) : OneR s i ⟨2, 0, i, s.extract i (i + n)⟩ n 0 := .inl ⟨rfl, by
  unfold oneF
  rw [if_pos h]
  simp only [e]
  rw [if_pos h2]⟩
theorem oneR_long {n : Nat} {t : Tok} {m : Nat} (h : letterN (bt s i) = true) (e : runS wordN s i = i + n) (h2 : isWord (s.extract i (i + n)) = false) (h3 : 12 < n) : OneR s i t m 5 := .inr ⟨rfl, by
  unfold oneF
  rw [if_pos h]
  simp only [e]
  rw [if_neg (by rw [h2]; decide), if_pos (by omega)]⟩
theorem oneR_name {n : Nat} (h : letterN (bt s i) = true) (e : runS wordN s i = i + n) (h2 : isWord (s.extract i (i + n)) = false) (h3 : ¬ 12 < n) : OneR s i ⟨1, 0, i, s.extract i (i + n)⟩ n 0 := .inl ⟨rfl, by
  unfold oneF
  rw [if_pos h]
  simp only [e]
  rw [if_neg (by rw [h2]; decide), if_neg (by omega)]⟩
theorem oneR_nnum {n : Nat} {t : Tok} {m : Nat} (h : letterN (bt s i) = false) (hd : digitN (bt s i) = true) (e : runS digitN s i = i + n) (h3 : 9 < n ∨ (1 < n ∧ bt s i = 48)) : OneR s i t m 5 := .inr ⟨rfl, by
  unfold oneF
  rw [if_neg (by rw [h]; decide), if_pos hd]
  simp only [e]
  rw [if_pos (by omega)]⟩
theorem oneR_num {n : Nat} {z : Int} (h : letterN (bt s i) = false) (hd : digitN (bt s i) = true) (e : runS digitN s i = i + n) (h3 : ¬ (9 < n ∨ (1 < n ∧ bt s i = 48))) (hz : z = numF s i (min n 9)) : OneR s i ⟨3, z, i, s.extract i (i + n)⟩ n 0 := .inl ⟨rfl, by
  unfold oneF
  rw [if_neg (by rw [h]; decide), if_pos hd]
  simp only [e]
  rw [if_neg (by omega), hz, show min n 9 = i + n - i by omega]⟩
theorem oneR_nsign {t : Tok} {m : Nat} (h : letterN (bt s i) = false) (hd : digitN (bt s i) = false) (e : signN s i = 0) : OneR s i t m 5 := .inr ⟨rfl, by
  unfold oneF
  rw [if_neg (by rw [h]; decide), if_neg (by rw [hd]; decide), if_pos e]⟩
theorem oneR_sign (h : letterN (bt s i) = false) (hd : digitN (bt s i) = false) (e : ¬ signN s i = 0) : OneR s i ⟨4, 0, i, s.extract i (i + signN s i)⟩ (signN s i) 0 := .inl ⟨rfl, by
  unfold oneF
  rw [if_neg (by rw [h]; decide), if_neg (by rw [hd]; decide), if_neg e]⟩
end

theorem rWord_c (s : ByteArray) (W : World) :
    Rets Tryz.prog 81 [.string s] W (fun v w' => v = .bool (isWord s) ∧ Sh0 W w' []) := by
 refine gen Tryz.func81 Tryz.ntmps81 (Sh0.start W : Sh (fun _ => False) W W []) rfl fun a10 h10 => gG h10<|sG (oM 1 rfl<|.nl)<|gK fun _ k12 => sG (oM 1 rfl<|.nl)<|gB<|gK fun _ k14 => sG (oV (r_eqlStr (s := s) (t := ({ data := #[105, 110, 116] })) rfl rfl rfl) rfl<|oM 1 rfl<|.nl)<|?_; clear h10
 refine gcd rfl (fun hb16 hp16 => ?_) fun hb16 hp16 => ?_
 ·skip
  refine gS<|hK k14<|gcT rfl hb16<|sG (oM 1 rfl<|.nl)<|gR<|uB<|uT<|fun a18 w18 h18 => x_ret1 (fn := Tryz.f81) (t := 2) rfl h18 rfl <| ⟨congrArg Value.bool ?_, (h18.sh.sel [] rfl)⟩
  exact (isWord_t (by assumption) (by simp [wordL])).symm
 refine sG (oV (r_eqlStr (s := s) (t := ({ data := #[108, 111, 99, 107] })) rfl rfl rfl) rfl<|oM 1 rfl<|.nl)<|gcd rfl (fun hb20 hp20 => ?_) fun hb20 hp20 => ?_
 ·skip
  refine gS<|hK k14<|gcT rfl hb20<|sG (oM 1 rfl<|.nl)<|gR<|uB<|uT<|fun a22 w22 h22 => x_ret1 (fn := Tryz.f81) (t := 2) rfl h22 rfl <| ⟨congrArg Value.bool ?_, (h22.sh.sel [] rfl)⟩
  exact (isWord_t (by assumption) (by simp [wordL])).symm
 refine sG (oV (r_eqlStr (s := s) (t := ({ data := #[117, 110, 108, 111, 99, 107] })) rfl rfl rfl) rfl<|oM 1 rfl<|.nl)<|gcd rfl (fun hb24 hp24 => ?_) fun hb24 hp24 => ?_
 ·skip
  refine gS<|hK k14<|gcT rfl hb24<|sG (oM 1 rfl<|.nl)<|gR<|uB<|uT<|fun a26 w26 h26 => x_ret1 (fn := Tryz.f81) (t := 2) rfl h26 rfl <| ⟨congrArg Value.bool ?_, (h26.sh.sel [] rfl)⟩
  exact (isWord_t (by assumption) (by simp [wordL])).symm
 refine sG (oV (r_eqlStr (s := s) (t := ({ data := #[116, 104, 114, 101, 97, 100] })) rfl rfl rfl) rfl<|oM 1 rfl<|.nl)<|gcd rfl (fun hb28 hp28 => ?_) fun hb28 hp28 => ?_
 ·skip
  refine gS<|hK k14<|gcT rfl hb28<|sG (oM 1 rfl<|.nl)<|gR<|uB<|uT<|fun a30 w30 h30 => x_ret1 (fn := Tryz.f81) (t := 2) rfl h30 rfl <| ⟨congrArg Value.bool ?_, (h30.sh.sel [] rfl)⟩
  exact (isWord_t (by assumption) (by simp [wordL])).symm
 refine sG (oV (r_eqlStr (s := s) (t := ({ data := #[105, 102] })) rfl rfl rfl) rfl<|oM 1 rfl<|.nl)<|gcd rfl (fun hb32 hp32 => ?_) fun hb32 hp32 => ?_
 ·skip
  refine gS<|hK k14<|gcT rfl hb32<|sG (oM 1 rfl<|.nl)<|gR<|uB<|uT<|fun a34 w34 h34 => x_ret1 (fn := Tryz.f81) (t := 2) rfl h34 rfl <| ⟨congrArg Value.bool ?_, (h34.sh.sel [] rfl)⟩
  exact (isWord_t (by assumption) (by simp [wordL])).symm
 refine sG (oV (r_eqlStr (s := s) (t := ({ data := #[101, 108, 115, 101] })) rfl rfl rfl) rfl<|oM 1 rfl<|.nl)<|gcd rfl (fun hb36 hp36 => ?_) fun hb36 hp36 => ?_
 ·skip
  refine gS<|hK k14<|gcT rfl hb36<|sG (oM 1 rfl<|.nl)<|gR<|uB<|uT<|fun a38 w38 h38 => x_ret1 (fn := Tryz.f81) (t := 2) rfl h38 rfl <| ⟨congrArg Value.bool ?_, (h38.sh.sel [] rfl)⟩
  exact (isWord_t (by assumption) (by simp [wordL])).symm
 refine sG (oV (r_eqlStr (s := s) (t := ({ data := #[119, 104, 105, 108, 101] })) rfl rfl rfl) rfl<|oM 1 rfl<|.nl)<|gcd rfl (fun hb40 hp40 => ?_) fun hb40 hp40 => ?_
 ·skip
  refine gS<|hK k14<|gcT rfl hb40<|sG (oM 1 rfl<|.nl)<|gR<|uB<|uT<|fun a42 w42 h42 => x_ret1 (fn := Tryz.f81) (t := 2) rfl h42 rfl <| ⟨congrArg Value.bool ?_, (h42.sh.sel [] rfl)⟩
  exact (isWord_t (by assumption) (by simp [wordL])).symm
 refine sG (oV (r_eqlStr (s := s) (t := ({ data := #[112, 114, 105, 110, 116] })) rfl rfl rfl) rfl<|oM 1 rfl<|.nl)<|gcd rfl (fun hb44 hp44 => ?_) fun hb44 hp44 => ?_
 ·skip
  refine gS<|hK k14<|gcT rfl hb44<|sG (oM 1 rfl<|.nl)<|gR<|uB<|uT<|fun a46 w46 h46 => x_ret1 (fn := Tryz.f81) (t := 2) rfl h46 rfl <| ⟨congrArg Value.bool ?_, (h46.sh.sel [] rfl)⟩
  exact (isWord_t (by assumption) (by simp [wordL])).symm
 refine sG (oV (r_eqlStr (s := s) (t := ({ data := #[102, 101, 110, 99, 101] })) rfl rfl rfl) rfl<|oM 1 rfl<|.nl)<|gcd rfl (fun hb48 hp48 => ?_) fun hb48 hp48 => ?_
 ·skip
  refine gS<|hK k14<|gcT rfl hb48<|sG (oM 1 rfl<|.nl)<|gR<|uB<|uT<|fun a50 w50 h50 => x_ret1 (fn := Tryz.f81) (t := 2) rfl h50 rfl <| ⟨congrArg Value.bool ?_, (h50.sh.sel [] rfl)⟩
  exact (isWord_t (by assumption) (by simp [wordL])).symm
 refine gL<|gRn (oV (r_eqlStr (s := s) (t := ({ data := #[99, 97, 115] })) rfl rfl rfl) rfl<|oM 1 rfl<|.nl)<|nK k14<|gcd rfl (fun hb51 hp51 => ?_) fun hb51 hp51 => ?_
 ·skip
  refine sG (oM 1 rfl<|.nl)<|gR<|uB<|uT<|fun a53 w53 h53 => x_ret1 (fn := Tryz.f81) (t := 2) rfl h53 rfl <| ⟨congrArg Value.bool ?_, (h53.sh.sel [] rfl)⟩
  exact (isWord_t (by assumption) (by simp [wordL])).symm
 refine gS<|hK k12<|sG (oM 1 rfl<|.nl)<|gR<|fun a55 w55 h55 => x_ret1 (fn := Tryz.f81) (t := 2) rfl h55 rfl <| ⟨congrArg Value.bool ?_, (h55.sh.sel [] rfl)⟩
 exact (isWord_f (by assumption) (by assumption) (by assumption) (by assumption) (by assumption) (by assumption) (by assumption) (by assumption) (by assumption) (by assumption)).symm

theorem rSign_c (s : ByteArray) (i : Nat) (W : World) (hsz : s.size ≤ 4000) (hi : i < s.size) :
    Rets Tryz.prog 82 [.string s, .int .i64 ((i : Nat) : Int)] W (fun v w' => v = .int .i64 ((signN s i : Nat) : Int) ∧ Sh0 W w' []) := by
 refine gen Tryz.func82 Tryz.ntmps82 (Sh0.start W : Sh (fun _ => False) W W []) rfl fun a10 h10 => gG h10<|sG (oM 1 rfl<|.nl)<|gK fun _ k12 => sG (oM 1 rfl<|oadN _ 1 om9 rfl<|oM 1 rfl<|oV (r_lenStr (s := s) Tryz.underlying9 rfl rfl) rfl<|oltN _ _ rfl<|.nl)<|?_; clear h10
 refine gcd rfl (fun hb14 hp14 => ?_) fun hb14 hp14 => ?_
 ·skip
  refine sG (oM 3 rfl<|oadN _ 2 om9 rfl<|oV (r_slS (s := s) (p := i) (q := i + 2) Tryz.underlying9 rfl rfl rfl rfl (show i ≤ i + 2 from om9) (show i + 2 ≤ s.size from om9)) rfl<|.nl)<|gB<|gK fun _ k16 => sG (oV (r_eqlStr (s := (s.extract i (i + 2))) (t := ({ data := #[60, 61] })) rfl rfl rfl) rfl<|oM 1 rfl<|.nl)<|gcd rfl (fun hb18 hp18 => ?_) fun hb18 hp18 => ?_
  ·skip
   refine gS<|hK k16<|gcT rfl hb18<|sG (oM 1 rfl<|.nl)<|gR<|uB<|uT<|fun a20 w20 h20 => x_ret1 (fn := Tryz.f82) (t := 4) rfl h20 rfl <| ⟨congrArg (fun n : Nat => Value.int .i64 (n : Int)) (?_ : 2 = _), (h20.sh.sel [] rfl)⟩
   clear h20
   unfold signN
   have hlt : i + 1 < s.size := (by assumption); simp only [ext2_0 hlt, ext2_1 hlt, ext2_2 hlt, ext2_3 hlt, ext2_4 hlt, ext2_5 hlt] at *; rw [if_pos ⟨hlt, by omega⟩]
  refine sG (oV (r_eqlStr (s := (s.extract i (i + 2))) (t := ({ data := #[62, 61] })) rfl rfl rfl) rfl<|oM 1 rfl<|.nl)<|gcd rfl (fun hb22 hp22 => ?_) fun hb22 hp22 => ?_
  ·skip
   refine gS<|hK k16<|gcT rfl hb22<|sG (oM 1 rfl<|.nl)<|gR<|uB<|uT<|fun a24 w24 h24 => x_ret1 (fn := Tryz.f82) (t := 4) rfl h24 rfl <| ⟨congrArg (fun n : Nat => Value.int .i64 (n : Int)) (?_ : 2 = _), (h24.sh.sel [] rfl)⟩
   clear h24
   unfold signN
   have hlt : i + 1 < s.size := (by assumption); simp only [ext2_0 hlt, ext2_1 hlt, ext2_2 hlt, ext2_3 hlt, ext2_4 hlt, ext2_5 hlt] at *; rw [if_pos ⟨hlt, by omega⟩]
  refine sG (oV (r_eqlStr (s := (s.extract i (i + 2))) (t := ({ data := #[61, 61] })) rfl rfl rfl) rfl<|oM 1 rfl<|.nl)<|gcd rfl (fun hb26 hp26 => ?_) fun hb26 hp26 => ?_
  ·skip
   refine gS<|hK k16<|gcT rfl hb26<|sG (oM 1 rfl<|.nl)<|gR<|uB<|uT<|fun a28 w28 h28 => x_ret1 (fn := Tryz.f82) (t := 4) rfl h28 rfl <| ⟨congrArg (fun n : Nat => Value.int .i64 (n : Int)) (?_ : 2 = _), (h28.sh.sel [] rfl)⟩
   clear h28
   unfold signN
   have hlt : i + 1 < s.size := (by assumption); simp only [ext2_0 hlt, ext2_1 hlt, ext2_2 hlt, ext2_3 hlt, ext2_4 hlt, ext2_5 hlt] at *; rw [if_pos ⟨hlt, by omega⟩]
  refine sG (oV (r_eqlStr (s := (s.extract i (i + 2))) (t := ({ data := #[33, 61] })) rfl rfl rfl) rfl<|oM 1 rfl<|.nl)<|gcd rfl (fun hb30 hp30 => ?_) fun hb30 hp30 => ?_
  ·skip
   refine gS<|hK k16<|gcT rfl hb30<|sG (oM 1 rfl<|.nl)<|gR<|uB<|uT<|fun a32 w32 h32 => x_ret1 (fn := Tryz.f82) (t := 4) rfl h32 rfl <| ⟨congrArg (fun n : Nat => Value.int .i64 (n : Int)) (?_ : 2 = _), (h32.sh.sel [] rfl)⟩
   clear h32
   unfold signN
   have hlt : i + 1 < s.size := (by assumption); simp only [ext2_0 hlt, ext2_1 hlt, ext2_2 hlt, ext2_3 hlt, ext2_4 hlt, ext2_5 hlt] at *; rw [if_pos ⟨hlt, by omega⟩]
  refine sG (oV (r_eqlStr (s := (s.extract i (i + 2))) (t := ({ data := #[38, 38] })) rfl rfl rfl) rfl<|oM 1 rfl<|.nl)<|gcd rfl (fun hb34 hp34 => ?_) fun hb34 hp34 => ?_
  ·skip
   refine gS<|hK k16<|gcT rfl hb34<|sG (oM 1 rfl<|.nl)<|gR<|uB<|uT<|fun a36 w36 h36 => x_ret1 (fn := Tryz.f82) (t := 4) rfl h36 rfl <| ⟨congrArg (fun n : Nat => Value.int .i64 (n : Int)) (?_ : 2 = _), (h36.sh.sel [] rfl)⟩
   clear h36
   unfold signN
   have hlt : i + 1 < s.size := (by assumption); simp only [ext2_0 hlt, ext2_1 hlt, ext2_2 hlt, ext2_3 hlt, ext2_4 hlt, ext2_5 hlt] at *; rw [if_pos ⟨hlt, by omega⟩]
  refine gL<|gRn (oV (r_eqlStr (s := (s.extract i (i + 2))) (t := ({ data := #[124, 124] })) rfl rfl rfl) rfl<|oM 1 rfl<|.nl)<|nK k16<|gcd rfl (fun hb37 hp37 => ?_) fun hb37 hp37 => ?_
  ·skip
   refine sG (oM 1 rfl<|.nl)<|gR<|uB<|uT<|fun a39 w39 h39 => x_ret1 (fn := Tryz.f82) (t := 4) rfl h39 rfl <| ⟨congrArg (fun n : Nat => Value.int .i64 (n : Int)) (?_ : 2 = _), (h39.sh.sel [] rfl)⟩
   clear h39
   unfold signN
   have hlt : i + 1 < s.size := (by assumption); simp only [ext2_0 hlt, ext2_1 hlt, ext2_2 hlt, ext2_3 hlt, ext2_4 hlt, ext2_5 hlt] at *; rw [if_pos ⟨hlt, by omega⟩]
  refine gS<|hK k12<|gK fun _ k40 => sG (oM 2 rfl<|oV (r_ixBt (s := s) (q := i) Tryz.underlying9 rfl rfl rfl (show i < s.size from om9)) rfl<|.nl)<|gB<|gK fun _ k42 => sG (oeqI _ _ rfl<|oM 1 rfl<|.nl)<|gF [24, 25] rfl<|gcd rfl (fun hb44 hp44 => ?_) fun hb44 hp44 => ?_
  ·skip
   refine gS<|hK k42<|gcT rfl hb44<|sG (oM 1 rfl<|.nl)<|gR<|uB<|uT<|fun a46 w46 h46 => x_ret1 (fn := Tryz.f82) (t := 4) rfl h46 rfl <| ⟨congrArg (fun n : Nat => Value.int .i64 (n : Int)) (?_ : 1 = _), (h46.sh.sel [] rfl)⟩
   clear h46
   unfold signN
   by_cases hlt : i + 1 < s.size; (first | (exfalso; omega) | (simp only [ext2_0 hlt, ext2_1 hlt, ext2_2 hlt, ext2_3 hlt, ext2_4 hlt, ext2_5 hlt] at *; rw [if_neg (by omega), if_pos (by simp; omega)])); (first | (exfalso; omega) | rw [if_neg (by omega), if_pos (by simp; omega)])
  refine sG (oeqI _ _ rfl<|oM 1 rfl<|.nl)<|gcd rfl (fun hb48 hp48 => ?_) fun hb48 hp48 => ?_
  ·skip
   refine gS<|hK k42<|gcT rfl hb48<|sG (oM 1 rfl<|.nl)<|gR<|uB<|uT<|fun a50 w50 h50 => x_ret1 (fn := Tryz.f82) (t := 4) rfl h50 rfl <| ⟨congrArg (fun n : Nat => Value.int .i64 (n : Int)) (?_ : 1 = _), (h50.sh.sel [] rfl)⟩
   clear h50
   unfold signN
   by_cases hlt : i + 1 < s.size; (first | (exfalso; omega) | (simp only [ext2_0 hlt, ext2_1 hlt, ext2_2 hlt, ext2_3 hlt, ext2_4 hlt, ext2_5 hlt] at *; rw [if_neg (by omega), if_pos (by simp; omega)])); (first | (exfalso; omega) | rw [if_neg (by omega), if_pos (by simp; omega)])
  refine sG (oeqI _ _ rfl<|oM 1 rfl<|.nl)<|gcd rfl (fun hb52 hp52 => ?_) fun hb52 hp52 => ?_
  ·skip
   refine gS<|hK k42<|gcT rfl hb52<|sG (oM 1 rfl<|.nl)<|gR<|uB<|uT<|fun a54 w54 h54 => x_ret1 (fn := Tryz.f82) (t := 4) rfl h54 rfl <| ⟨congrArg (fun n : Nat => Value.int .i64 (n : Int)) (?_ : 1 = _), (h54.sh.sel [] rfl)⟩
   clear h54
   unfold signN
   by_cases hlt : i + 1 < s.size; (first | (exfalso; omega) | (simp only [ext2_0 hlt, ext2_1 hlt, ext2_2 hlt, ext2_3 hlt, ext2_4 hlt, ext2_5 hlt] at *; rw [if_neg (by omega), if_pos (by simp; omega)])); (first | (exfalso; omega) | rw [if_neg (by omega), if_pos (by simp; omega)])
  refine sG (oeqI _ _ rfl<|oM 1 rfl<|.nl)<|gcd rfl (fun hb56 hp56 => ?_) fun hb56 hp56 => ?_
  ·skip
   refine gS<|hK k42<|gcT rfl hb56<|sG (oM 1 rfl<|.nl)<|gR<|uB<|uT<|fun a58 w58 h58 => x_ret1 (fn := Tryz.f82) (t := 4) rfl h58 rfl <| ⟨congrArg (fun n : Nat => Value.int .i64 (n : Int)) (?_ : 1 = _), (h58.sh.sel [] rfl)⟩
   clear h58
   unfold signN
   by_cases hlt : i + 1 < s.size; (first | (exfalso; omega) | (simp only [ext2_0 hlt, ext2_1 hlt, ext2_2 hlt, ext2_3 hlt, ext2_4 hlt, ext2_5 hlt] at *; rw [if_neg (by omega), if_pos (by simp; omega)])); (first | (exfalso; omega) | rw [if_neg (by omega), if_pos (by simp; omega)])
  refine sG (oeqI _ _ rfl<|oM 1 rfl<|.nl)<|gcd rfl (fun hb60 hp60 => ?_) fun hb60 hp60 => ?_
  ·skip
   refine gS<|hK k42<|gcT rfl hb60<|sG (oM 1 rfl<|.nl)<|gR<|uB<|uT<|fun a62 w62 h62 => x_ret1 (fn := Tryz.f82) (t := 4) rfl h62 rfl <| ⟨congrArg (fun n : Nat => Value.int .i64 (n : Int)) (?_ : 1 = _), (h62.sh.sel [] rfl)⟩
   clear h62
   unfold signN
   by_cases hlt : i + 1 < s.size; (first | (exfalso; omega) | (simp only [ext2_0 hlt, ext2_1 hlt, ext2_2 hlt, ext2_3 hlt, ext2_4 hlt, ext2_5 hlt] at *; rw [if_neg (by omega), if_pos (by simp; omega)])); (first | (exfalso; omega) | rw [if_neg (by omega), if_pos (by simp; omega)])
  refine sG (oeqI _ _ rfl<|oM 1 rfl<|.nl)<|gcd rfl (fun hb64 hp64 => ?_) fun hb64 hp64 => ?_
  ·skip
   refine gS<|hK k42<|gcT rfl hb64<|sG (oM 1 rfl<|.nl)<|gR<|uB<|uT<|fun a66 w66 h66 => x_ret1 (fn := Tryz.f82) (t := 4) rfl h66 rfl <| ⟨congrArg (fun n : Nat => Value.int .i64 (n : Int)) (?_ : 1 = _), (h66.sh.sel [] rfl)⟩
   clear h66
   unfold signN
   by_cases hlt : i + 1 < s.size; (first | (exfalso; omega) | (simp only [ext2_0 hlt, ext2_1 hlt, ext2_2 hlt, ext2_3 hlt, ext2_4 hlt, ext2_5 hlt] at *; rw [if_neg (by omega), if_pos (by simp; omega)])); (first | (exfalso; omega) | rw [if_neg (by omega), if_pos (by simp; omega)])
  refine sG (oeqI _ _ rfl<|oM 1 rfl<|.nl)<|gcd rfl (fun hb68 hp68 => ?_) fun hb68 hp68 => ?_
  ·skip
   refine gS<|hK k42<|gcT rfl hb68<|sG (oM 1 rfl<|.nl)<|gR<|uB<|uT<|fun a70 w70 h70 => x_ret1 (fn := Tryz.f82) (t := 4) rfl h70 rfl <| ⟨congrArg (fun n : Nat => Value.int .i64 (n : Int)) (?_ : 1 = _), (h70.sh.sel [] rfl)⟩
   clear h70
   unfold signN
   by_cases hlt : i + 1 < s.size; (first | (exfalso; omega) | (simp only [ext2_0 hlt, ext2_1 hlt, ext2_2 hlt, ext2_3 hlt, ext2_4 hlt, ext2_5 hlt] at *; rw [if_neg (by omega), if_pos (by simp; omega)])); (first | (exfalso; omega) | rw [if_neg (by omega), if_pos (by simp; omega)])
  refine sG (oeqI _ _ rfl<|oM 1 rfl<|.nl)<|gcd rfl (fun hb72 hp72 => ?_) fun hb72 hp72 => ?_
  ·skip
   refine gS<|hK k42<|gcT rfl hb72<|sG (oM 1 rfl<|.nl)<|gR<|uB<|uT<|fun a74 w74 h74 => x_ret1 (fn := Tryz.f82) (t := 4) rfl h74 rfl <| ⟨congrArg (fun n : Nat => Value.int .i64 (n : Int)) (?_ : 1 = _), (h74.sh.sel [] rfl)⟩
   clear h74
   unfold signN
   by_cases hlt : i + 1 < s.size; (first | (exfalso; omega) | (simp only [ext2_0 hlt, ext2_1 hlt, ext2_2 hlt, ext2_3 hlt, ext2_4 hlt, ext2_5 hlt] at *; rw [if_neg (by omega), if_pos (by simp; omega)])); (first | (exfalso; omega) | rw [if_neg (by omega), if_pos (by simp; omega)])
  refine sG (oeqI _ _ rfl<|oM 1 rfl<|.nl)<|gcd rfl (fun hb76 hp76 => ?_) fun hb76 hp76 => ?_
  ·skip
   refine gS<|hK k42<|gcT rfl hb76<|sG (oM 1 rfl<|.nl)<|gR<|uB<|uT<|fun a78 w78 h78 => x_ret1 (fn := Tryz.f82) (t := 4) rfl h78 rfl <| ⟨congrArg (fun n : Nat => Value.int .i64 (n : Int)) (?_ : 1 = _), (h78.sh.sel [] rfl)⟩
   clear h78
   unfold signN
   by_cases hlt : i + 1 < s.size; (first | (exfalso; omega) | (simp only [ext2_0 hlt, ext2_1 hlt, ext2_2 hlt, ext2_3 hlt, ext2_4 hlt, ext2_5 hlt] at *; rw [if_neg (by omega), if_pos (by simp; omega)])); (first | (exfalso; omega) | rw [if_neg (by omega), if_pos (by simp; omega)])
  refine sG (oeqI _ _ rfl<|oM 1 rfl<|.nl)<|gcd rfl (fun hb80 hp80 => ?_) fun hb80 hp80 => ?_
  ·skip
   refine gS<|hK k42<|gcT rfl hb80<|sG (oM 1 rfl<|.nl)<|gR<|uB<|uT<|fun a82 w82 h82 => x_ret1 (fn := Tryz.f82) (t := 4) rfl h82 rfl <| ⟨congrArg (fun n : Nat => Value.int .i64 (n : Int)) (?_ : 1 = _), (h82.sh.sel [] rfl)⟩
   clear h82
   unfold signN
   by_cases hlt : i + 1 < s.size; (first | (exfalso; omega) | (simp only [ext2_0 hlt, ext2_1 hlt, ext2_2 hlt, ext2_3 hlt, ext2_4 hlt, ext2_5 hlt] at *; rw [if_neg (by omega), if_pos (by simp; omega)])); (first | (exfalso; omega) | rw [if_neg (by omega), if_pos (by simp; omega)])
  refine sG (oeqI _ _ rfl<|oM 1 rfl<|.nl)<|gcd rfl (fun hb84 hp84 => ?_) fun hb84 hp84 => ?_
  ·skip
   refine gS<|hK k42<|gcT rfl hb84<|sG (oM 1 rfl<|.nl)<|gR<|uB<|uT<|fun a86 w86 h86 => x_ret1 (fn := Tryz.f82) (t := 4) rfl h86 rfl <| ⟨congrArg (fun n : Nat => Value.int .i64 (n : Int)) (?_ : 1 = _), (h86.sh.sel [] rfl)⟩
   clear h86
   unfold signN
   by_cases hlt : i + 1 < s.size; (first | (exfalso; omega) | (simp only [ext2_0 hlt, ext2_1 hlt, ext2_2 hlt, ext2_3 hlt, ext2_4 hlt, ext2_5 hlt] at *; rw [if_neg (by omega), if_pos (by simp; omega)])); (first | (exfalso; omega) | rw [if_neg (by omega), if_pos (by simp; omega)])
  refine sG (oeqI _ _ rfl<|oM 1 rfl<|.nl)<|gcd rfl (fun hb88 hp88 => ?_) fun hb88 hp88 => ?_
  ·skip
   refine gS<|hK k42<|gcT rfl hb88<|sG (oM 1 rfl<|.nl)<|gR<|uB<|uT<|fun a90 w90 h90 => x_ret1 (fn := Tryz.f82) (t := 4) rfl h90 rfl <| ⟨congrArg (fun n : Nat => Value.int .i64 (n : Int)) (?_ : 1 = _), (h90.sh.sel [] rfl)⟩
   clear h90
   unfold signN
   by_cases hlt : i + 1 < s.size; (first | (exfalso; omega) | (simp only [ext2_0 hlt, ext2_1 hlt, ext2_2 hlt, ext2_3 hlt, ext2_4 hlt, ext2_5 hlt] at *; rw [if_neg (by omega), if_pos (by simp; omega)])); (first | (exfalso; omega) | rw [if_neg (by omega), if_pos (by simp; omega)])
  refine gL<|gRn (oeqI _ _ rfl<|oM 1 rfl<|.nl)<|nK k42<|gcd rfl (fun hb91 hp91 => ?_) fun hb91 hp91 => ?_
  ·skip
   refine sG (oM 1 rfl<|.nl)<|gR<|uB<|uT<|fun a93 w93 h93 => x_ret1 (fn := Tryz.f82) (t := 4) rfl h93 rfl <| ⟨congrArg (fun n : Nat => Value.int .i64 (n : Int)) (?_ : 1 = _), (h93.sh.sel [] rfl)⟩
   clear h93
   unfold signN
   by_cases hlt : i + 1 < s.size; (first | (exfalso; omega) | (simp only [ext2_0 hlt, ext2_1 hlt, ext2_2 hlt, ext2_3 hlt, ext2_4 hlt, ext2_5 hlt] at *; rw [if_neg (by omega), if_pos (by simp; omega)])); (first | (exfalso; omega) | rw [if_neg (by omega), if_pos (by simp; omega)])
  refine gS<|hK k40<|sG (oM 1 rfl<|.nl)<|gR<|fun a95 w95 h95 => x_ret1 (fn := Tryz.f82) (t := 4) rfl h95 rfl <| ⟨congrArg (fun n : Nat => Value.int .i64 (n : Int)) (?_ : 0 = _), (h95.sh.sel [] rfl)⟩
  clear h95
  unfold signN
  by_cases hlt : i + 1 < s.size; (first | (exfalso; omega) | (simp only [ext2_0 hlt, ext2_1 hlt, ext2_2 hlt, ext2_3 hlt, ext2_4 hlt, ext2_5 hlt] at *; rw [if_neg (by omega), if_neg (by simp; omega)])); (first | (exfalso; omega) | rw [if_neg (by omega), if_neg (by simp; omega)])
 refine gS<|hK k12<|gK fun _ k96 => sG (oM 2 rfl<|oV (r_ixBt (s := s) (q := i) Tryz.underlying9 rfl rfl rfl (show i < s.size from om9)) rfl<|.nl)<|gB<|gK fun _ k98 => sG (oeqI _ _ rfl<|oM 1 rfl<|.nl)<|gcd rfl (fun hb100 hp100 => ?_) fun hb100 hp100 => ?_
 ·skip
  refine gS<|hK k98<|gcT rfl hb100<|sG (oM 1 rfl<|.nl)<|gR<|uB<|uT<|fun a102 w102 h102 => x_ret1 (fn := Tryz.f82) (t := 4) rfl h102 rfl <| ⟨congrArg (fun n : Nat => Value.int .i64 (n : Int)) (?_ : 1 = _), (h102.sh.sel [] rfl)⟩
  clear h102
  unfold signN
  by_cases hlt : i + 1 < s.size; (first | (exfalso; omega) | (simp only [ext2_0 hlt, ext2_1 hlt, ext2_2 hlt, ext2_3 hlt, ext2_4 hlt, ext2_5 hlt] at *; rw [if_neg (by omega), if_pos (by simp; omega)])); (first | (exfalso; omega) | rw [if_neg (by omega), if_pos (by simp; omega)])
 refine sG (oeqI _ _ rfl<|oM 1 rfl<|.nl)<|gcd rfl (fun hb104 hp104 => ?_) fun hb104 hp104 => ?_
 ·skip
  refine gS<|hK k98<|gcT rfl hb104<|sG (oM 1 rfl<|.nl)<|gR<|uB<|uT<|fun a106 w106 h106 => x_ret1 (fn := Tryz.f82) (t := 4) rfl h106 rfl <| ⟨congrArg (fun n : Nat => Value.int .i64 (n : Int)) (?_ : 1 = _), (h106.sh.sel [] rfl)⟩
  clear h106
  unfold signN
  by_cases hlt : i + 1 < s.size; (first | (exfalso; omega) | (simp only [ext2_0 hlt, ext2_1 hlt, ext2_2 hlt, ext2_3 hlt, ext2_4 hlt, ext2_5 hlt] at *; rw [if_neg (by omega), if_pos (by simp; omega)])); (first | (exfalso; omega) | rw [if_neg (by omega), if_pos (by simp; omega)])
 refine sG (oeqI _ _ rfl<|oM 1 rfl<|.nl)<|gcd rfl (fun hb108 hp108 => ?_) fun hb108 hp108 => ?_
 ·skip
  refine gS<|hK k98<|gcT rfl hb108<|sG (oM 1 rfl<|.nl)<|gR<|uB<|uT<|fun a110 w110 h110 => x_ret1 (fn := Tryz.f82) (t := 4) rfl h110 rfl <| ⟨congrArg (fun n : Nat => Value.int .i64 (n : Int)) (?_ : 1 = _), (h110.sh.sel [] rfl)⟩
  clear h110
  unfold signN
  by_cases hlt : i + 1 < s.size; (first | (exfalso; omega) | (simp only [ext2_0 hlt, ext2_1 hlt, ext2_2 hlt, ext2_3 hlt, ext2_4 hlt, ext2_5 hlt] at *; rw [if_neg (by omega), if_pos (by simp; omega)])); (first | (exfalso; omega) | rw [if_neg (by omega), if_pos (by simp; omega)])
 refine sG (oeqI _ _ rfl<|oM 1 rfl<|.nl)<|gcd rfl (fun hb112 hp112 => ?_) fun hb112 hp112 => ?_
 ·skip
  refine gS<|hK k98<|gcT rfl hb112<|sG (oM 1 rfl<|.nl)<|gR<|uB<|uT<|fun a114 w114 h114 => x_ret1 (fn := Tryz.f82) (t := 4) rfl h114 rfl <| ⟨congrArg (fun n : Nat => Value.int .i64 (n : Int)) (?_ : 1 = _), (h114.sh.sel [] rfl)⟩
  clear h114
  unfold signN
  by_cases hlt : i + 1 < s.size; (first | (exfalso; omega) | (simp only [ext2_0 hlt, ext2_1 hlt, ext2_2 hlt, ext2_3 hlt, ext2_4 hlt, ext2_5 hlt] at *; rw [if_neg (by omega), if_pos (by simp; omega)])); (first | (exfalso; omega) | rw [if_neg (by omega), if_pos (by simp; omega)])
 refine sG (oeqI _ _ rfl<|oM 1 rfl<|.nl)<|gcd rfl (fun hb116 hp116 => ?_) fun hb116 hp116 => ?_
 ·skip
  refine gS<|hK k98<|gcT rfl hb116<|sG (oM 1 rfl<|.nl)<|gR<|uB<|uT<|fun a118 w118 h118 => x_ret1 (fn := Tryz.f82) (t := 4) rfl h118 rfl <| ⟨congrArg (fun n : Nat => Value.int .i64 (n : Int)) (?_ : 1 = _), (h118.sh.sel [] rfl)⟩
  clear h118
  unfold signN
  by_cases hlt : i + 1 < s.size; (first | (exfalso; omega) | (simp only [ext2_0 hlt, ext2_1 hlt, ext2_2 hlt, ext2_3 hlt, ext2_4 hlt, ext2_5 hlt] at *; rw [if_neg (by omega), if_pos (by simp; omega)])); (first | (exfalso; omega) | rw [if_neg (by omega), if_pos (by simp; omega)])
 refine sG (oeqI _ _ rfl<|oM 1 rfl<|.nl)<|gcd rfl (fun hb120 hp120 => ?_) fun hb120 hp120 => ?_
 ·skip
  refine gS<|hK k98<|gcT rfl hb120<|sG (oM 1 rfl<|.nl)<|gR<|uB<|uT<|fun a122 w122 h122 => x_ret1 (fn := Tryz.f82) (t := 4) rfl h122 rfl <| ⟨congrArg (fun n : Nat => Value.int .i64 (n : Int)) (?_ : 1 = _), (h122.sh.sel [] rfl)⟩
  clear h122
  unfold signN
  by_cases hlt : i + 1 < s.size; (first | (exfalso; omega) | (simp only [ext2_0 hlt, ext2_1 hlt, ext2_2 hlt, ext2_3 hlt, ext2_4 hlt, ext2_5 hlt] at *; rw [if_neg (by omega), if_pos (by simp; omega)])); (first | (exfalso; omega) | rw [if_neg (by omega), if_pos (by simp; omega)])
 refine sG (oeqI _ _ rfl<|oM 1 rfl<|.nl)<|gcd rfl (fun hb124 hp124 => ?_) fun hb124 hp124 => ?_
 ·skip
  refine gS<|hK k98<|gcT rfl hb124<|sG (oM 1 rfl<|.nl)<|gR<|uB<|uT<|fun a126 w126 h126 => x_ret1 (fn := Tryz.f82) (t := 4) rfl h126 rfl <| ⟨congrArg (fun n : Nat => Value.int .i64 (n : Int)) (?_ : 1 = _), (h126.sh.sel [] rfl)⟩
  clear h126
  unfold signN
  by_cases hlt : i + 1 < s.size; (first | (exfalso; omega) | (simp only [ext2_0 hlt, ext2_1 hlt, ext2_2 hlt, ext2_3 hlt, ext2_4 hlt, ext2_5 hlt] at *; rw [if_neg (by omega), if_pos (by simp; omega)])); (first | (exfalso; omega) | rw [if_neg (by omega), if_pos (by simp; omega)])
 refine sG (oeqI _ _ rfl<|oM 1 rfl<|.nl)<|gcd rfl (fun hb128 hp128 => ?_) fun hb128 hp128 => ?_
 ·skip
  refine gS<|hK k98<|gcT rfl hb128<|sG (oM 1 rfl<|.nl)<|gR<|uB<|uT<|fun a130 w130 h130 => x_ret1 (fn := Tryz.f82) (t := 4) rfl h130 rfl <| ⟨congrArg (fun n : Nat => Value.int .i64 (n : Int)) (?_ : 1 = _), (h130.sh.sel [] rfl)⟩
  clear h130
  unfold signN
  by_cases hlt : i + 1 < s.size; (first | (exfalso; omega) | (simp only [ext2_0 hlt, ext2_1 hlt, ext2_2 hlt, ext2_3 hlt, ext2_4 hlt, ext2_5 hlt] at *; rw [if_neg (by omega), if_pos (by simp; omega)])); (first | (exfalso; omega) | rw [if_neg (by omega), if_pos (by simp; omega)])
 refine sG (oeqI _ _ rfl<|oM 1 rfl<|.nl)<|gcd rfl (fun hb132 hp132 => ?_) fun hb132 hp132 => ?_
 ·skip
  refine gS<|hK k98<|gcT rfl hb132<|sG (oM 1 rfl<|.nl)<|gR<|uB<|uT<|fun a134 w134 h134 => x_ret1 (fn := Tryz.f82) (t := 4) rfl h134 rfl <| ⟨congrArg (fun n : Nat => Value.int .i64 (n : Int)) (?_ : 1 = _), (h134.sh.sel [] rfl)⟩
  clear h134
  unfold signN
  by_cases hlt : i + 1 < s.size; (first | (exfalso; omega) | (simp only [ext2_0 hlt, ext2_1 hlt, ext2_2 hlt, ext2_3 hlt, ext2_4 hlt, ext2_5 hlt] at *; rw [if_neg (by omega), if_pos (by simp; omega)])); (first | (exfalso; omega) | rw [if_neg (by omega), if_pos (by simp; omega)])
 refine sG (oeqI _ _ rfl<|oM 1 rfl<|.nl)<|gcd rfl (fun hb136 hp136 => ?_) fun hb136 hp136 => ?_
 ·skip
  refine gS<|hK k98<|gcT rfl hb136<|sG (oM 1 rfl<|.nl)<|gR<|uB<|uT<|fun a138 w138 h138 => x_ret1 (fn := Tryz.f82) (t := 4) rfl h138 rfl <| ⟨congrArg (fun n : Nat => Value.int .i64 (n : Int)) (?_ : 1 = _), (h138.sh.sel [] rfl)⟩
  clear h138
  unfold signN
  by_cases hlt : i + 1 < s.size; (first | (exfalso; omega) | (simp only [ext2_0 hlt, ext2_1 hlt, ext2_2 hlt, ext2_3 hlt, ext2_4 hlt, ext2_5 hlt] at *; rw [if_neg (by omega), if_pos (by simp; omega)])); (first | (exfalso; omega) | rw [if_neg (by omega), if_pos (by simp; omega)])
 refine sG (oeqI _ _ rfl<|oM 1 rfl<|.nl)<|gcd rfl (fun hb140 hp140 => ?_) fun hb140 hp140 => ?_
 ·skip
  refine gS<|hK k98<|gcT rfl hb140<|sG (oM 1 rfl<|.nl)<|gR<|uB<|uT<|fun a142 w142 h142 => x_ret1 (fn := Tryz.f82) (t := 4) rfl h142 rfl <| ⟨congrArg (fun n : Nat => Value.int .i64 (n : Int)) (?_ : 1 = _), (h142.sh.sel [] rfl)⟩
  clear h142
  unfold signN
  by_cases hlt : i + 1 < s.size; (first | (exfalso; omega) | (simp only [ext2_0 hlt, ext2_1 hlt, ext2_2 hlt, ext2_3 hlt, ext2_4 hlt, ext2_5 hlt] at *; rw [if_neg (by omega), if_pos (by simp; omega)])); (first | (exfalso; omega) | rw [if_neg (by omega), if_pos (by simp; omega)])
 refine sG (oeqI _ _ rfl<|oM 1 rfl<|.nl)<|gcd rfl (fun hb144 hp144 => ?_) fun hb144 hp144 => ?_
 ·skip
  refine gS<|hK k98<|gF [25] rfl<|gcT rfl hb144<|sG (oM 1 rfl<|.nl)<|gR<|uB<|uT<|fun a146 w146 h146 => x_ret1 (fn := Tryz.f82) (t := 4) rfl h146 rfl <| ⟨congrArg (fun n : Nat => Value.int .i64 (n : Int)) (?_ : 1 = _), (h146.sh.sel [] rfl)⟩
  clear h146
  unfold signN
  by_cases hlt : i + 1 < s.size; (first | (exfalso; omega) | (simp only [ext2_0 hlt, ext2_1 hlt, ext2_2 hlt, ext2_3 hlt, ext2_4 hlt, ext2_5 hlt] at *; rw [if_neg (by omega), if_pos (by simp; omega)])); (first | (exfalso; omega) | rw [if_neg (by omega), if_pos (by simp; omega)])
 refine gL<|gRn (oeqI _ _ rfl<|oM 1 rfl<|.nl)<|nK k98<|gF [25] rfl<|gcd rfl (fun hb147 hp147 => ?_) fun hb147 hp147 => ?_
 ·skip
  refine sG (oM 1 rfl<|.nl)<|gR<|uB<|uT<|fun a149 w149 h149 => x_ret1 (fn := Tryz.f82) (t := 4) rfl h149 rfl <| ⟨congrArg (fun n : Nat => Value.int .i64 (n : Int)) (?_ : 1 = _), (h149.sh.sel [] rfl)⟩
  clear h149
  unfold signN
  by_cases hlt : i + 1 < s.size; (first | (exfalso; omega) | (simp only [ext2_0 hlt, ext2_1 hlt, ext2_2 hlt, ext2_3 hlt, ext2_4 hlt, ext2_5 hlt] at *; rw [if_neg (by omega), if_pos (by simp; omega)])); (first | (exfalso; omega) | rw [if_neg (by omega), if_pos (by simp; omega)])
 refine gS<|hK k96<|sG (oM 1 rfl<|.nl)<|gR<|fun a151 w151 h151 => x_ret1 (fn := Tryz.f82) (t := 4) rfl h151 rfl <| ⟨congrArg (fun n : Nat => Value.int .i64 (n : Int)) (?_ : 0 = _), (h151.sh.sel [] rfl)⟩
 clear h151
 unfold signN
 by_cases hlt : i + 1 < s.size; (first | (exfalso; omega) | (simp only [ext2_0 hlt, ext2_1 hlt, ext2_2 hlt, ext2_3 hlt, ext2_4 hlt, ext2_5 hlt] at *; rw [if_neg (by omega), if_neg (by simp; omega)])); (first | (exfalso; omega) | rw [if_neg (by omega), if_neg (by simp; omega)])

theorem rSkip_c (s : ByteArray) (i : Nat) (W : World) (hsz : s.size ≤ 4000) (hi : i ≤ s.size) :
    Rets Tryz.prog 39 [.string s, .int .i64 ((i : Nat) : Int)] W (fun v w' => v = .tuple #[.int .i64 (((skipS s false i).1 : Nat) : Int), .bool (skipS s false i).2] ∧ Sh0 W w' []) := by
 refine gen Tryz.func39 Tryz.ntmps39 (Sh0.start W : Sh (fun _ => False) W W []) rfl fun a10 h10 => gG h10<|sG (oM 2 rfl<|.nl)<|sG (oM 1 rfl<|.nl)<|gK fun _ k13 => gB<|fun a15 w15 h15 => x_loop (fun m a w => ∃ (k : Nat) (nt : Bool), (k ≤ s.size) ∧ (skipS s nt k = skipS s false i) ∧ St 56 (fun _ => False) W a w [(0, .string s), (1, .int .i64 ((k : Nat) : Int)), (6, .bool nt)] [] ∧ m = s.size - k) ⟨_, i, false, (by omega), (rfl), h15.nf ⟨rfl, rfl, rfl, trivial⟩, rfl⟩ ?_; clear h10
 clear h15
 rintro m14 a14 w14 ⟨k, nt, hk, hr, h14, hm14⟩
 refine gG h14<|gK fun _ k16 => sG (oM 2 rfl<|oV (r_lenStr (s := s) Tryz.underlying9 rfl rfl) rfl<|oltN _ _ rfl<|.nl)<|?_; clear h14
 refine gcd rfl (fun hb18 hp18 => ?_) fun hb18 hp18 => ?_
 ·skip
  refine gS<|hK k16<|gB<|sK fun _ k19 => gRn (oM 2 rfl<|oV (r_ixBt (s := s) (q := k) Tryz.underlying9 rfl rfl rfl (show k < s.size from om9)) rfl<|.nl)<|gP (fun _ _ h_ => xCl h_ bd_77 rfl (rStands_c (bt s k) _)) rfl<|gRn (oM 1 rfl<|.nl)<|nK k19<|gK fun _ k21 => sG (oM 1 rfl<|ont rfl<|.nl)<|gCb rfl (fun hb23 => ?_) fun hb23 => ?_
  ·have hn23 : standsN (bt s k) = false := (Bool.not_eq_true' _).mp hb23
   refine sG (oM 3 rfl<|.nl)<|gR<|uT<|uB<|uT<|uB<|uT<|fun a25 w25 h25 => x_ret2 (fn := Tryz.f39) (t := 4) (u := 5) rfl h25 rfl rfl ?_
   have hsk : skipS s nt k = (k, true) := by first | exact skipS_end (by omega) | (rw [skipS_eq (by omega), if_pos (by assumption)]) | (rw [skipS_eq (by omega), if_neg (by simp only [*]; decide), if_neg (by simp only [*]; decide), if_neg (by simp only [*]; decide), if_neg (by omega)])
   rw [← hr, hsk]
   exact ⟨rfl, (h25.sh.sel [] rfl)⟩
  have hn23 : standsN (bt s k) = true := (Bool.not_eq_false' _).mp hb23
  refine gS<|hK k21<|sK fun _ k26 => gRn (oM 2 rfl<|oV (r_ixBt (s := s) (q := k) Tryz.underlying9 rfl rfl rfl (show k < s.size from om9)) rfl<|.nl)<|gP (fun _ _ h_ => xCl h_ bd_78 rfl (rBlank_c (bt s k) _)) rfl<|gRn (oM 1 rfl<|.nl)<|nK k26<|sG (oM 1 rfl<|.nl)<|gCb rfl (fun hb29 => ?_) fun hb29 => ?_
  ·skip
   refine sG (oM 2 rfl<|oV (r_ixBt (s := s) (q := k) Tryz.underlying9 rfl rfl rfl (show k < s.size from om9)) rfl<|oneI _ _ rfl<|oM 1 rfl<|.nl)<|gL<|gRn (oM 1 rfl<|oadN _ 1 om9 rfl<|oM 1 rfl<|.nl)<|nN<|fun a31 w31 h31 => ?_
   change ∃ _m, _m < _ ∧ _
   refine ⟨_, ?_, k + 1, decide ((bt s k) ≠ 10), ?_, ?_, h31.nf ⟨rfl, rfl, rfl, trivial⟩, rfl⟩
   · rw [hm14]; first | omega | (simp only [lens9]; omega)
   · omega
   · first | (have hnt : nt = true := (by assumption); rw [hnt] at hr; exact (show skipS s (decide (bt s k ≠ 10)) (k + 1) = skipS s true k by rw [skipS_eq (note := true) (i := k) (by omega), if_neg (by simp only [*]; decide), if_pos rfl, decide_not]).trans hr) | (have hnt : nt = false := (by assumption); rw [hnt] at hr ⊢; exact (show skipS s false (k + 1) = skipS s false k by rw [skipS_eq (note := false) (i := k) (by omega), if_neg (by simp only [*]; decide), if_neg (by decide), if_pos (by assumption)]).trans hr) | (have hnt : nt = false := (by assumption); rw [hnt] at hr; exact (show skipS s true (k + 1) = skipS s false k by rw [skipS_eq (note := false) (i := k) (by omega), if_neg (by simp only [*]; decide), if_neg (by decide), if_neg (by simp only [*]; decide), if_pos ⟨by omega, by omega, by omega⟩]).trans hr)
  refine sG (oM 1 rfl<|.nl)<|gCb rfl (fun hb33 => ?_) fun hb33 => ?_
  ·skip
   refine gL<|gRn (oM 1 rfl<|oadN _ 1 om9 rfl<|oM 1 rfl<|.nl)<|nN<|fun a34 w34 h34 => ?_
   change ∃ _m, _m < _ ∧ _
   refine ⟨_, ?_, k + 1, nt, ?_, ?_, h34.nf ⟨rfl, rfl, rfl, trivial⟩, rfl⟩
   · rw [hm14]; first | omega | (simp only [lens9]; omega)
   · omega
   · first | (have hnt : nt = true := (by assumption); rw [hnt] at hr; exact (show skipS s (decide (bt s k ≠ 10)) (k + 1) = skipS s true k by rw [skipS_eq (note := true) (i := k) (by omega), if_neg (by simp only [*]; decide), if_pos rfl, decide_not]).trans hr) | (have hnt : nt = false := (by assumption); rw [hnt] at hr ⊢; exact (show skipS s false (k + 1) = skipS s false k by rw [skipS_eq (note := false) (i := k) (by omega), if_neg (by simp only [*]; decide), if_neg (by decide), if_pos (by assumption)]).trans hr) | (have hnt : nt = false := (by assumption); rw [hnt] at hr; exact (show skipS s true (k + 1) = skipS s false k by rw [skipS_eq (note := false) (i := k) (by omega), if_neg (by simp only [*]; decide), if_neg (by decide), if_neg (by simp only [*]; decide), if_pos ⟨by omega, by omega, by omega⟩]).trans hr)
  refine sK fun _ k35 => gRn (oM 1 rfl<|oadN _ 1 om9 rfl<|oM 1 rfl<|oV (r_lenStr (s := s) Tryz.underlying9 rfl rfl) rfl<|oltN _ _ rfl<|oM 1 rfl<|.nl)<|?_
  rcases dsp (k + 1 < s.size) with ⟨hb36, hp36⟩ | ⟨hb36, hp36⟩
  ·skip
   refine gRn (oG hb36 (r_move rfl rfl) rfl<|oG hb36 (r_move rfl rfl) rfl<|oG hb36 (r_ixBt (s := s) (q := k) Tryz.underlying9 rfl rfl rfl (show k < s.size from om9)) rfl<|oG hb36 (r_eqlI (p := (bt s k)) (q := 47) rfl rfl rfl) rfl<|opT hb36 rfl<|oM 1 rfl<|.nl)<|?_
   rcases dsp ((bt s k) = 47) with ⟨hb37, hp37⟩ | ⟨hb37, hp37⟩
   ·skip
    refine gRn (oG hb37 (r_move rfl rfl) rfl<|oG hb37 (r_move rfl rfl) rfl<|oG hb37 (r_addN (p := k) (q := 1) rfl rfl rfl (show k + 1 < 9223372036854775808 from om9)) rfl<|oG hb37 (r_ixBt (s := s) (q := k + 1) Tryz.underlying9 rfl rfl rfl (show k + 1 < s.size from om9)) rfl<|oG hb37 (r_eqlI (p := (bt s (k + 1))) (q := 47) rfl rfl rfl) rfl<|opT hb37 rfl<|.nl)<|nK k35<|gF [0, 1, 51] rfl<|gcd rfl (fun hb38 hp38 => ?_) fun hb38 hp38 => ?_
    ·skip
     refine sG (oM 1 rfl<|.nl)<|gL<|gRn (oM 1 rfl<|oadN _ 1 om9 rfl<|oM 1 rfl<|.nl)<|nN<|fun a40 w40 h40 => ?_
     change ∃ _m, _m < _ ∧ _
     refine ⟨_, ?_, k + 1, true, ?_, ?_, h40.nf ⟨rfl, rfl, rfl, trivial⟩, rfl⟩
     · rw [hm14]; first | omega | (simp only [lens9]; omega)
     · omega
     · first | (have hnt : nt = true := (by assumption); rw [hnt] at hr; exact (show skipS s (decide (bt s k ≠ 10)) (k + 1) = skipS s true k by rw [skipS_eq (note := true) (i := k) (by omega), if_neg (by simp only [*]; decide), if_pos rfl, decide_not]).trans hr) | (have hnt : nt = false := (by assumption); rw [hnt] at hr ⊢; exact (show skipS s false (k + 1) = skipS s false k by rw [skipS_eq (note := false) (i := k) (by omega), if_neg (by simp only [*]; decide), if_neg (by decide), if_pos (by assumption)]).trans hr) | (have hnt : nt = false := (by assumption); rw [hnt] at hr; exact (show skipS s true (k + 1) = skipS s false k by rw [skipS_eq (note := false) (i := k) (by omega), if_neg (by simp only [*]; decide), if_neg (by decide), if_neg (by simp only [*]; decide), if_pos ⟨by omega, by omega, by omega⟩]).trans hr)
    refine sG (oM 3 rfl<|.nl)<|gR<|uB<|uT<|uB<|uT<|fun a42 w42 h42 => x_ret2 (fn := Tryz.f39) (t := 4) (u := 5) rfl h42 rfl rfl ?_
    have hsk : skipS s nt k = (k, false) := by first | exact skipS_end (by omega) | (rw [skipS_eq (by omega), if_pos (by assumption)]) | (rw [skipS_eq (by omega), if_neg (by simp only [*]; decide), if_neg (by simp only [*]; decide), if_neg (by simp only [*]; decide), if_neg (by omega)])
    rw [← hr, hsk]
    exact ⟨rfl, (h42.sh.sel [] rfl)⟩
   refine gRn (oKs 5 hb37 rfl rfl<|opF hb37 rfl<|.nl)<|nK k35<|gF [0, 1, 51] rfl<|gcF rfl rfl<|sG (oM 3 rfl<|.nl)<|gR<|uB<|uT<|uB<|uT<|fun a44 w44 h44 => x_ret2 (fn := Tryz.f39) (t := 4) (u := 5) rfl h44 rfl rfl ?_
   have hsk : skipS s nt k = (k, false) := by first | exact skipS_end (by omega) | (rw [skipS_eq (by omega), if_pos (by assumption)]) | (rw [skipS_eq (by omega), if_neg (by simp only [*]; decide), if_neg (by simp only [*]; decide), if_neg (by simp only [*]; decide), if_neg (by omega)])
   rw [← hr, hsk]
   exact ⟨rfl, (h44.sh.sel [] rfl)⟩
  refine gRn (oKs 4 hb36 rfl rfl<|opF hb36 rfl<|oM 1 rfl<|oKs 5 rfl rfl rfl<|opF rfl rfl<|.nl)<|nK k35<|gF [0, 1, 51] rfl<|gcF rfl rfl<|sG (oM 3 rfl<|.nl)<|gR<|uB<|uT<|uB<|uT<|fun a46 w46 h46 => x_ret2 (fn := Tryz.f39) (t := 4) (u := 5) rfl h46 rfl rfl ?_
  have hsk : skipS s nt k = (k, false) := by first | exact skipS_end (by omega) | (rw [skipS_eq (by omega), if_pos (by assumption)]) | (rw [skipS_eq (by omega), if_neg (by simp only [*]; decide), if_neg (by simp only [*]; decide), if_neg (by simp only [*]; decide), if_neg (by omega)])
  rw [← hr, hsk]
  exact ⟨rfl, (h46.sh.sel [] rfl)⟩
 refine gX<|hK k13<|sG (oM 3 rfl<|.nl)<|gR<|fun a48 w48 h48 => x_ret2 (fn := Tryz.f39) (t := 4) (u := 5) rfl h48 rfl rfl ?_
 have hsk : skipS s nt k = (k, false) := by first | exact skipS_end (by omega) | (rw [skipS_eq (by omega), if_pos (by assumption)]) | (rw [skipS_eq (by omega), if_neg (by simp only [*]; decide), if_neg (by simp only [*]; decide), if_neg (by simp only [*]; decide), if_neg (by omega)])
 rw [← hr, hsk]
 exact ⟨rfl, (h48.sh.sel [] rfl)⟩

theorem rOne_c (s : ByteArray) (i : Nat) (W : World) (hsz : s.size ≤ 4000) (hi : i < s.size) :
    Rets Tryz.prog 40 [.string s, .int .i64 ((i : Nat) : Int)] W (fun v w' => ∃ (t : Tok) (n : Nat) (c : Int), v = .tuple #[t.val, .int .i64 (n : Int), .int .i64 c] ∧ OneR s i t n c ∧ Sh0 W w' []) := by
 have hbt := bt_range s i
 have hsg := signN_le hi
 refine gen Tryz.func40 Tryz.ntmps40 (Sh0.start W : Sh (fun _ => False) W W []) rfl fun a10 h10 => gG h10<|sK fun _ k11 => gal ti_81 rfl fun b12 => gRn (oM 2 rfl<|.nl)<|nK k11<|sG (oM 1 rfl<|.nl)<|sK fun _ k14 => gRn (oM 2 rfl<|oV (r_ixBt (s := s) (q := i) Tryz.underlying9 rfl rfl rfl (show i < s.size from om9)) rfl<|.nl)<|gP (fun _ _ h_ => xCl h_ bd_79 rfl (rLetter_c (bt s i) _)) rfl<|gRn (oM 1 rfl<|.nl)<|nK k14<|gK fun _ k16 => sG (oM 1 rfl<|.nl)<|?_; clear h10
 refine gCb rfl (fun hb18 => ?_) fun hb18 => ?_
 ·skip
  refine gK fun _ k19 => gB<|fun a21 w21 h21 => x_loop (fun m a w => ∃ (n : Nat), (1 ≤ n ∧ i + n ≤ s.size) ∧ (runS wordN s (i + n) = runS wordN s i) ∧ St 150 (fun _ => False) W a w [(0, .string s), (1, .int .i64 ((i : Nat) : Int)), (4, .pointer (some ⟨b12, 0, none⟩)), (7, .int .i64 ((n : Nat) : Int))] [.blk b12 81 [.int .i64 0, .int .i64 0, .int .i64 0, .string (⟨#[]⟩)]] ∧ m = s.size - n) ⟨_, 1, (by omega), ((run_at1 hi (by assumption))), h21.nf ⟨rfl, rfl, rfl, rfl, trivial⟩, rfl⟩ ?_
  clear h21
  rintro m20 a20 w20 ⟨n, hn, hr, h20, hm20⟩
  refine gG h20<|gK fun _ k22 => sG (oM 2 rfl<|oadN _ _ om9 rfl<|oM 1 rfl<|oV (r_lenStr (s := s) Tryz.underlying9 rfl rfl) rfl<|oltN _ _ rfl<|.nl)<|?_; clear h20
  refine gcd rfl (fun hb24 hp24 => ?_) fun hb24 hp24 => ?_
  ·skip
   refine gS<|hK k22<|gB<|sK fun _ k25 => gRn (oM 3 rfl<|oadN _ _ om9 rfl<|oV (r_ixBt (s := s) (q := i + n) Tryz.underlying9 rfl rfl rfl (show i + n < s.size from om9)) rfl<|.nl)<|gP (fun _ _ h_ => xCl h_ bd_79 rfl (rLetter_c (bt s (i + n)) _)) rfl<|gRn (oM 1 rfl<|.nl)<|nK k25<|sK fun _ k27 => gRn (oM 3 rfl<|oadN _ _ om9 rfl<|oV (r_ixBt (s := s) (q := i + n) Tryz.underlying9 rfl rfl rfl (show i + n < s.size from om9)) rfl<|.nl)<|gP (fun _ _ h_ => xCl h_ bd_80 rfl (rDigit_c (bt s (i + n)) _)) rfl<|gRn (oM 1 rfl<|.nl)<|nK k27<|gK fun _ k29 => sK fun _ k30 => gRn (oM 1 rfl<|ont rfl<|oM 1 rfl<|.nl)<|?_
   rcases Bool.eq_false_or_eq_true (!(letterN (bt s (i + n)))) with hb31 | hb31
   ·have hn31 : letterN (bt s (i + n)) = false := (Bool.not_eq_true' _).mp hb31
    refine gRn (oG hb31 (r_move rfl rfl) rfl<|oG hb31 (r_not rfl rfl) rfl<|opT hb31 rfl<|.nl)<|nK k30<|gF [0, 1, 4, 7, 42] rfl<|gCb rfl (fun hb32 => ?_) fun hb32 => ?_
    ·have hn32 : digitN (bt s (i + n)) = false := (Bool.not_eq_true' _).mp hb32
     refine gX<|hK k19<|sK fun _ k33 => gRn (oM 4 rfl<|oadN _ _ om9 rfl<|oV (r_slS (s := s) (p := i) (q := i + n) Tryz.underlying9 rfl rfl rfl rfl (show i ≤ i + n from om9) (show i + n ≤ s.size from om9)) rfl<|.nl)<|gP (fun _ _ h_ => xCl h_ bd_81 rfl (rWord_c (s.extract i (i + n)) _)) rfl<|gRn (oM 1 rfl<|.nl)<|nK k33<|gK fun _ k35 => sG (oM 1 rfl<|.nl)<|gCb rfl (fun hb37 => ?_) fun hb37 => ?_
     ·skip
      refine sK fun _ k38 => gRn (oM 4 rfl<|oadN _ _ om9 rfl<|oV (r_slS (s := s) (p := i) (q := i + n) Tryz.underlying9 rfl rfl rfl rfl (show i ≤ i + n from om9) (show i + n ≤ s.size from om9)) rfl<|oM 1 rfl<|oV (r_build (cs := [.int .i64 2, .int .i64 0, .int .i64 ((i : Nat) : Int), .string (s.extract i (i + n))]) rfl rfl (by kernel_rfl)) rfl<|oM 1 rfl<|.nl)<|gsw 0 ti_81 rfl rfl rfl<|gRn (oM 2 rfl<|.nl)<|nK k38<|gR<|uT<|uT<|fun a40 w40 h40 => x_retctt (fn := Tryz.f40) (t := 4) (u := 5) (u3 := 6) (i := 0) ti_81 rfl h40 rfl rfl rfl rfl rfl <| ⟨⟨2, 0, ((i : Nat) : Int), s.extract i (i + n)⟩, n, 0, rfl, ?_, (h40.sh.sel [] rfl)⟩
      exact oneR_word (by assumption) (run_at hr (by omega) (by first | exact .inl (by omega) | exact .inr ⟨by omega, word_no (by assumption) (by assumption)⟩)) (by assumption)
     refine gS<|hK k35<|gK fun _ k41 => sG (oM 1 rfl<|ogtN _ 12 rfl<|.nl)<|gcd rfl (fun hb43 hp43 => ?_) fun hb43 hp43 => ?_
     ·skip
      refine sK fun _ k44 => gRn (oV (r_build (cs := [.int .i64 0, .int .i64 0, .int .i64 0, .string (⟨#[]⟩)]) rfl rfl (by kernel_rfl)) rfl<|.nl)<|gsw 0 ti_81 rfl rfl rfl<|gRn (oM 2 rfl<|.nl)<|nK k44<|gR<|uT<|uT<|fun a46 w46 h46 => x_retctt (fn := Tryz.f40) (t := 4) (u := 5) (u3 := 6) (i := 0) ti_81 rfl h46 rfl rfl rfl rfl rfl <| ⟨⟨0, 0, 0, ⟨#[]⟩⟩, 0, 5, rfl, ?_, (h46.sh.sel [] rfl)⟩
      exact oneR_long (by assumption) (run_at hr (by omega) (by first | exact .inl (by omega) | exact .inr ⟨by omega, word_no (by assumption) (by assumption)⟩)) (by assumption) (by omega)
     refine gS<|hK k41<|sK fun _ k47 => gRn (oM 4 rfl<|oadN _ _ om9 rfl<|oV (r_slS (s := s) (p := i) (q := i + n) Tryz.underlying9 rfl rfl rfl rfl (show i ≤ i + n from om9) (show i + n ≤ s.size from om9)) rfl<|oM 1 rfl<|oV (r_build (cs := [.int .i64 1, .int .i64 0, .int .i64 ((i : Nat) : Int), .string (s.extract i (i + n))]) rfl rfl (by kernel_rfl)) rfl<|oM 1 rfl<|.nl)<|gsw 0 ti_81 rfl rfl rfl<|gRn (oM 2 rfl<|.nl)<|nK k47<|gF [4, 5, 6] rfl<|gR<|uT<|fun a49 w49 h49 => x_retctt (fn := Tryz.f40) (t := 4) (u := 5) (u3 := 6) (i := 0) ti_81 rfl h49 rfl rfl rfl rfl rfl <| ⟨⟨1, 0, ((i : Nat) : Int), s.extract i (i + n)⟩, n, 0, rfl, ?_, (h49.sh.sel [] rfl)⟩
     exact oneR_name (by assumption) (run_at hr (by omega) (by first | exact .inl (by omega) | exact .inr ⟨by omega, word_no (by assumption) (by assumption)⟩)) (by assumption) (by omega)
    have hn32 : digitN (bt s (i + n)) = true := (Bool.not_eq_false' _).mp hb32
    refine gS<|hK k29<|gL<|gRn (oM 1 rfl<|oadN _ 1 om9 rfl<|oM 1 rfl<|.nl)<|nN<|fun a50 w50 h50 => ?_
    change ∃ _m, _m < _ ∧ _
    refine ⟨_, ?_, n + 1, ?_, ?_, h50.nf ⟨rfl, rfl, rfl, rfl, trivial⟩, rfl⟩
    · rw [hm20]; first | omega | (simp only [lens9]; omega)
    · omega
    · exact (run_go (by omega) (word_or (by simp_all))).trans hr
   have hn31 : letterN (bt s (i + n)) = true := (Bool.not_eq_false' _).mp hb31
   refine gRn (oKs 2 hb31 rfl rfl<|opF hb31 rfl<|.nl)<|nK k30<|gF [0, 1, 4, 7, 42] rfl<|gcF rfl rfl<|gS<|hK k29<|gL<|gRn (oM 1 rfl<|oadN _ 1 om9 rfl<|oM 1 rfl<|.nl)<|nN<|fun a51 w51 h51 => ?_
   change ∃ _m, _m < _ ∧ _
   refine ⟨_, ?_, n + 1, ?_, ?_, h51.nf ⟨rfl, rfl, rfl, rfl, trivial⟩, rfl⟩
   · rw [hm20]; first | omega | (simp only [lens9]; omega)
   · omega
   · exact (run_go (by omega) (word_or (by simp_all))).trans hr
  refine gX<|hK k19<|sK fun _ k52 => gRn (oM 4 rfl<|oadN _ _ om9 rfl<|oV (r_slS (s := s) (p := i) (q := i + n) Tryz.underlying9 rfl rfl rfl rfl (show i ≤ i + n from om9) (show i + n ≤ s.size from om9)) rfl<|.nl)<|gP (fun _ _ h_ => xCl h_ bd_81 rfl (rWord_c (s.extract i (i + n)) _)) rfl<|gRn (oM 1 rfl<|.nl)<|nK k52<|gK fun _ k54 => sG (oM 1 rfl<|.nl)<|gCb rfl (fun hb56 => ?_) fun hb56 => ?_
  ·skip
   refine sK fun _ k57 => gRn (oM 4 rfl<|oadN _ _ om9 rfl<|oV (r_slS (s := s) (p := i) (q := i + n) Tryz.underlying9 rfl rfl rfl rfl (show i ≤ i + n from om9) (show i + n ≤ s.size from om9)) rfl<|oM 1 rfl<|oV (r_build (cs := [.int .i64 2, .int .i64 0, .int .i64 ((i : Nat) : Int), .string (s.extract i (i + n))]) rfl rfl (by kernel_rfl)) rfl<|oM 1 rfl<|.nl)<|gsw 0 ti_81 rfl rfl rfl<|gRn (oM 2 rfl<|.nl)<|nK k57<|gF [4, 5, 6] rfl<|gR<|uT<|uT<|fun a59 w59 h59 => x_retctt (fn := Tryz.f40) (t := 4) (u := 5) (u3 := 6) (i := 0) ti_81 rfl h59 rfl rfl rfl rfl rfl <| ⟨⟨2, 0, ((i : Nat) : Int), s.extract i (i + n)⟩, n, 0, rfl, ?_, (h59.sh.sel [] rfl)⟩
   exact oneR_word (by assumption) (run_at hr (by omega) (by first | exact .inl (by omega) | exact .inr ⟨by omega, word_no (by assumption) (by assumption)⟩)) (by assumption)
  refine gS<|hK k54<|gK fun _ k60 => sG (oM 1 rfl<|ogtN _ 12 rfl<|.nl)<|gcd rfl (fun hb62 hp62 => ?_) fun hb62 hp62 => ?_
  ·skip
   refine sK fun _ k63 => gRn (oV (r_build (cs := [.int .i64 0, .int .i64 0, .int .i64 0, .string (⟨#[]⟩)]) rfl rfl (by kernel_rfl)) rfl<|.nl)<|gsw 0 ti_81 rfl rfl rfl<|gRn (oM 2 rfl<|.nl)<|nK k63<|gR<|uT<|uT<|fun a65 w65 h65 => x_retctt (fn := Tryz.f40) (t := 4) (u := 5) (u3 := 6) (i := 0) ti_81 rfl h65 rfl rfl rfl rfl rfl <| ⟨⟨0, 0, 0, ⟨#[]⟩⟩, 0, 5, rfl, ?_, (h65.sh.sel [] rfl)⟩
   exact oneR_long (by assumption) (run_at hr (by omega) (by first | exact .inl (by omega) | exact .inr ⟨by omega, word_no (by assumption) (by assumption)⟩)) (by assumption) (by omega)
  refine gS<|hK k60<|sK fun _ k66 => gRn (oM 4 rfl<|oadN _ _ om9 rfl<|oV (r_slS (s := s) (p := i) (q := i + n) Tryz.underlying9 rfl rfl rfl rfl (show i ≤ i + n from om9) (show i + n ≤ s.size from om9)) rfl<|oM 1 rfl<|oV (r_build (cs := [.int .i64 1, .int .i64 0, .int .i64 ((i : Nat) : Int), .string (s.extract i (i + n))]) rfl rfl (by kernel_rfl)) rfl<|oM 1 rfl<|.nl)<|gsw 0 ti_81 rfl rfl rfl<|gRn (oM 2 rfl<|.nl)<|nK k66<|gF [4, 5, 6] rfl<|gR<|uT<|fun a68 w68 h68 => x_retctt (fn := Tryz.f40) (t := 4) (u := 5) (u3 := 6) (i := 0) ti_81 rfl h68 rfl rfl rfl rfl rfl <| ⟨⟨1, 0, ((i : Nat) : Int), s.extract i (i + n)⟩, n, 0, rfl, ?_, (h68.sh.sel [] rfl)⟩
  exact oneR_name (by assumption) (run_at hr (by omega) (by first | exact .inl (by omega) | exact .inr ⟨by omega, word_no (by assumption) (by assumption)⟩)) (by assumption) (by omega)
 refine gS<|hK k16<|sK fun _ k69 => gRn (oM 2 rfl<|oV (r_ixBt (s := s) (q := i) Tryz.underlying9 rfl rfl rfl (show i < s.size from om9)) rfl<|.nl)<|gP (fun _ _ h_ => xCl h_ bd_80 rfl (rDigit_c (bt s i) _)) rfl<|gRn (oM 1 rfl<|.nl)<|nK k69<|gK fun _ k71 => sG (oM 1 rfl<|.nl)<|gCb rfl (fun hb73 => ?_) fun hb73 => ?_
 ·skip
  have hdg := digitN_iff.1 (by assumption : digitN (bt s i) = true)
  refine sG (oM 2 rfl<|oV (r_ixBt (s := s) (q := i) Tryz.underlying9 rfl rfl rfl (show i < s.size from om9)) rfl<|oV (r_subB (p := (bt s i)) (q := 48) rfl rfl rfl (show 0 ≤ (bt s i) - 48 ∧ (bt s i) - 48 < 256 from om9)) rfl<|oV (r_cvB (n := (bt s i) - 48) Tryz.underlying5 Tryz.underlying3 rfl rfl (show 0 ≤ (bt s i) - 48 ∧ (bt s i) - 48 < 256 from om9) (by kernel_rfl)) rfl<|oM 1 rfl<|.nl)<|gK fun _ k75 => gB<|fun a77 w77 h77 => x_loop (fun m a w => ∃ (n : Nat) (num : Int), (1 ≤ n ∧ i + n ≤ s.size) ∧ (runS digitN s (i + n) = runS digitN s i) ∧ (∀ q, q < n → digitN (bt s (i + q)) = true) ∧ (num = numF s i (min n 9)) ∧ St 150 (fun _ => False) W a w [(0, .string s), (1, .int .i64 ((i : Nat) : Int)), (4, .pointer (some ⟨b12, 0, none⟩)), (7, .int .i64 ((n : Nat) : Int)), (12, .int .i64 num)] [.blk b12 81 [.int .i64 0, .int .i64 0, .int .i64 0, .string (⟨#[]⟩)]] ∧ m = s.size - n) ⟨_, 1, (bt s i) - 48, (by omega), ((run_at2 hi (by assumption))), (fun q hq => (by obtain rfl : q = 0 := (by omega); show digitN (bt s i) = true; assumption)), ((by show bt s i - 48 = 10 * 0 + (bt s i - 48); omega)), h77.nf ⟨rfl, rfl, rfl, rfl, rfl, trivial⟩, rfl⟩ ?_
  clear h77
  rintro m76 a76 w76 ⟨n, num, hn, hr, hd, hnum, h76, hm76⟩
  have hnb : n ≤ 8 → 0 ≤ num ∧ num < 100000000 := by intro h8; rw [hnum, Nat.min_eq_left (by omega)]; exact numF_lt n h8 hd
  refine gG h76<|gK fun _ k78 => sG (oM 2 rfl<|oadN _ _ om9 rfl<|oM 1 rfl<|oV (r_lenStr (s := s) Tryz.underlying9 rfl rfl) rfl<|oltN _ _ rfl<|.nl)<|?_; clear h76
  refine gcd rfl (fun hb80 hp80 => ?_) fun hb80 hp80 => ?_
  ·skip
   refine gS<|hK k78<|gB<|sK fun _ k81 => gRn (oM 3 rfl<|oadN _ _ om9 rfl<|oV (r_ixBt (s := s) (q := i + n) Tryz.underlying9 rfl rfl rfl (show i + n < s.size from om9)) rfl<|.nl)<|gP (fun _ _ h_ => xCl h_ bd_80 rfl (rDigit_c (bt s (i + n)) _)) rfl<|gRn (oM 1 rfl<|.nl)<|nK k81<|gK fun _ k83 => sG (oM 1 rfl<|ont rfl<|.nl)<|gCb rfl (fun hb85 => ?_) fun hb85 => ?_
   ·have hn85 : digitN (bt s (i + n)) = false := (Bool.not_eq_true' _).mp hb85
    refine gX<|hK k75<|gK fun _ k86 => sK fun _ k87 => gRn (oM 1 rfl<|ogtN _ 9 rfl<|oM 1 rfl<|.nl)<|?_
    rcases dsp (9 < n) with ⟨hb88, hp88⟩ | ⟨hb88, hp88⟩
    ·skip
     refine gRn (oKs 3 hb88 rfl rfl<|oK2 rfl<|oK2 rfl<|oK2 rfl<|oK2 rfl<|oK hb88 rfl<|opT hb88 rfl<|.nl)<|nK k87<|gF [0, 1, 4, 7, 12, 123] rfl<|gcT rfl rfl<|sK fun _ k89 => gRn (oV (r_build (cs := [.int .i64 0, .int .i64 0, .int .i64 0, .string (⟨#[]⟩)]) rfl rfl (by kernel_rfl)) rfl<|.nl)<|gsw 0 ti_81 rfl rfl rfl<|gRn (oM 2 rfl<|.nl)<|nK k89<|gR<|uT<|uT<|fun a91 w91 h91 => x_retctt (fn := Tryz.f40) (t := 4) (u := 5) (u3 := 6) (i := 0) ti_81 rfl h91 rfl rfl rfl rfl rfl <| ⟨⟨0, 0, 0, ⟨#[]⟩⟩, 0, 5, rfl, ?_, (h91.sh.sel [] rfl)⟩
     exact oneR_nnum (by assumption) (by assumption) (run_at hr (by omega) (by first | exact .inl (by omega) | exact .inr ⟨by omega, by assumption⟩)) (by omega)
    refine gRn (oG hb88 (r_move rfl rfl) rfl<|oG hb88 (r_gtrN (p := n) (q := 1) rfl rfl rfl) rfl<|oG hb88 (r_move rfl rfl) rfl<|.nl)<|?_
    rcases dsp (1 < n) with ⟨hb92, hp92⟩ | ⟨hb92, hp92⟩
    ·skip
     refine gRn (oG hb92 (r_move rfl rfl) rfl<|oG hb92 (r_move rfl rfl) rfl<|oG hb92 (r_ixBt (s := s) (q := i) Tryz.underlying9 rfl rfl rfl (show i < s.size from om9)) rfl<|oG hb92 (r_eqlI (p := (bt s i)) (q := 48) rfl rfl rfl) rfl<|oG hb88 (r_pickT rfl rfl hb92 rfl) rfl<|opF hb88 rfl<|.nl)<|nK k87<|gF [0, 1, 4, 7, 12, 123] rfl<|gcd rfl (fun hb93 hp93 => ?_) fun hb93 hp93 => ?_
     ·skip
      refine sK fun _ k94 => gRn (oV (r_build (cs := [.int .i64 0, .int .i64 0, .int .i64 0, .string (⟨#[]⟩)]) rfl rfl (by kernel_rfl)) rfl<|.nl)<|gsw 0 ti_81 rfl rfl rfl<|gRn (oM 2 rfl<|.nl)<|nK k94<|gR<|uT<|uT<|fun a96 w96 h96 => x_retctt (fn := Tryz.f40) (t := 4) (u := 5) (u3 := 6) (i := 0) ti_81 rfl h96 rfl rfl rfl rfl rfl <| ⟨⟨0, 0, 0, ⟨#[]⟩⟩, 0, 5, rfl, ?_, (h96.sh.sel [] rfl)⟩
      exact oneR_nnum (by assumption) (by assumption) (run_at hr (by omega) (by first | exact .inl (by omega) | exact .inr ⟨by omega, by assumption⟩)) (by omega)
     refine gS<|hK k86<|sK fun _ k97 => gRn (oM 5 rfl<|oadN _ _ om9 rfl<|oV (r_slS (s := s) (p := i) (q := i + n) Tryz.underlying9 rfl rfl rfl rfl (show i ≤ i + n from om9) (show i + n ≤ s.size from om9)) rfl<|oM 1 rfl<|oV (r_build (cs := [.int .i64 3, .int .i64 num, .int .i64 ((i : Nat) : Int), .string (s.extract i (i + n))]) rfl rfl (by kernel_rfl)) rfl<|oM 1 rfl<|.nl)<|gsw 0 ti_81 rfl rfl rfl<|gRn (oM 2 rfl<|.nl)<|nK k97<|gR<|uT<|fun a99 w99 h99 => x_retctt (fn := Tryz.f40) (t := 4) (u := 5) (u3 := 6) (i := 0) ti_81 rfl h99 rfl rfl rfl rfl rfl <| ⟨⟨3, num, ((i : Nat) : Int), s.extract i (i + n)⟩, n, 0, rfl, ?_, (h99.sh.sel [] rfl)⟩
     exact oneR_num (by assumption) (by assumption) (run_at hr (by omega) (by first | exact .inl (by omega) | exact .inr ⟨by omega, by assumption⟩)) (by omega) hnum
    refine gRn (oKs 4 hb92 rfl rfl<|oG hb88 (r_pickF rfl rfl hb92 rfl) rfl<|opF hb88 rfl<|.nl)<|nK k87<|gF [0, 1, 4, 7, 12, 123] rfl<|gcF rfl rfl<|gS<|hK k86<|sK fun _ k100 => gRn (oM 5 rfl<|oadN _ _ om9 rfl<|oV (r_slS (s := s) (p := i) (q := i + n) Tryz.underlying9 rfl rfl rfl rfl (show i ≤ i + n from om9) (show i + n ≤ s.size from om9)) rfl<|oM 1 rfl<|oV (r_build (cs := [.int .i64 3, .int .i64 num, .int .i64 ((i : Nat) : Int), .string (s.extract i (i + n))]) rfl rfl (by kernel_rfl)) rfl<|oM 1 rfl<|.nl)<|gsw 0 ti_81 rfl rfl rfl<|gRn (oM 2 rfl<|.nl)<|nK k100<|gR<|uT<|fun a102 w102 h102 => x_retctt (fn := Tryz.f40) (t := 4) (u := 5) (u3 := 6) (i := 0) ti_81 rfl h102 rfl rfl rfl rfl rfl <| ⟨⟨3, num, ((i : Nat) : Int), s.extract i (i + n)⟩, n, 0, rfl, ?_, (h102.sh.sel [] rfl)⟩
    exact oneR_num (by assumption) (by assumption) (run_at hr (by omega) (by first | exact .inl (by omega) | exact .inr ⟨by omega, by assumption⟩)) (by omega) hnum
   have hn85 : digitN (bt s (i + n)) = true := (Bool.not_eq_false' _).mp hb85
   have hdg2 := digitN_iff.1 (by assumption : digitN (bt s (i + n)) = true)
   refine gS<|hK k83<|gK fun _ k103 => sG (oM 1 rfl<|oltN _ 9 rfl<|.nl)<|gcd rfl (fun hb105 hp105 => ?_) fun hb105 hp105 => ?_
   ·skip
    refine gL<|gRn (oM 1 rfl<|omlI _ _ om9 rfl<|oM 3 rfl<|oadN _ _ om9 rfl<|oV (r_ixBt (s := s) (q := i + n) Tryz.underlying9 rfl rfl rfl (show i + n < s.size from om9)) rfl<|oV (r_subB (p := (bt s (i + n))) (q := 48) rfl rfl rfl (show 0 ≤ (bt s (i + n)) - 48 ∧ (bt s (i + n)) - 48 < 256 from om9)) rfl<|oV (r_cvB (n := (bt s (i + n)) - 48) Tryz.underlying5 Tryz.underlying3 rfl rfl (show 0 ≤ (bt s (i + n)) - 48 ∧ (bt s (i + n)) - 48 < 256 from om9) (by kernel_rfl)) rfl<|oadI _ _ om9 rfl<|oM 1 rfl<|.nl)<|nK k103<|gF [0, 1, 4, 7, 12] rfl<|gL<|gRn (oM 1 rfl<|oadN _ 1 om9 rfl<|oM 1 rfl<|.nl)<|nN<|fun a106 w106 h106 => ?_
    change ∃ _m, _m < _ ∧ _
    refine ⟨_, ?_, n + 1, (10 * num) + ((bt s (i + n)) - 48), ?_, ?_, ?_, ?_, h106.nf ⟨rfl, rfl, rfl, rfl, rfl, trivial⟩, rfl⟩
    · rw [hm76]; first | omega | (simp only [lens9]; omega)
    · omega
    · exact (run_go (by omega) (by assumption)).trans hr
    · intro q hq; by_cases e : q = n; subst e; assumption; exact hd q (by omega)
    · first | (rw [Nat.min_eq_left (by omega)] at hnum ⊢; rw [hnum]; rfl) | (rw [hnum, Nat.min_eq_right (by omega), Nat.min_eq_right (by omega)])
   refine gS<|hK k103<|gL<|gRn (oM 1 rfl<|oadN _ 1 om9 rfl<|oM 1 rfl<|.nl)<|nN<|fun a107 w107 h107 => ?_
   change ∃ _m, _m < _ ∧ _
   refine ⟨_, ?_, n + 1, num, ?_, ?_, ?_, ?_, h107.nf ⟨rfl, rfl, rfl, rfl, rfl, trivial⟩, rfl⟩
   · rw [hm76]; first | omega | (simp only [lens9]; omega)
   · omega
   · exact (run_go (by omega) (by assumption)).trans hr
   · intro q hq; by_cases e : q = n; subst e; assumption; exact hd q (by omega)
   · first | (rw [Nat.min_eq_left (by omega)] at hnum ⊢; rw [hnum]; rfl) | (rw [hnum, Nat.min_eq_right (by omega), Nat.min_eq_right (by omega)])
  refine gX<|hK k75<|gK fun _ k108 => sK fun _ k109 => gRn (oM 1 rfl<|ogtN _ 9 rfl<|oM 1 rfl<|.nl)<|?_
  rcases dsp (9 < n) with ⟨hb110, hp110⟩ | ⟨hb110, hp110⟩
  ·skip
   refine gRn (oKs 3 hb110 rfl rfl<|oK2 rfl<|oK2 rfl<|oK2 rfl<|oK2 rfl<|oK hb110 rfl<|opT hb110 rfl<|.nl)<|nK k109<|gcT rfl rfl<|sK fun _ k111 => gRn (oV (r_build (cs := [.int .i64 0, .int .i64 0, .int .i64 0, .string (⟨#[]⟩)]) rfl rfl (by kernel_rfl)) rfl<|.nl)<|gsw 0 ti_81 rfl rfl rfl<|gRn (oM 2 rfl<|.nl)<|nK k111<|gF [4, 5, 6] rfl<|gR<|uT<|uT<|fun a113 w113 h113 => x_retctt (fn := Tryz.f40) (t := 4) (u := 5) (u3 := 6) (i := 0) ti_81 rfl h113 rfl rfl rfl rfl rfl <| ⟨⟨0, 0, 0, ⟨#[]⟩⟩, 0, 5, rfl, ?_, (h113.sh.sel [] rfl)⟩
   exact oneR_nnum (by assumption) (by assumption) (run_at hr (by omega) (by first | exact .inl (by omega) | exact .inr ⟨by omega, by assumption⟩)) (by omega)
  refine gRn (oG hb110 (r_move rfl rfl) rfl<|oG hb110 (r_gtrN (p := n) (q := 1) rfl rfl rfl) rfl<|oG hb110 (r_move rfl rfl) rfl<|.nl)<|?_
  rcases dsp (1 < n) with ⟨hb114, hp114⟩ | ⟨hb114, hp114⟩
  ·skip
   refine gRn (oG hb114 (r_move rfl rfl) rfl<|oG hb114 (r_move rfl rfl) rfl<|oG hb114 (r_ixBt (s := s) (q := i) Tryz.underlying9 rfl rfl rfl (show i < s.size from om9)) rfl<|oG hb114 (r_eqlI (p := (bt s i)) (q := 48) rfl rfl rfl) rfl<|oG hb110 (r_pickT rfl rfl hb114 rfl) rfl<|opF hb110 rfl<|.nl)<|nK k109<|gcd rfl (fun hb115 hp115 => ?_) fun hb115 hp115 => ?_
   ·skip
    refine sK fun _ k116 => gRn (oV (r_build (cs := [.int .i64 0, .int .i64 0, .int .i64 0, .string (⟨#[]⟩)]) rfl rfl (by kernel_rfl)) rfl<|.nl)<|gsw 0 ti_81 rfl rfl rfl<|gRn (oM 2 rfl<|.nl)<|nK k116<|gF [4, 5, 6] rfl<|gR<|uT<|uT<|fun a118 w118 h118 => x_retctt (fn := Tryz.f40) (t := 4) (u := 5) (u3 := 6) (i := 0) ti_81 rfl h118 rfl rfl rfl rfl rfl <| ⟨⟨0, 0, 0, ⟨#[]⟩⟩, 0, 5, rfl, ?_, (h118.sh.sel [] rfl)⟩
    exact oneR_nnum (by assumption) (by assumption) (run_at hr (by omega) (by first | exact .inl (by omega) | exact .inr ⟨by omega, by assumption⟩)) (by omega)
   refine gS<|hK k108<|sK fun _ k119 => gRn (oM 5 rfl<|oadN _ _ om9 rfl<|oV (r_slS (s := s) (p := i) (q := i + n) Tryz.underlying9 rfl rfl rfl rfl (show i ≤ i + n from om9) (show i + n ≤ s.size from om9)) rfl<|oM 1 rfl<|oV (r_build (cs := [.int .i64 3, .int .i64 num, .int .i64 ((i : Nat) : Int), .string (s.extract i (i + n))]) rfl rfl (by kernel_rfl)) rfl<|oM 1 rfl<|.nl)<|gsw 0 ti_81 rfl rfl rfl<|gRn (oM 2 rfl<|.nl)<|nK k119<|gF [4, 5, 6] rfl<|gR<|uT<|fun a121 w121 h121 => x_retctt (fn := Tryz.f40) (t := 4) (u := 5) (u3 := 6) (i := 0) ti_81 rfl h121 rfl rfl rfl rfl rfl <| ⟨⟨3, num, ((i : Nat) : Int), s.extract i (i + n)⟩, n, 0, rfl, ?_, (h121.sh.sel [] rfl)⟩
   exact oneR_num (by assumption) (by assumption) (run_at hr (by omega) (by first | exact .inl (by omega) | exact .inr ⟨by omega, by assumption⟩)) (by omega) hnum
  refine gRn (oKs 4 hb114 rfl rfl<|oG hb110 (r_pickF rfl rfl hb114 rfl) rfl<|opF hb110 rfl<|.nl)<|nK k109<|gcF rfl rfl<|gS<|hK k108<|sK fun _ k122 => gRn (oM 5 rfl<|oadN _ _ om9 rfl<|oV (r_slS (s := s) (p := i) (q := i + n) Tryz.underlying9 rfl rfl rfl rfl (show i ≤ i + n from om9) (show i + n ≤ s.size from om9)) rfl<|oM 1 rfl<|oV (r_build (cs := [.int .i64 3, .int .i64 num, .int .i64 ((i : Nat) : Int), .string (s.extract i (i + n))]) rfl rfl (by kernel_rfl)) rfl<|oM 1 rfl<|.nl)<|gsw 0 ti_81 rfl rfl rfl<|gRn (oM 2 rfl<|.nl)<|nK k122<|gF [4, 5, 6] rfl<|gR<|uT<|fun a124 w124 h124 => x_retctt (fn := Tryz.f40) (t := 4) (u := 5) (u3 := 6) (i := 0) ti_81 rfl h124 rfl rfl rfl rfl rfl <| ⟨⟨3, num, ((i : Nat) : Int), s.extract i (i + n)⟩, n, 0, rfl, ?_, (h124.sh.sel [] rfl)⟩
  exact oneR_num (by assumption) (by assumption) (run_at hr (by omega) (by first | exact .inl (by omega) | exact .inr ⟨by omega, by assumption⟩)) (by omega) hnum
 refine gS<|hK k71<|sK fun _ k125 => gRn (oM 2 rfl<|.nl)<|gP (fun _ _ h_ => xCl h_ bd_82 rfl (rSign_c s i _ hsz (by omega))) rfl<|gRn (oM 1 rfl<|.nl)<|nK k125<|gK fun _ k127 => sG (oM 1 rfl<|oeqN _ 0 rfl<|.nl)<|gcd rfl (fun hb129 hp129 => ?_) fun hb129 hp129 => ?_
 ·skip
  refine sK fun _ k130 => gRn (oV (r_build (cs := [.int .i64 0, .int .i64 0, .int .i64 0, .string (⟨#[]⟩)]) rfl rfl (by kernel_rfl)) rfl<|.nl)<|gsw 0 ti_81 rfl rfl rfl<|gRn (oM 2 rfl<|.nl)<|nK k130<|gR<|uT<|fun a132 w132 h132 => x_retctt (fn := Tryz.f40) (t := 4) (u := 5) (u3 := 6) (i := 0) ti_81 rfl h132 rfl rfl rfl rfl rfl <| ⟨⟨0, 0, 0, ⟨#[]⟩⟩, 0, 5, rfl, ?_, (h132.sh.sel [] rfl)⟩
  exact oneR_nsign (by assumption) (by assumption) (by assumption)
 refine gS<|hK k127<|sK fun _ k133 => gRn (oM 4 rfl<|oadN _ _ om9 rfl<|oV (r_slS (s := s) (p := i) (q := i + (signN s i)) Tryz.underlying9 rfl rfl rfl rfl (show i ≤ i + (signN s i) from om9) (show i + (signN s i) ≤ s.size from om9)) rfl<|oM 1 rfl<|oV (r_build (cs := [.int .i64 4, .int .i64 0, .int .i64 ((i : Nat) : Int), .string (s.extract i (i + (signN s i)))]) rfl rfl (by kernel_rfl)) rfl<|oM 1 rfl<|.nl)<|gsw 0 ti_81 rfl rfl rfl<|gRn (oM 2 rfl<|.nl)<|nK k133<|gF [4, 5, 6] rfl<|gR<|fun a135 w135 h135 => x_retctt (fn := Tryz.f40) (t := 4) (u := 5) (u3 := 6) (i := 0) ti_81 rfl h135 rfl rfl rfl rfl rfl <| ⟨⟨4, 0, ((i : Nat) : Int), s.extract i (i + (signN s i))⟩, (signN s i), 0, rfl, ?_, (h135.sh.sel [] rfl)⟩
 exact oneR_sign (by assumption) (by assumption) (by assumption)

end Go.Proofs.YthdkmhaneellcaaGreatDoor
