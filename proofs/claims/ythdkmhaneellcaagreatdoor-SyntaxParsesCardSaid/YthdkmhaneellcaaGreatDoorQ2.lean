/-
  Numbers and signs of a text, in plain Lean: what digits tell, which sign is at a place.
-/
import Derived.Test.YthdkmhaneellcaaGreatDoorX144
namespace Go.Proofs.YthdkmhaneellcaaGreatDoor
open Go.RowKit
set_option linter.unusedSimpArgs false
set_option linter.unusedVariables false

theorem sh0_bytes (w : World) (e : TypeId) (t : ByteArray) : Sh0 w (Lib.bytesWorld w e t) [] :=
  ⟨⟨rfl, rfl, rfl, by rw [Lib.bytesWorld_size]; omega, fun b hb _ => Lib.bytesWorld_at_old w e t b hb⟩, by simp, by simp, by simp, .nil⟩
theorem atoi_c {s : ByteArray} {n : Int} (hl : s.size ≤ 18) (h : Lib.atoi s.data.toList = some n) (w : World) : Rets Tryz.prog 66 [.string s] w (fun v w' => v = .tuple #[.int .i64 n, .nilIface] ∧ Sh0 w w' []) :=
  Calls.mono (Tryz.strconv_Atoi s n hl h w) fun _ _ ⟨h1, t, h2⟩ => ⟨_, h1, rfl, by rw [h2]; exact sh0_bytes w _ t⟩
theorem ext_list2 (s : ByteArray) (i n : Nat) : (s.extract i (i + n)).data.toList = (s.data.toList.drop i).take n := by
  rw [ByteArray.data_extract, Array.toList_extract]
  show (s.data.toList.drop i).take (i + n - i) = _
  rw [Nat.add_sub_cancel_left]
theorem digitN_iff {n : Int} : digitN n = true ↔ 48 ≤ n ∧ n ≤ 57 := by
  unfold digitN; simp only [Bool.and_eq_true, decide_eq_true_eq]
theorem dec_num {s : ByteArray} {i : Nat} : ∀ k : Nat, i + k ≤ s.size → (∀ q, q < k → digitN (bt s (i + q)) = true) → ∃ m : Nat, Lib.decFrom 0 ((s.data.toList.drop i).take k) = some m ∧ numF s i k = (m : Int)
  | 0, _, _ => ⟨0, rfl, rfl⟩
  | k + 1, hk, hd => by
    obtain ⟨m, h1, h2⟩ := dec_num k (by omega) fun q hq => hd q (by omega)
    have hq : i + k < s.data.toList.length := by rw [size_list]; omega
    have hb := digitN_iff.1 (hd k (by omega))
    rw [bt_list hq] at hb
    refine ⟨m * 10 + (s.data.toList[i + k].toNat - 48), Lib.decFrom_take _ k 0 m (s.data.toList[i + k]) _ h1 (by rw [List.getElem?_drop, List.getElem?_eq_getElem hq]) ?_, ?_⟩
    · unfold Lib.digitVal
      rw [if_pos (by omega)]
    · show 10 * numF s i k + (bt s (i + k) - 48) = _
      rw [h2, bt_list hq]
      omega
theorem atoi_num {s : ByteArray} {i n : Nat} (h0 : 0 < n) (hn : i + n ≤ s.size) (hd : ∀ q, q < n → digitN (bt s (i + q)) = true) : Lib.atoi (s.extract i (i + n)).data.toList = some (numF s i n) := by
  obtain ⟨m, h1, h2⟩ := dec_num n hn hd
  have hi : i < s.data.toList.length := by rw [size_list]; omega
  have hb := digitN_iff.1 (hd 0 h0)
  rw [Nat.add_zero, bt_list hi] at hb
  rw [ext_list2]
  obtain ⟨n', rfl⟩ : ∃ n', n = n' + 1 := ⟨n - 1, by omega⟩
  rw [List.drop_eq_getElem_cons hi, List.take_succ_cons] at h1 ⊢
  unfold Lib.atoi
  dsimp only
  rw [if_neg (by rw [beq_iff_eq]; intro h; rw [h] at hb; exact absurd hb.1 (by decide)), if_neg (by rw [beq_iff_eq]; intro h; rw [h] at hb; exact absurd hb.1 (by decide))]
  unfold Lib.decNat
  rw [if_neg (by simp), h1, h2]
  rfl
theorem run_all {p : Int → Bool} {s : ByteArray} : ∀ (k i : Nat), ∀ q, i ≤ q → q < runF p s k i → p (bt s q) = true
  | 0, i => fun q h1 h2 => absurd h2 (by show ¬ q < i; omega)
  | k + 1, i => fun q h1 h2 => by
    unfold runF at h2
    by_cases hp : p (bt s i) = true
    · rw [if_pos hp] at h2
      by_cases e : q = i
      · subst e; exact hp
      · exact run_all k (i + 1) q (by omega) h2
    · rw [if_neg hp] at h2; omega
theorem hasP_ext {s x : ByteArray} {i : Nat} (h : hasP (s.extract i s.size) x = true) : s.extract i (i + x.size) = x ∧ (0 < x.size → i + x.size ≤ s.size) := by
  unfold hasP Lib.hasPrefix at h
  rw [ext_list, List.isPrefixOf_iff_prefix] at h
  have hl := h.length_le
  rw [List.length_drop, size_list, size_list] at hl
  refine ⟨?_, fun _ => by omega⟩
  apply ByteArray.ext
  apply Array.toList_inj.mp
  rw [ext_list2, ← size_list x]
  exact (List.prefix_iff_eq_take.mp h).symm
theorem sign_none {s : ByteArray} {i : Nat} (hi : i < s.size) (h : ∀ y ∈ signL, hasP (s.extract i s.size) y = false) : signN s i = 0 := by
  unfold signL at h
  simp [hasP1, hasP2] at h
  unfold signN
  rw [if_neg (by omega), if_neg (by simp; omega)]
theorem sign_some {s : ByteArray} {i j : Nat} (hj : j < signL.length) (h : hasP (s.extract i s.size) (nth signL j) = true) (h0 : ∀ y ∈ signL.take j, hasP (s.extract i s.size) y = false) : signN s i = (nth signL j).size := by
  have hj' : j < 19 := hj
  unfold signL at h h0 ⊢
  have hc : j = 0 ∨ j = 1 ∨ j = 2 ∨ j = 3 ∨ j = 4 ∨ j = 5 ∨ j = 6 ∨ j = 7 ∨ j = 8 ∨ j = 9 ∨ j = 10 ∨ j = 11 ∨ j = 12 ∨ j = 13 ∨ j = 14 ∨ j = 15 ∨ j = 16 ∨ j = 17 ∨ j = 18 := by omega
  unfold signN
  rcases hc with rfl | rfl | rfl | rfl | rfl | rfl | rfl | rfl | rfl | rfl | rfl | rfl | rfl | rfl | rfl | rfl | rfl | rfl | rfl <;>
    simp [nth, hasP1, hasP2] at h h0 <;> first | (rw [if_pos (by omega)]; rfl) | (rw [if_neg (by omega), if_pos (by simp [h])]; rfl)
end Go.Proofs.YthdkmhaneellcaaGreatDoor
