/-
  Prefixes of what is left of a text.
-/
import Derived.Test.YthdkmhaneellcaaGreatDoorX141
namespace Go.Proofs.YthdkmhaneellcaaGreatDoor
open Go.RowKit
set_option linter.unusedSimpArgs false
set_option linter.unusedVariables false

theorem size_list (s : ByteArray) : s.data.toList.length = s.size := Array.length_toList
theorem ext_list (s : ByteArray) (k : Nat) : (s.extract k s.size).data.toList = s.data.toList.drop k := by
  rw [ByteArray.data_extract, Array.toList_extract]
  show (s.data.toList.drop k).take (s.size - k) = _
  rw [List.take_of_length_le]
  rw [List.length_drop, size_list]
  exact Nat.le_refl _
theorem bt_list {s : ByteArray} {k : Nat} (h : k < s.data.toList.length) : bt s k = ((s.data.toList[k]'h).toNat : Int) := by
  have h' : k < s.data.size := by simpa using h
  unfold bt
  rw [Array.getD, dif_pos h']
  rfl
theorem u8_eq {a b : UInt8} : (a == b) = decide ((b.toNat : Int) = (a.toNat : Int)) := by
  rw [Bool.eq_iff_iff, beq_iff_eq, decide_eq_true_eq]
  constructor
  · rintro rfl; rfl
  · intro h; exact (UInt8.toNat_inj.mp (by omega)).symm
theorem hasP1 (s : ByteArray) (k : Nat) (a : UInt8) : hasP (s.extract k s.size) ⟨#[a]⟩ = decide (k < s.size ∧ bt s k = (a.toNat : Int)) := by
  unfold hasP Lib.hasPrefix
  rw [ext_list]
  by_cases h : k < s.data.toList.length
  · rw [List.drop_eq_getElem_cons h, bt_list h]
    rw [size_list] at h
    show ((a == _) && List.isPrefixOf [] _) = _
    rw [u8_eq, Bool.eq_iff_iff]
    simp [h]
  · rw [List.drop_eq_nil_of_le (by omega)]
    rw [size_list] at h
    rw [decide_eq_false (fun h2 => h h2.1)]
    rfl
theorem hasP2 (s : ByteArray) (k : Nat) (a b : UInt8) : hasP (s.extract k s.size) ⟨#[a, b]⟩ = decide (k + 1 < s.size ∧ bt s k = (a.toNat : Int) ∧ bt s (k + 1) = (b.toNat : Int)) := by
  unfold hasP Lib.hasPrefix
  rw [ext_list]
  by_cases h : k + 1 < s.data.toList.length
  · rw [List.drop_eq_getElem_cons (by omega), List.drop_eq_getElem_cons h, bt_list h, bt_list (show k < _ by omega)]
    rw [size_list] at h
    show ((a == _) && ((b == _) && List.isPrefixOf [] _)) = _
    rw [u8_eq, u8_eq, Bool.eq_iff_iff]
    simp [h]
  · rw [decide_eq_false (fun h2 => h (by rw [size_list]; exact h2.1))]
    by_cases h1 : k < s.data.toList.length
    · rw [List.drop_eq_getElem_cons h1, List.drop_eq_nil_of_le (by omega)]
      show ((a == _) && false) = false
      simp
    · rw [List.drop_eq_nil_of_le (by omega)]
      rfl
end Go.Proofs.YthdkmhaneellcaaGreatDoor
