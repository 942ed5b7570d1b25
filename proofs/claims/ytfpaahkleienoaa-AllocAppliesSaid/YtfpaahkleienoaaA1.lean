/-
  The words of spilt registers as a map tells them; orders given their registers are what the document's are. Plain Lean.
-/
import Derived.Test.YtfpaahkleienoaaX79
namespace Go.Proofs.Ytfpaahkleienoaa
open Go.RowKit
set_option linter.unusedSimpArgs false
set_option linter.unusedVariables false

/-- Which word each spilt register has, of the first registers. -/
def spL (cl : List Int) (b m : Nat) : List (Int × Int) := ((List.range m).filter fun r => decide (nth cl r < 0)).map fun (r : Nat) => (((r : Nat) : Int), ((b + nSp cl r : Nat) : Int))
theorem spL_yes {cl : List Int} {b m : Nat} (h : nth cl m < 0) : spL cl b (m + 1) = spL cl b m ++ [((m : Int), ((b + nSp cl m : Nat) : Int))] := by unfold spL; rw [List.range_succ, List.filter_append, List.map_append]; simp [h]
theorem spL_no {cl : List Int} {b m : Nat} (h : ¬ nth cl m < 0) : spL cl b (m + 1) = spL cl b m := by unfold spL; rw [List.range_succ, List.filter_append, List.map_append]; simp [h]
theorem spL_key {cl : List Int} {b m : Nat} {k : Int} (h : k ∈ (spL cl b m).map (·.1)) : ∃ r : Nat, k = (r : Int) ∧ r < m := by
  unfold spL at h
  rw [List.map_map] at h
  obtain ⟨r, hr, e⟩ := List.mem_map.1 h
  exact ⟨r, e.symm, List.mem_range.1 (List.mem_filter.1 hr).1⟩
theorem spL_none (cl : List Int) (b m : Nat) : getZ (m : Int) (spL cl b m) = none := by
  rw [getZ_none]
  intro h
  obtain ⟨r, e, hr⟩ := spL_key h
  omega
theorem spL_nodup (cl : List Int) (b : Nat) : ∀ m, ((spL cl b m).map (·.1)).Nodup
  | 0 => List.nodup_nil
  | m + 1 => by
    by_cases h : nth cl m < 0
    · rw [spL_yes h, List.map_append, List.nodup_append]
      refine ⟨spL_nodup cl b m, by simp, fun x hx y hy e => ?_⟩
      obtain ⟨r, e2, hr⟩ := spL_key hx
      have : y = (m : Int) := by simpa using hy
      omega
    · rw [spL_no h]; exact spL_nodup cl b m
theorem spL_get {cl : List Int} {b R r : Nat} (hr : r < R) (h : nth cl r < 0) : getZ (r : Int) (spL cl b R) = some ((b + nSp cl r : Nat) : Int) := by
  rw [getZ_some (spL_nodup cl b R)]
  exact List.mem_map.2 ⟨r, List.mem_filter.2 ⟨List.mem_range.2 hr, by simpa using h⟩, rfl⟩
/-- The painter's orders are the document's. -/
theorem paint_sp {cl : List Int} {b R : Nat} {x : Ins} (hrd : ∀ v ∈ rdG x, 0 ≤ v ∧ v < (R : Int)) (hwr : wrG x < (R : Int)) : paintF cl (fun r : Int => (getZ r (spL cl b R)).getD 0) x = paintL cl (wdF cl b R) x := by
  refine paint_same fun r hr hc => ?_
  have h0 : 0 ≤ r ∧ r < (R : Int) := by
    rcases hr with ⟨rfl, h⟩ | h
    · exact ⟨h, hwr⟩
    · exact hrd _ h
  obtain ⟨q, rfl⟩ := Int.eq_ofNat_of_zero_le h0.1
  have hq : q < R := by omega
  have hc' : nth cl q < 0 := hc
  show (getZ (q : Int) (spL cl b R)).getD 0 = nth (wdF cl b R) q
  rw [spL_get hq hc']
  unfold wdF
  rw [nth_mapR hq, if_pos hc']
  rfl
theorem paintL_ops {cl wd : List Int} {x y : Ins} (hy : y ∈ paintL cl wd x) : y.op = 8 ∨ y.op = 9 ∨ y.op = x.op := by
  unfold paintL at hy
  rcases List.mem_append.1 hy with hy | hy
  · unfold ldL at hy
    obtain ⟨q, _, hq⟩ := List.mem_flatMap.1 hy
    unfold ldK at hq
    split at hq
    · rw [List.mem_singleton.1 hq]; exact .inl rfl
    · cases hq
  · rcases List.mem_cons.1 hy with rfl | hy
    · exact .inr (.inr (ptS_op _ _ _ _))
    · split at hy
      · rw [List.mem_singleton.1 hy]; exact .inr (.inl rfl)
      · cases hy
/-- What fence.Moved makes of the painter's orders is what the document puts. -/
theorem moved_ap {code : List Ins} {cl : List Int} {b : Nat} {regs : Int} (h0 : 0 ≤ regs) (hov : OkV code regs) : movedL (fun _ x => paintF cl (fun r : Int => (getZ r (spL cl b regs.toNat)).getD 0) x) code = apT code cl b regs.toNat := by
  have e : ∀ i, i < code.length → paintF cl (fun r : Int => (getZ r (spL cl b regs.toNat)).getD 0) (nth code i) = paintL cl (wdF cl b regs.toNat) (nth code i) := fun i hi =>
    paint_sp (fun v hv => by have := (hov i hi).2.2.2 v hv; omega) (by have := (hov i hi).2.2.1; omega)
  rw [moved_put]
  · unfold apT apL becL
    congr 1
    refine List.map_congr_left fun i hi => e i (List.mem_range.1 hi)
  · intro i hi x hx h15
    rw [e i hi] at hx
    rcases paintL_ops hx with h | h | h <;> omega
section
variable {code : List Ins} {cl : List Int} {b : Nat} {regs : Int} {ml : List (Int × Int)}
theorem ap_one (hml : ml = spL cl b regs.toNat) (h0 : 0 ≤ regs) (hov : OkV code regs) {i : Nat} (hi : i < code.length) : paintF cl (fun r : Int => (getZ r ml).getD 0) (nth code i) = paintL cl (wdF cl b regs.toNat) (nth code i) := by
  subst hml
  exact paint_sp (fun v hv => by have := (hov i hi).2.2.2 v hv; omega) (by have := (hov i hi).2.2.1; omega)
theorem ap_b8 (hml : ml = spL cl b regs.toNat) (h0 : 0 ≤ regs) (hov : OkV code regs) : ∀ i, i < code.length → ((fun (_ : Nat) (x : Ins) => paintF cl (fun r : Int => (getZ r ml).getD 0) x) i (nth code i)).length ≤ 8 := fun i hi => by
  show (paintF cl _ (nth code i)).length ≤ 8
  rw [ap_one hml h0 hov hi]; exact paintL_len _ _ _
theorem ap_bok (hml : ml = spL cl b regs.toNat) (h0 : 0 ≤ regs) (hov : OkV code regs) (hj : JumpsOK code) : BecB (fun (_ : Nat) (x : Ins) => paintF cl (fun r : Int => (getZ r ml).getD 0) x) code := by
  intro i hi k hk
  have hk' : k < (paintF cl (fun r : Int => (getZ r ml).getD 0) (nth code i)).length := hk
  have e := ap_one hml h0 hov hi
  have h9 := apL_op (cl := cl) (wd := wdF cl b regs.toNat) (hj i hi) (nth (paintL cl (wdF cl b regs.toNat) (nth code i)) k) (nth_mem _ _ (by rw [← e]; exact hk'))
  rw [← e] at h9
  exact h9
theorem moved_ap2 (hml : ml = spL cl b regs.toNat) (h0 : 0 ≤ regs) (hov : OkV code regs) : movedL (fun (_ : Nat) (x : Ins) => paintF cl (fun r : Int => (getZ r ml).getD 0) x) code = apT code cl b regs.toNat := by subst hml; exact moved_ap h0 hov
end
end Go.Proofs.Ytfpaahkleienoaa
