/-
  Orders that read other registers, of the same value, do the same: in plain Lean.
-/
import Derived.Test.YtanhbpofhebbaaaU3
import Derived.Test.YtanhbpofhebbaaaL4
namespace Go.Proofs.Ytanhbpofhebbaaa
open Go.RowKit
set_option linter.unusedSimpArgs false
set_option linter.unusedVariables false

/-- The register that is read in a register's place. -/
def rpF (f : Int → Option Int) (r : Int) : Int := (f r).getD r
theorem putK_self (x : Ins) {k : Nat} (hk : k < 3) : putK x k (nth [x.a, x.b, x.c] k) = x := by
  rcases (by omega : k = 0 ∨ k = 1 ∨ k = 2) with rfl | rfl | rfl <;> rfl
theorem cpStep_eq (f : Int → Option Int) (x y : Ins) {k : Nat} (hk : k < 3) : cpStep f x y k = if cpK x k = true then putK y k (rpF f (nth [y.a, y.b, y.c] k)) else y := by
  unfold cpStep rpF
  split
  · cases h : f (nth [y.a, y.b, y.c] k) with
    | some b => rfl
    | none => exact (putK_self y hk).symm
  · rfl
theorem kAt_key {op : Int} {l : List UInt8} (hl : kindsB op = ⟨l.toArray⟩) (k : Nat) : kAt (kindsB op) k = ((l[k]?).map fun b => (b.toNat : Int)).getD 0 := by
  rw [hl]
  unfold kAt
  by_cases h : k < l.length
  · rw [dif_pos (by simpa [ByteArray.size] using h), List.getElem?_eq_getElem h]; rfl
  · rw [dif_neg (by simpa [ByteArray.size] using h), List.getElem?_eq_none (by omega)]; rfl
theorem cpTo_1 {f : Int → Option Int} {x : Ins} (h : (kindsB x.op).size = 1) : copyIns f x = cpStep f x x 0 := by unfold copyIns; rw [h]; rfl
theorem cpTo_2 {f : Int → Option Int} {x : Ins} (h : (kindsB x.op).size = 2) : copyIns f x = cpStep f x (cpStep f x x 0) 1 := by unfold copyIns; rw [h]; rfl
theorem cpTo_3 {f : Int → Option Int} {x : Ins} (h : (kindsB x.op).size = 3) : copyIns f x = cpStep f x (cpStep f x (cpStep f x x 0) 1) 2 := by unfold copyIns; rw [h]; rfl
section
variable {f : Int → Option Int} {x : Ins}
theorem copy_op1 (h : x.op = 1) (h0 : 0 ≤ x.a) : copyIns f x = x := by
  have e : kindsB x.op = ⟨[114, 110].toArray⟩ := by rw [h]; unfold kindsB; simp
  have hz : (kindsB x.op).size = 2 := by rw [e]; rfl
  have hw : 0 ≤ wrG x := by unfold wrG; rw [if_neg (by omega), if_pos (by omega)]; exact h0
  have k0 : kAt (kindsB x.op) 0 = 114 := by rw [kAt_key e]; rfl
  have c0 : cpK x 0 = false := cpK_w rfl hw
  have k1 : kAt (kindsB x.op) 1 = 110 := by rw [kAt_key e]; rfl
  have c1 : cpK x 1 = false := cpK_n (by omega)
  rw [cpTo_2 hz]
  rw [cpStep_eq _ _ _ (by decide : 1 < 3), if_neg (by rw [c1]; decide)]
  rw [cpStep_eq _ _ _ (by decide : 0 < 3), if_neg (by rw [c0]; decide)]
theorem copy_op2 (h : x.op = 2) (h0 : 0 ≤ x.a) : copyIns f x = { x with b := rpF f x.b } := by
  have e : kindsB x.op = ⟨[114, 114].toArray⟩ := by rw [h]; unfold kindsB; simp
  have hz : (kindsB x.op).size = 2 := by rw [e]; rfl
  have hw : 0 ≤ wrG x := by unfold wrG; rw [if_neg (by omega), if_pos (by omega)]; exact h0
  have k0 : kAt (kindsB x.op) 0 = 114 := by rw [kAt_key e]; rfl
  have c0 : cpK x 0 = false := cpK_w rfl hw
  have k1 : kAt (kindsB x.op) 1 = 114 := by rw [kAt_key e]; rfl
  have c1 : cpK x 1 = true := cpK_y k1 (by first | exact .inr hw | exact .inl (by decide)) (by first | exact .inr (by decide) | exact .inl (by omega))
  rw [cpTo_2 hz]
  rw [cpStep_eq _ _ _ (by decide : 1 < 3), if_pos c1]
  rw [cpStep_eq _ _ _ (by decide : 0 < 3), if_neg (by rw [c0]; decide)]
  rfl
theorem copy_op3 (h : x.op = 3) (h0 : 0 ≤ x.a) : copyIns f x = { x with b := rpF f x.b, c := rpF f x.c } := by
  have e : kindsB x.op = ⟨[114, 114, 114].toArray⟩ := by rw [h]; unfold kindsB; simp
  have hz : (kindsB x.op).size = 3 := by rw [e]; rfl
  have hw : 0 ≤ wrG x := by unfold wrG; rw [if_neg (by omega), if_pos (by omega)]; exact h0
  have k0 : kAt (kindsB x.op) 0 = 114 := by rw [kAt_key e]; rfl
  have c0 : cpK x 0 = false := cpK_w rfl hw
  have k1 : kAt (kindsB x.op) 1 = 114 := by rw [kAt_key e]; rfl
  have c1 : cpK x 1 = true := cpK_y k1 (by first | exact .inr hw | exact .inl (by decide)) (by first | exact .inr (by decide) | exact .inl (by omega))
  have k2 : kAt (kindsB x.op) 2 = 114 := by rw [kAt_key e]; rfl
  have c2 : cpK x 2 = true := cpK_y k2 (by first | exact .inr hw | exact .inl (by decide)) (by first | exact .inr (by decide) | exact .inl (by omega))
  rw [cpTo_3 hz]
  rw [cpStep_eq _ _ _ (by decide : 2 < 3), if_pos c2]
  rw [cpStep_eq _ _ _ (by decide : 1 < 3), if_pos c1]
  rw [cpStep_eq _ _ _ (by decide : 0 < 3), if_neg (by rw [c0]; decide)]
  rfl
theorem copy_op4 (h : x.op = 4) (h0 : 0 ≤ x.a) : copyIns f x = { x with b := rpF f x.b, c := rpF f x.c } := by
  have e : kindsB x.op = ⟨[114, 114, 114].toArray⟩ := by rw [h]; unfold kindsB; simp
  have hz : (kindsB x.op).size = 3 := by rw [e]; rfl
  have hw : 0 ≤ wrG x := by unfold wrG; rw [if_neg (by omega), if_pos (by omega)]; exact h0
  have k0 : kAt (kindsB x.op) 0 = 114 := by rw [kAt_key e]; rfl
  have c0 : cpK x 0 = false := cpK_w rfl hw
  have k1 : kAt (kindsB x.op) 1 = 114 := by rw [kAt_key e]; rfl
  have c1 : cpK x 1 = true := cpK_y k1 (by first | exact .inr hw | exact .inl (by decide)) (by first | exact .inr (by decide) | exact .inl (by omega))
  have k2 : kAt (kindsB x.op) 2 = 114 := by rw [kAt_key e]; rfl
  have c2 : cpK x 2 = true := cpK_y k2 (by first | exact .inr hw | exact .inl (by decide)) (by first | exact .inr (by decide) | exact .inl (by omega))
  rw [cpTo_3 hz]
  rw [cpStep_eq _ _ _ (by decide : 2 < 3), if_pos c2]
  rw [cpStep_eq _ _ _ (by decide : 1 < 3), if_pos c1]
  rw [cpStep_eq _ _ _ (by decide : 0 < 3), if_neg (by rw [c0]; decide)]
  rfl
theorem copy_op5 (h : x.op = 5) (h0 : 0 ≤ x.a) : copyIns f x = { x with b := rpF f x.b, c := rpF f x.c } := by
  have e : kindsB x.op = ⟨[114, 114, 114].toArray⟩ := by rw [h]; unfold kindsB; simp
  have hz : (kindsB x.op).size = 3 := by rw [e]; rfl
  have hw : 0 ≤ wrG x := by unfold wrG; rw [if_neg (by omega), if_pos (by omega)]; exact h0
  have k0 : kAt (kindsB x.op) 0 = 114 := by rw [kAt_key e]; rfl
  have c0 : cpK x 0 = false := cpK_w rfl hw
  have k1 : kAt (kindsB x.op) 1 = 114 := by rw [kAt_key e]; rfl
  have c1 : cpK x 1 = true := cpK_y k1 (by first | exact .inr hw | exact .inl (by decide)) (by first | exact .inr (by decide) | exact .inl (by omega))
  have k2 : kAt (kindsB x.op) 2 = 114 := by rw [kAt_key e]; rfl
  have c2 : cpK x 2 = true := cpK_y k2 (by first | exact .inr hw | exact .inl (by decide)) (by first | exact .inr (by decide) | exact .inl (by omega))
  rw [cpTo_3 hz]
  rw [cpStep_eq _ _ _ (by decide : 2 < 3), if_pos c2]
  rw [cpStep_eq _ _ _ (by decide : 1 < 3), if_pos c1]
  rw [cpStep_eq _ _ _ (by decide : 0 < 3), if_neg (by rw [c0]; decide)]
  rfl
theorem copy_op6 (h : x.op = 6) (h0 : 0 ≤ x.a) : copyIns f x = { x with b := rpF f x.b, c := rpF f x.c } := by
  have e : kindsB x.op = ⟨[114, 114, 114].toArray⟩ := by rw [h]; unfold kindsB; simp
  have hz : (kindsB x.op).size = 3 := by rw [e]; rfl
  have hw : 0 ≤ wrG x := by unfold wrG; rw [if_neg (by omega), if_pos (by omega)]; exact h0
  have k0 : kAt (kindsB x.op) 0 = 114 := by rw [kAt_key e]; rfl
  have c0 : cpK x 0 = false := cpK_w rfl hw
  have k1 : kAt (kindsB x.op) 1 = 114 := by rw [kAt_key e]; rfl
  have c1 : cpK x 1 = true := cpK_y k1 (by first | exact .inr hw | exact .inl (by decide)) (by first | exact .inr (by decide) | exact .inl (by omega))
  have k2 : kAt (kindsB x.op) 2 = 114 := by rw [kAt_key e]; rfl
  have c2 : cpK x 2 = true := cpK_y k2 (by first | exact .inr hw | exact .inl (by decide)) (by first | exact .inr (by decide) | exact .inl (by omega))
  rw [cpTo_3 hz]
  rw [cpStep_eq _ _ _ (by decide : 2 < 3), if_pos c2]
  rw [cpStep_eq _ _ _ (by decide : 1 < 3), if_pos c1]
  rw [cpStep_eq _ _ _ (by decide : 0 < 3), if_neg (by rw [c0]; decide)]
  rfl
theorem copy_op7 (h : x.op = 7) (h0 : 0 ≤ x.a) : copyIns f x = { x with b := rpF f x.b, c := rpF f x.c } := by
  have e : kindsB x.op = ⟨[114, 114, 114].toArray⟩ := by rw [h]; unfold kindsB; simp
  have hz : (kindsB x.op).size = 3 := by rw [e]; rfl
  have hw : 0 ≤ wrG x := by unfold wrG; rw [if_neg (by omega), if_pos (by omega)]; exact h0
  have k0 : kAt (kindsB x.op) 0 = 114 := by rw [kAt_key e]; rfl
  have c0 : cpK x 0 = false := cpK_w rfl hw
  have k1 : kAt (kindsB x.op) 1 = 114 := by rw [kAt_key e]; rfl
  have c1 : cpK x 1 = true := cpK_y k1 (by first | exact .inr hw | exact .inl (by decide)) (by first | exact .inr (by decide) | exact .inl (by omega))
  have k2 : kAt (kindsB x.op) 2 = 114 := by rw [kAt_key e]; rfl
  have c2 : cpK x 2 = true := cpK_y k2 (by first | exact .inr hw | exact .inl (by decide)) (by first | exact .inr (by decide) | exact .inl (by omega))
  rw [cpTo_3 hz]
  rw [cpStep_eq _ _ _ (by decide : 2 < 3), if_pos c2]
  rw [cpStep_eq _ _ _ (by decide : 1 < 3), if_pos c1]
  rw [cpStep_eq _ _ _ (by decide : 0 < 3), if_neg (by rw [c0]; decide)]
  rfl
theorem copy_op8 (h : x.op = 8) (h0 : 0 ≤ x.a) : copyIns f x = x := by
  have e : kindsB x.op = ⟨[114, 119].toArray⟩ := by rw [h]; unfold kindsB; simp
  have hz : (kindsB x.op).size = 2 := by rw [e]; rfl
  have hw : 0 ≤ wrG x := by unfold wrG; rw [if_neg (by omega), if_pos (by omega)]; exact h0
  have k0 : kAt (kindsB x.op) 0 = 114 := by rw [kAt_key e]; rfl
  have c0 : cpK x 0 = false := cpK_w rfl hw
  have k1 : kAt (kindsB x.op) 1 = 119 := by rw [kAt_key e]; rfl
  have c1 : cpK x 1 = false := cpK_n (by omega)
  rw [cpTo_2 hz]
  rw [cpStep_eq _ _ _ (by decide : 1 < 3), if_neg (by rw [c1]; decide)]
  rw [cpStep_eq _ _ _ (by decide : 0 < 3), if_neg (by rw [c0]; decide)]
theorem copy_op9 (h : x.op = 9) : copyIns f x = { x with b := rpF f x.b } := by
  have e : kindsB x.op = ⟨[119, 114].toArray⟩ := by rw [h]; unfold kindsB; simp
  have hz : (kindsB x.op).size = 2 := by rw [e]; rfl
  have hw : ¬ 0 ≤ wrG x := by unfold wrG; rw [if_neg (by omega), if_neg (by omega)]; decide
  have k0 : kAt (kindsB x.op) 0 = 119 := by rw [kAt_key e]; rfl
  have c0 : cpK x 0 = false := cpK_n (by omega)
  have k1 : kAt (kindsB x.op) 1 = 114 := by rw [kAt_key e]; rfl
  have c1 : cpK x 1 = true := cpK_y k1 (by first | exact .inr hw | exact .inl (by decide)) (by first | exact .inr (by decide) | exact .inl (by omega))
  rw [cpTo_2 hz]
  rw [cpStep_eq _ _ _ (by decide : 1 < 3), if_pos c1]
  rw [cpStep_eq _ _ _ (by decide : 0 < 3), if_neg (by rw [c0]; decide)]
  rfl
theorem copy_op10 (h : x.op = 10) (h0 : 0 ≤ x.a) : copyIns f x = { x with b := rpF f x.b } := by
  have e : kindsB x.op = ⟨[114, 114].toArray⟩ := by rw [h]; unfold kindsB; simp
  have hz : (kindsB x.op).size = 2 := by rw [e]; rfl
  have hw : 0 ≤ wrG x := by unfold wrG; rw [if_neg (by omega), if_pos (by omega)]; exact h0
  have k0 : kAt (kindsB x.op) 0 = 114 := by rw [kAt_key e]; rfl
  have c0 : cpK x 0 = false := cpK_w rfl hw
  have k1 : kAt (kindsB x.op) 1 = 114 := by rw [kAt_key e]; rfl
  have c1 : cpK x 1 = true := cpK_y k1 (by first | exact .inr hw | exact .inl (by decide)) (by first | exact .inr (by decide) | exact .inl (by omega))
  rw [cpTo_2 hz]
  rw [cpStep_eq _ _ _ (by decide : 1 < 3), if_pos c1]
  rw [cpStep_eq _ _ _ (by decide : 0 < 3), if_neg (by rw [c0]; decide)]
  rfl
theorem copy_op11 (h : x.op = 11) : copyIns f x = { x with a := rpF f x.a, b := rpF f x.b } := by
  have e : kindsB x.op = ⟨[114, 114].toArray⟩ := by rw [h]; unfold kindsB; simp
  have hz : (kindsB x.op).size = 2 := by rw [e]; rfl
  have hw : ¬ 0 ≤ wrG x := by unfold wrG; rw [if_neg (by omega), if_neg (by omega)]; decide
  have k0 : kAt (kindsB x.op) 0 = 114 := by rw [kAt_key e]; rfl
  have c0 : cpK x 0 = true := cpK_y k0 (by first | exact .inr hw | exact .inl (by decide)) (by first | exact .inr (by decide) | exact .inl (by omega))
  have k1 : kAt (kindsB x.op) 1 = 114 := by rw [kAt_key e]; rfl
  have c1 : cpK x 1 = true := cpK_y k1 (by first | exact .inr hw | exact .inl (by decide)) (by first | exact .inr (by decide) | exact .inl (by omega))
  rw [cpTo_2 hz]
  rw [cpStep_eq _ _ _ (by decide : 1 < 3), if_pos c1]
  rw [cpStep_eq _ _ _ (by decide : 0 < 3), if_pos c0]
  rfl
theorem copy_op12 (h : x.op = 12) : copyIns f x = x := by
  have e : kindsB x.op = ⟨#[]⟩ := by rw [h]; unfold kindsB; simp
  unfold copyIns; rw [e]; rfl
theorem copy_op13 (h : x.op = 13) (h0 : 0 ≤ x.b) : copyIns f x = { x with c := rpF f x.c } := by
  have e : kindsB x.op = ⟨[119, 114, 114].toArray⟩ := by rw [h]; unfold kindsB; simp
  have hz : (kindsB x.op).size = 3 := by rw [e]; rfl
  have hw : 0 ≤ wrG x := by unfold wrG; rw [if_pos h]; exact h0
  have k0 : kAt (kindsB x.op) 0 = 119 := by rw [kAt_key e]; rfl
  have c0 : cpK x 0 = false := cpK_n (by omega)
  have k1 : kAt (kindsB x.op) 1 = 114 := by rw [kAt_key e]; rfl
  have c1 : cpK x 1 = false := cpK_c h rfl
  have k2 : kAt (kindsB x.op) 2 = 114 := by rw [kAt_key e]; rfl
  have c2 : cpK x 2 = true := cpK_y k2 (by first | exact .inr hw | exact .inl (by decide)) (by first | exact .inr (by decide) | exact .inl (by omega))
  rw [cpTo_3 hz]
  rw [cpStep_eq _ _ _ (by decide : 2 < 3), if_pos c2]
  rw [cpStep_eq _ _ _ (by decide : 1 < 3), if_neg (by rw [c1]; decide)]
  rw [cpStep_eq _ _ _ (by decide : 0 < 3), if_neg (by rw [c0]; decide)]
  rfl
theorem copy_op14 (h : x.op = 14) : copyIns f x = x := by
  have e : kindsB x.op = ⟨[99].toArray⟩ := by rw [h]; unfold kindsB; simp
  have hz : (kindsB x.op).size = 1 := by rw [e]; rfl
  have hw : ¬ 0 ≤ wrG x := by unfold wrG; rw [if_neg (by omega), if_neg (by omega)]; decide
  have k0 : kAt (kindsB x.op) 0 = 99 := by rw [kAt_key e]; rfl
  have c0 : cpK x 0 = false := cpK_n (by omega)
  rw [cpTo_1 hz]
  rw [cpStep_eq _ _ _ (by decide : 0 < 3), if_neg (by rw [c0]; decide)]
theorem copy_op15 (h : x.op = 15) : copyIns f x = { x with a := rpF f x.a } := by
  have e : kindsB x.op = ⟨[114, 99].toArray⟩ := by rw [h]; unfold kindsB; simp
  have hz : (kindsB x.op).size = 2 := by rw [e]; rfl
  have hw : ¬ 0 ≤ wrG x := by unfold wrG; rw [if_neg (by omega), if_neg (by omega)]; decide
  have k0 : kAt (kindsB x.op) 0 = 114 := by rw [kAt_key e]; rfl
  have c0 : cpK x 0 = true := cpK_y k0 (by first | exact .inr hw | exact .inl (by decide)) (by first | exact .inr (by decide) | exact .inl (by omega))
  have k1 : kAt (kindsB x.op) 1 = 99 := by rw [kAt_key e]; rfl
  have c1 : cpK x 1 = false := cpK_n (by omega)
  rw [cpTo_2 hz]
  rw [cpStep_eq _ _ _ (by decide : 1 < 3), if_neg (by rw [c1]; decide)]
  rw [cpStep_eq _ _ _ (by decide : 0 < 3), if_pos c0]
  rfl
theorem copy_op16 (h : x.op = 16) : copyIns f x = { x with a := rpF f x.a } := by
  have e : kindsB x.op = ⟨[114].toArray⟩ := by rw [h]; unfold kindsB; simp
  have hz : (kindsB x.op).size = 1 := by rw [e]; rfl
  have hw : ¬ 0 ≤ wrG x := by unfold wrG; rw [if_neg (by omega), if_neg (by omega)]; decide
  have k0 : kAt (kindsB x.op) 0 = 114 := by rw [kAt_key e]; rfl
  have c0 : cpK x 0 = true := cpK_y k0 (by first | exact .inr hw | exact .inl (by decide)) (by first | exact .inr (by decide) | exact .inl (by omega))
  rw [cpTo_1 hz]
  rw [cpStep_eq _ _ _ (by decide : 0 < 3), if_pos c0]
  rfl
theorem copy_op17 (h : x.op = 17) : copyIns f x = x := by
  have e : kindsB x.op = ⟨[108].toArray⟩ := by rw [h]; unfold kindsB; simp
  have hz : (kindsB x.op).size = 1 := by rw [e]; rfl
  have hw : ¬ 0 ≤ wrG x := by unfold wrG; rw [if_neg (by omega), if_neg (by omega)]; decide
  have k0 : kAt (kindsB x.op) 0 = 108 := by rw [kAt_key e]; rfl
  have c0 : cpK x 0 = false := cpK_n (by omega)
  rw [cpTo_1 hz]
  rw [cpStep_eq _ _ _ (by decide : 0 < 3), if_neg (by rw [c0]; decide)]
theorem copy_op18 (h : x.op = 18) : copyIns f x = x := by
  have e : kindsB x.op = ⟨[108].toArray⟩ := by rw [h]; unfold kindsB; simp
  have hz : (kindsB x.op).size = 1 := by rw [e]; rfl
  have hw : ¬ 0 ≤ wrG x := by unfold wrG; rw [if_neg (by omega), if_neg (by omega)]; decide
  have k0 : kAt (kindsB x.op) 0 = 108 := by rw [kAt_key e]; rfl
  have c0 : cpK x 0 = false := cpK_n (by omega)
  rw [cpTo_1 hz]
  rw [cpStep_eq _ _ _ (by decide : 0 < 3), if_neg (by rw [c0]; decide)]
end
theorem copy_op (f : Int → Option Int) (x : Ins) : (copyIns f x).op = x.op := cpTo_op f x _
section
variable {m : Int} {n : Nat} {f : Int → Option Int} {i : Ins} {x : TS} {R W L : Nat}
theorem no_op (hop : 1 ≤ i.op ∧ i.op ≤ 18) : i.op = 1 ∨ i.op = 2 ∨ i.op = 3 ∨ i.op = 4 ∨ i.op = 5 ∨ i.op = 6 ∨ i.op = 7 ∨ i.op = 8 ∨ i.op = 9 ∨ i.op = 10 ∨ i.op = 11 ∨ i.op = 12 ∨ i.op = 13 ∨ i.op = 14 ∨ i.op = 15 ∨ i.op = 16 ∨ i.op = 17 ∨ i.op = 18 := by omega
theorem copy_exec (hop : 1 ≤ i.op ∧ i.op ≤ 18) (hR : InsR R W L i) (hf : ∀ r : Int, 0 ≤ r → r < R → x.reg (rpF f r) = x.reg r) : execT m n (copyIns f i) x = execT m n i x := by
  rcases no_op hop with h | h | h | h | h | h | h | h | h | h | h | h | h | h | h | h | h | h
  · have q := hR.o1 h
    rw [copy_op1 h q.1]
  · have q := hR.o2 h
    rw [copy_op2 h q.1.1]
    have hb := hf i.b q.2.1 q.2.2
    rw [execT_2 (i := i) h, execT_2 (i := ({ i with b := rpF f i.b } : Ins)) h]
    show x.put i.a (x.reg (rpF f i.b)) = _
    rw [hb]
  · have q := hR.o3 (.inl h)
    rw [copy_op3 h q.1.1]
    have hb := hf i.b q.2.1.1 q.2.1.2
    have hc := hf i.c q.2.2.1 q.2.2.2
    rw [execT_3 (i := i) h, execT_3 (i := ({ i with b := rpF f i.b, c := rpF f i.c } : Ins)) h]
    show x.put i.a (wrap64 (x.reg (rpF f i.b) + x.reg (rpF f i.c))) = _
    rw [hb, hc]
  · have q := hR.o3 (.inr (.inl h))
    rw [copy_op4 h q.1.1]
    have hb := hf i.b q.2.1.1 q.2.1.2
    have hc := hf i.c q.2.2.1 q.2.2.2
    rw [execT_4 (i := i) h, execT_4 (i := ({ i with b := rpF f i.b, c := rpF f i.c } : Ins)) h]
    show x.put i.a (wrap64 (x.reg (rpF f i.b) - x.reg (rpF f i.c))) = _
    rw [hb, hc]
  · have q := hR.o3 (.inr (.inr (.inl h)))
    rw [copy_op5 h q.1.1]
    have hb := hf i.b q.2.1.1 q.2.1.2
    have hc := hf i.c q.2.2.1 q.2.2.2
    rw [execT_5 (i := i) h, execT_5 (i := ({ i with b := rpF f i.b, c := rpF f i.c } : Ins)) h]
    show x.put i.a (wrap64 (x.reg (rpF f i.b) * x.reg (rpF f i.c))) = _
    rw [hb, hc]
  · have q := hR.o3 (.inr (.inr (.inr (.inl h))))
    rw [copy_op6 h q.1.1]
    have hb := hf i.b q.2.1.1 q.2.1.2
    have hc := hf i.c q.2.2.1 q.2.2.2
    rw [execT_6 (i := i) h, execT_6 (i := ({ i with b := rpF f i.b, c := rpF f i.c } : Ins)) h]
    show x.put i.a (bit (decide (x.reg (rpF f i.b) < x.reg (rpF f i.c)))) = _
    rw [hb, hc]
  · have q := hR.o3 (.inr (.inr (.inr (.inr h))))
    rw [copy_op7 h q.1.1]
    have hb := hf i.b q.2.1.1 q.2.1.2
    have hc := hf i.c q.2.2.1 q.2.2.2
    rw [execT_7 (i := i) h, execT_7 (i := ({ i with b := rpF f i.b, c := rpF f i.c } : Ins)) h]
    show x.put i.a (bit (decide (x.reg (rpF f i.b) = x.reg (rpF f i.c)))) = _
    rw [hb, hc]
  · have q := hR.o8 h
    rw [copy_op8 h q.1.1]
  · have q := hR.o9 h
    rw [copy_op9 h]
    have hb := hf i.b q.2.1 q.2.2
    rw [execT_9 (i := i) h, execT_9 (i := ({ i with b := rpF f i.b } : Ins)) h]
    show x.store m ⟨false, i.a, x.reg (rpF f i.b)⟩ = _
    rw [hb]
  · have q := hR.o10 (.inl h)
    rw [copy_op10 h q.1.1]
    have hb := hf i.b q.2.1 q.2.2
    by_cases hw : 0 ≤ x.reg i.b ∧ x.reg i.b < (x.words.length : Int)
    · rw [execT_10t (i := i) h hw, execT_10t (i := ({ i with b := rpF f i.b } : Ins)) h (show 0 ≤ x.reg (rpF f i.b) ∧ x.reg (rpF f i.b) < (x.words.length : Int) by rw [hb]; exact hw)]
      show x.put i.a (x.finds (x.reg (rpF f i.b))) = _
      rw [hb]
    · rw [execT_10f (i := i) h hw, execT_10f (i := ({ i with b := rpF f i.b } : Ins)) h (show ¬ (0 ≤ x.reg (rpF f i.b) ∧ x.reg (rpF f i.b) < (x.words.length : Int)) by rw [hb]; exact hw)]
  · have q := hR.o10 (.inr h)
    rw [copy_op11 h]
    have ha := hf i.a q.1.1 q.1.2
    have hb := hf i.b q.2.1 q.2.2
    by_cases hw : 0 ≤ x.reg i.a ∧ x.reg i.a < (x.words.length : Int)
    · rw [execT_11t (i := i) h hw, execT_11t (i := ({ i with a := rpF f i.a, b := rpF f i.b } : Ins)) h (show 0 ≤ x.reg (rpF f i.a) ∧ x.reg (rpF f i.a) < (x.words.length : Int) by rw [ha]; exact hw)]
      show x.store m ⟨false, x.reg (rpF f i.a), x.reg (rpF f i.b)⟩ = _
      rw [ha, hb]
    · rw [execT_11f (i := i) h hw, execT_11f (i := ({ i with a := rpF f i.a, b := rpF f i.b } : Ins)) h (show ¬ (0 ≤ x.reg (rpF f i.a) ∧ x.reg (rpF f i.a) < (x.words.length : Int)) by rw [ha]; exact hw)]
  · rw [copy_op12 h]
  · have q := hR.o13 h
    rw [copy_op13 h q.2.1.1]
    have hc := hf i.c q.2.2.1 q.2.2.2
    by_cases hw : nth x.words i.a.toNat = x.reg i.b
    · rw [execT_13t (i := i) h hw, execT_13t (i := ({ i with c := rpF f i.c } : Ins)) h hw]
      show { x with words := x.words.set i.a.toNat (x.reg (rpF f i.c)), regs := x.regs.set i.b.toNat 1 } = _
      rw [hc]
    · rw [execT_13f (i := i) h hw, execT_13f (i := ({ i with c := rpF f i.c } : Ins)) h hw]
  · rw [copy_op14 h]
  · have q := hR.o15 (.inl h)
    rw [copy_op15 h]
    have ha := hf i.a q.1 q.2
    by_cases hw : x.reg i.a = 0
    · rw [execT_15t (i := i) h hw, execT_15t (i := ({ i with a := rpF f i.a } : Ins)) h (show x.reg (rpF f i.a) = 0 by rw [ha]; exact hw)]
    · rw [execT_15f (i := i) h hw, execT_15f (i := ({ i with a := rpF f i.a } : Ins)) h (show ¬ (x.reg (rpF f i.a) = 0) by rw [ha]; exact hw)]
  · have q := hR.o15 (.inr h)
    rw [copy_op16 h]
    have ha := hf i.a q.1 q.2
    rw [execT_16 (i := i) h, execT_16 (i := ({ i with a := rpF f i.a } : Ins)) h]
    show { x with prints := x.prints ++ [(n : Int), x.reg (rpF f i.a)] } = _
    rw [ha]
  · rw [copy_op17 h]
  · rw [copy_op18 h]
theorem copy_able {owner : List Int} {q : Nat} : ableL owner q (copyIns f i) = ableL owner q i := by
  have e := copy_op f i
  by_cases h : i.op = 17
  · rw [copy_op17 h]
  · unfold ableL
    rw [e]
    simp only [if_neg h]
/-- What an order leaves of the registers. -/
theorem execT_regs (hop : 1 ≤ i.op ∧ i.op ≤ 18) : (execT m n i x).regs = x.regs ∧ (i.op = 2 → False) ∨ ∃ v, (execT m n i x).regs = x.regs.set (wrG i).toNat v ∧ (i.op = 2 → v = x.reg i.b) ∧ (i.op = 2 ∨ (i.op ≤ 8 ∨ i.op = 10) ∨ i.op = 13) := by
  have wa : i.op ≤ 8 ∨ i.op = 10 → wrG i = i.a := fun h => by unfold wrG; rw [if_neg (by omega), if_pos h]
  rcases no_op hop with h | h | h | h | h | h | h | h | h | h | h | h | h | h | h | h | h | h
  · exact .inr ⟨_, by rw [execT_1 h, wa (by omega)]; rfl, fun h2 => by omega, by omega⟩
  · exact .inr ⟨_, by rw [execT_2 h, wa (by omega)]; rfl, fun h2 => rfl, by omega⟩
  · exact .inr ⟨_, by rw [execT_3 h, wa (by omega)]; rfl, fun h2 => by omega, by omega⟩
  · exact .inr ⟨_, by rw [execT_4 h, wa (by omega)]; rfl, fun h2 => by omega, by omega⟩
  · exact .inr ⟨_, by rw [execT_5 h, wa (by omega)]; rfl, fun h2 => by omega, by omega⟩
  · exact .inr ⟨_, by rw [execT_6 h, wa (by omega)]; rfl, fun h2 => by omega, by omega⟩
  · exact .inr ⟨_, by rw [execT_7 h, wa (by omega)]; rfl, fun h2 => by omega, by omega⟩
  · exact .inr ⟨_, by rw [execT_8 h, wa (by omega)]; rfl, fun h2 => by omega, by omega⟩
  · exact .inl ⟨by rw [execT_9 h]; unfold TS.store TS.done; split <;> rfl, by omega⟩
  · by_cases hw : 0 ≤ x.reg i.b ∧ x.reg i.b < (x.words.length : Int)
    · exact .inr ⟨_, by rw [execT_10t h hw, wa (by omega)]; rfl, fun h2 => by omega, by omega⟩
    · exact .inl ⟨by rw [execT_10f h hw], by omega⟩
  · by_cases hw : 0 ≤ x.reg i.a ∧ x.reg i.a < (x.words.length : Int)
    · exact .inl ⟨by rw [execT_11t h hw]; unfold TS.store TS.done; split <;> rfl, by omega⟩
    · exact .inl ⟨by rw [execT_11f h hw], by omega⟩
  · exact .inl ⟨by rw [execT_no (by omega)], by omega⟩
  · have wb : wrG i = i.b := by unfold wrG; rw [if_pos h]
    by_cases hw : nth x.words i.a.toNat = x.reg i.b
    · exact .inr ⟨_, by rw [execT_13t h hw, wb], fun h2 => by omega, by omega⟩
    · exact .inr ⟨_, by rw [execT_13f h hw, wb]; rfl, fun h2 => by omega, by omega⟩
  · exact .inl ⟨by rw [execT_14 h], by omega⟩
  · by_cases hw : x.reg i.a = 0
    · exact .inl ⟨by rw [execT_15t h hw], by omega⟩
    · exact .inl ⟨by rw [execT_15f h hw], by omega⟩
  · exact .inl ⟨by rw [execT_16 h], by omega⟩
  · exact .inl ⟨by rw [execT_17 h], by omega⟩
  · refine .inl ⟨?_, by omega⟩
    by_cases hw : nth x.owner i.a.toNat ≠ n
    · rw [execT_18a h hw]
    · by_cases hh : ∃ j, j < x.wait.length ∧ (nth x.wait j).lock = true ∧ (nth x.wait j).wh = i.a
      · obtain ⟨j, hj, h1, h2⟩ := hh
        rw [execT_18b h hw j hj h1 h2]
      · rw [execT_18c h hw (fun q hq hc => hh ⟨q, hq, hc⟩)]; unfold TS.store TS.done; split <;> rfl
end
theorem execT_nx {m : Int} {n : Nat} {c : List Ins} {i : Nat} {x : TS} : (execT m n (nth c i) { x with pc := (i : Int) + 1 }).pc ∈ nextsL c i := by
  unfold nextsL
  by_cases h14 : (nth c i).op = 14
  · rw [if_pos h14, execT_14 h14]; simp
  by_cases h15 : (nth c i).op = 15
  · rw [if_neg h14, if_pos h15]
    by_cases hz : x.reg (nth c i).a = 0
    · rw [execT_15t (x := { x with pc := (i : Int) + 1 }) h15 hz]; simp
    · rw [execT_15f (x := { x with pc := (i : Int) + 1 }) h15 hz]; simp
  · rw [if_neg h14, if_neg h15, (execT_pc m n (nth c i) { x with pc := (i : Int) + 1 } 0 h14 h15).2]; simp
section
variable {p : Pg} {m : Int}
theorem codeC_pg (h : OkPg p) {t : Nat} (ht : t < p.code.length) : CodeC (nth p.code t) := by
  have hj : JumpsOK (nth p.code t) := fun i hi => (h.insR ht hi).2
  refine ⟨fun i hi => (h.ins t i ht hi).op.1, fun i hi h2 => ?_, fun i hi y hy => nextsV_ok hj hi hy⟩
  have := (h.insR ht hi).1.o2 h2
  exact ⟨this.1.1, this.2.1⟩
/-- Where a thread stands, what is the same already is the same. -/
structure SameR (c : List Ins) (x : Th) : Prop where
  at_ : ∃ i : Nat, x.pc = i ∧ i ≤ c.length ∧ RchC c i ∧ ∀ a b, GoodZ c (a, b) → SameI c a b i → nth x.regs a.toNat = nth x.regs b.toNat
theorem sameR_exec {c : List Ins} (hc : CodeC c) {R W L : Nat} {i : Nat} (hi : i < c.length) (hin : ∀ i, i < c.length → InsR R W L (nth c i)) (hop : ∀ i, i < c.length → 1 ≤ (nth c i).op ∧ (nth c i).op ≤ 18) {n : Nat} {x : TS} (hx : x.regs.length = R) (hr : RchC c i)
    (hs : ∀ a b, GoodZ c (a, b) → SameI c a b i → nth x.regs a.toNat = nth x.regs b.toNat) :
    ∃ j : Nat, (execT m n (nth c i) { x with pc := (i : Int) + 1 }).pc = j ∧ j ≤ c.length ∧ RchC c j ∧ ∀ a b, GoodZ c (a, b) → SameI c a b j → nth (execT m n (nth c i) { x with pc := (i : Int) + 1 }).regs a.toNat = nth (execT m n (nth c i) { x with pc := (i : Int) + 1 }).regs b.toNat := by
  have hnx := execT_nx (m := m) (n := n) (c := c) (i := i) (x := x)
  have hb := hc.nx i hi _ hnx
  refine ⟨_, (Int.toNat_of_nonneg hb.1).symm, by omega, .step i _ hr hi hnx, fun a b hg hsm => ?_⟩
  have hpos := hg.pos hc
  have hne := hg.1
  simp only at hpos hne
  have hq := hin i hi
  rcases execT_regs (m := m) (n := n) (i := nth c i) (x := { x with pc := (i : Int) + 1 }) (hop i hi) with ⟨e, e2⟩ | ⟨v, e, e2, e3⟩
  · rw [e]
    rcases same_step hr hi hnx hsm.2 with ⟨_, h2⟩ | ⟨_, h2⟩
    · exact absurd h2.1 e2
    · exact hs a b hg ⟨hr, h2⟩
  · rw [e]
    show nth (x.regs.set _ v) _ = nth (x.regs.set _ v) _
    rcases same_step hr hi hnx hsm.2 with ⟨_, h2⟩ | ⟨h1, h2⟩
    · have h3 := hq.o2 h2.1
      have hw : wrG (nth c i) = a := by rw [wr_mv h2.1]; exact h2.2.1
      have hv : v = nth x.regs b.toNat := by rw [e2 h2.1]; show nth x.regs (nth c i).b.toNat = _; rw [h2.2.2]
      rw [h2.2.1, h2.2.2] at h3
      rw [hw, nth_setI _ _ _ _ (by omega), if_pos rfl, nth_setI _ _ _ _ (by omega), if_neg (by omega)]
      exact hv
    · have h3 : ¬ (wrG (nth c i) = a ∨ wrG (nth c i) = b) := h1
      have hw : 0 ≤ wrG (nth c i) ∧ wrG (nth c i) < R := by
        rcases (by omega : (nth c i).op = 13 ∨ ((nth c i).op ≠ 13 ∧ ((nth c i).op ≤ 8 ∨ (nth c i).op = 10))) with h4 | ⟨h4, h5⟩
        · rw [show wrG (nth c i) = (nth c i).b by unfold wrG; rw [if_pos h4]]
          exact (hq.o13 h4).2.1
        · rw [show wrG (nth c i) = (nth c i).a by unfold wrG; rw [if_neg h4, if_pos h5]]
          rcases no_op (hop i hi) with h | h | h | h | h | h | h | h | h | h | h | h | h | h | h | h | h | h
          · exact hq.o1 h
          · exact (hq.o2 h).1
          · exact (hq.o3 (by omega)).1
          · exact (hq.o3 (by omega)).1
          · exact (hq.o3 (by omega)).1
          · exact (hq.o3 (by omega)).1
          · exact (hq.o3 (by omega)).1
          · exact (hq.o8 h).1
          · omega
          · exact (hq.o10 (.inl h)).1
          all_goals omega
      rw [nth_setI _ _ _ _ (by omega), if_neg (by omega), nth_setI _ _ _ _ (by omega), if_neg (by omega)]
      exact hs a b hg ⟨hr, h2⟩
theorem Reach.same (hok : OkPg p) {s : MSt} (h : Reach p m s) : ∀ t, t < p.code.length → SameR (nth p.code t) (nth s.ths t) := by
  induction h with
  | start =>
    intro t ht
    have e : nth (begin_ p).ths t = ⟨0, List.replicate p.regs.toNat 0, []⟩ := nth_map' _ _ _ ht
    rw [e]
    exact ⟨0, rfl, Nat.zero_le _, .zero, fun a b _ hs => absurd .zero hs.2⟩
  | step hr ht hk hf ih =>
    rename_i s t k
    intro u hu
    rw [putT_th (hr.len hok ht)]
    by_cases e : t = u
    case neg => rw [if_neg e]; exact ih u hu
    subst e
    rw [if_pos rfl]
    obtain ⟨i, hi, hil, hri, hs⟩ := (ih t ht).at_
    rcases mvOK_k hk with ⟨rfl, hlt, hab⟩ | ⟨h1, h2, _⟩
    · have hi' : (s.view t).pc = (i : Int) := hi
      have hil' : i < (nth p.code t).length := by rw [hi'] at hlt; omega
      have hn : nextIns (nth p.code t) (s.view t).pc = nth (nth p.code t) i := by rw [hi', nextIns_t (by omega)]; simp
      have hst : stepT p m s t 0 = execT m t (nth (nth p.code t) i) { s.view t with pc := (i : Int) + 1 } := by rw [stepT_e, hn, hi']
      obtain ⟨j, j1, j2, j3, j4⟩ := sameR_exec (m := m) (codeC_pg hok ht) hil' (fun i hi => (hok.insR ht hi).1) (fun i hi => (hok.ins t i ht hi).op) (n := t) (x := s.view t) ((hr.wf hok).th t ht).regs hri hs
      rw [hst]
      exact ⟨j, j1, j2, j3, j4⟩
    · have e1 : (stepT p m s t k).regs = (nth s.ths t).regs := by unfold stepT doT; rw [if_pos h1]; rfl
      have e2 : (stepT p m s t k).pc = (nth s.ths t).pc := by unfold stepT doT; rw [if_pos h1]; rfl
      exact ⟨i, by show (stepT p m s t k).pc = _; rw [e2]; exact hi, hil, hri, fun a b hg hsm => by show nth (stepT p m s t k).regs _ = nth (stepT p m s t k).regs _; rw [e1]; exact hs a b hg hsm⟩
end
noncomputable def copyPg (p : Pg) : Pg := { p with code := p.code.map copyL }
section
variable {p : Pg} {m : Int}
theorem copyPg_len : (copyPg p).code.length = p.code.length := by simp [copyPg]
theorem copyPg_code {t : Nat} (h : t < p.code.length) : nth (copyPg p).code t = copyL (nth p.code t) := nth_map' _ _ _ h
theorem copyL_len (c : List Ins) : (copyL c).length = c.length := by simp [copyL]
theorem copyL_at {c : List Ins} {i : Nat} (h : i < c.length) : nth (copyL c) i = copyIns (sameF c i) (nth c i) := by
  unfold copyL
  rw [nth_map' _ _ _ (by simp; exact h)]
  have : nth (List.range c.length) i = i := by simp [nth, h]
  rw [this]
theorem copy_begin : begin_ (copyPg p) = begin_ p := by unfold begin_ copyPg; simp [Function.comp_def]
theorem copy_ended (s : MSt) : ended (copyPg p) s = ended p s := by
  rw [Bool.eq_iff_iff, ended_iff, ended_iff, copyPg_len]
  constructor
  · intro h t ht
    have := h t ht
    rw [copyPg_code ht, copyL_len] at this
    exact this
  · intro h t ht
    rw [copyPg_code ht, copyL_len]
    exact h t ht
/-- The two programs' moves are the same ones. -/
theorem copy_step (hok : OkPg p) {s : MSt} (hr : Reach p m s) {t : Nat} (ht : t < p.code.length) (k : Nat) : mvOK m (nth (copyPg p).code t) (s.view t) k = mvOK m (nth p.code t) (s.view t) k ∧ (mvOK m (nth p.code t) (s.view t) k = true → stepT (copyPg p) m s t k = stepT p m s t k) := by
  by_cases hk : 0 < k
  · refine ⟨mvOK_pos (x := s.view t) (u := (s.view t).pc) hk, fun _ => ?_⟩
    unfold stepT doT
    rw [if_pos hk, if_pos hk]
  obtain rfl : k = 0 := by omega
  obtain ⟨i, hi, hil, hri, hs⟩ := (hr.same hok t ht).at_
  have hi' : (s.view t).pc = (i : Int) := hi
  rw [copyPg_code ht]
  rcases Nat.lt_or_ge i (nth p.code t).length with hlt | hge
  · have hn : nextIns (nth p.code t) (s.view t).pc = nth (nth p.code t) i := by rw [hi', nextIns_t (by omega)]; simp
    have hn2 : nextIns (copyL (nth p.code t)) (s.view t).pc = copyIns (sameF (nth p.code t) i) (nth (nth p.code t) i) := by rw [hi', nextIns_t (by rw [copyL_len]; omega)]; simp only [Int.toNat_natCast]; exact copyL_at hlt
    refine ⟨?_, fun _ => ?_⟩
    · unfold mvOK ableV
      rw [if_pos rfl, if_pos rfl, hn, hn2, copyL_len, copy_able]
    · rw [stepT_e, stepT_e, copyPg_code ht, hn, hn2]
      refine copy_exec (hok.ins t i ht hlt).op (hok.insR ht hlt).1 fun r h0 h1 => ?_
      show nth (nth s.ths t).regs (rpF (sameF (nth p.code t) i) r).toNat = nth (nth s.ths t).regs r.toNat
      unfold rpF
      cases hf : sameF (nth p.code t) i r with
      | none => rfl
      | some b =>
        obtain ⟨h2, h3⟩ := sameF_some.1 hf
        exact (hs r b h2 h3).symm
  · have e1 : mvOK m (copyL (nth p.code t)) (s.view t) 0 = false := by
      unfold mvOK ableV
      rw [if_pos rfl, hi', decide_eq_false (by rw [copyL_len]; omega)]; rfl
    have e2 : mvOK m (nth p.code t) (s.view t) 0 = false := by
      unfold mvOK ableV
      rw [if_pos rfl, hi', decide_eq_false (by omega)]; rfl
    rw [e1, e2]
    exact ⟨rfl, fun h => by cases h⟩
theorem copy_reach (hok : OkPg p) {s : MSt} (h : Reach p m s) : Reach (copyPg p) m s := by
  induction h with
  | start => rw [← copy_begin]; exact .start
  | step hr ht hk hf ih =>
    obtain ⟨h1, h2⟩ := copy_step hok hr ht _
    rw [← h2 hk] at hf ⊢
    exact .step ih (by rw [copyPg_len]; exact ht) (by rw [h1]; exact hk) hf
theorem copy_reach' (hok : OkPg p) {s : MSt} (h : Reach (copyPg p) m s) : Reach p m s := by
  induction h with
  | start => rw [copy_begin]; exact .start
  | step hr ht hk hf ih =>
    rename_i s t k
    have ht' : t < p.code.length := by rw [copyPg_len] at ht; exact ht
    obtain ⟨h1, h2⟩ := copy_step hok ih ht' k
    rw [h1] at hk
    rw [h2 hk] at hf ⊢
    exact .step ih ht' hk hf
theorem copy_outs (hok : OkPg p) (o : Outc) : Outs p m o ↔ Outs (copyPg p) m o := by
  constructor
  · intro ho
    cases ho with
    | done hr he => exact .done (copy_reach hok hr) (by rw [copy_ended]; exact he)
    | stuck hr he hs =>
      refine .stuck (copy_reach hok hr) (by rw [copy_ended]; exact he) fun t k ht => ?_
      rw [copyPg_len] at ht
      rw [(copy_step hok hr ht k).1]
      exact hs t k ht
    | fell hr ht hk hf =>
      obtain ⟨h1, h2⟩ := copy_step hok hr ht _
      rw [← h2 hk] at hf ⊢
      exact .fell (copy_reach hok hr) (by rw [copyPg_len]; exact ht) (by rw [h1]; exact hk) hf
  · intro ho
    cases ho with
    | done hr he => exact .done (copy_reach' hok hr) (by rw [← copy_ended]; exact he)
    | stuck hr he hs =>
      have hr' := copy_reach' hok hr
      refine .stuck hr' (by rw [← copy_ended]; exact he) fun t k ht => ?_
      rw [← (copy_step hok hr' ht k).1]
      exact hs t k (by rw [copyPg_len]; exact ht)
    | fell hr ht hk hf =>
      have hr' := copy_reach' hok hr
      rw [copyPg_len] at ht
      obtain ⟨h1, h2⟩ := copy_step hok hr' ht _
      rw [h1] at hk
      rw [h2 hk] at hf ⊢
      exact .fell hr' ht hk hf
end
-- ---------------------------------------------------------------- what is made may be
theorem fit114_mk {p : Pg} {size n : Int} (h : 0 ≤ n ∧ n < p.regs) : fitsG p size 114 n = true := by
  unfold fitsG
  simp only [Int.reduceEq, if_false, if_true, Bool.and_eq_true, decide_eq_true_eq]
  exact h
theorem okNum_put {p : Pg} {size : Int} {x : Ins} {k j : Nat} {v : Int} (hk : k < 3) (hj : j < 3) (hd : kAt (kindsB x.op) k = 114) (hv : 0 ≤ v ∧ v < p.regs) (h : okNumG p size x j = true) : okNumG p size (putK x k v) j = true := by
  unfold okNumG at h ⊢
  rw [putK_op]
  by_cases e : j = k
  · subst e
    split
    · rename_i hlt
      rw [kAt_at hlt] at hd
      rw [hd]
      have : (putK x j v).num j = v := by rcases (by omega : j = 0 ∨ j = 1 ∨ j = 2) with rfl | rfl | rfl <;> rfl
      rw [this]
      exact fit114_mk hv
    · rename_i hlt
      unfold kAt at hd
      rw [dif_neg hlt] at hd
      cases hd
  · have : (putK x k v).num j = x.num j := by
      rcases (by omega : j = 0 ∨ j = 1 ∨ j = 2) with rfl | rfl | rfl <;> rcases (by omega : k = 0 ∨ k = 1 ∨ k = 2) with rfl | rfl | rfl <;> first | rfl | exact absurd rfl e
    rw [this]
    exact h
theorem OkIns.put {p : Pg} {size : Int} {x : Ins} {k : Nat} {v : Int} (hk : k < 3) (hd : kAt (kindsB x.op) k = 114) (hv : 0 ≤ v ∧ v < p.regs) (h : OkIns p size x) : OkIns p size (putK x k v) :=
  ⟨by rw [putK_op]; exact h.op, okNum_put hk (by decide) hd hv h.n0, okNum_put hk (by decide) hd hv h.n1, okNum_put hk (by decide) hd hv h.n2⟩
theorem OkIns.cp {p : Pg} {size : Int} {x : Ins} {f : Int → Option Int} (hf : ∀ r b, f r = some b → 0 ≤ b ∧ b < p.regs) (h : OkIns p size x) : ∀ k, k ≤ 3 → OkIns p size (cpTo f x k)
  | 0, _ => h
  | k + 1, hk => by
    have ih := OkIns.cp hf h k (by omega)
    rw [cpTo, cpStep]
    split
    · rename_i hc
      split
      · rename_i b hb
        exact ih.put (by omega) (by rw [cpTo_op]; exact cpK_114 hc) (hf _ _ hb)
      · exact ih
    · exact ih
theorem OkIns.size {p p' : Pg} {size : Int} {x : Ins} (hr : p'.regs = p.regs) (hw : p'.words.length = p.words.length) (hl : p'.locks = p.locks) (h : OkIns p size x) : OkIns p' size x := by
  have e : ∀ k, okNumG p' size x k = okNumG p size x k := fun k => by
    unfold okNumG
    split
    · unfold fitsG; rw [hr, hw, hl]
    · rfl
  exact ⟨h.op, by rw [e]; exact h.n0, by rw [e]; exact h.n1, by rw [e]; exact h.n2⟩
theorem copyPg_ok {p : Pg} (h : OkPg p) : OkPg (copyPg p) := by
  refine ⟨by rw [copyPg_len]; exact h.code, h.words, h.locks, h.regs, fun t ht => ?_, fun t i ht hi => ?_⟩
  · rw [copyPg_len] at ht
    rw [copyPg_code ht, copyL_len]
    exact h.len t ht
  · rw [copyPg_len] at ht
    rw [copyPg_code ht, copyL_len] at hi
    rw [copyPg_code ht, copyL_len, copyL_at hi]
    refine OkIns.size (p := p) rfl rfl rfl ((h.ins t i ht hi).cp (fun r b hb => ?_) _ (kinds_small _).1)
    obtain ⟨⟨_, j, hj, h2, _, h4⟩, _⟩ := sameF_some.1 hb
    have h5 := ((h.insR ht hj).1.o2 h2).2
    have h4' : (nth (nth p.code t) j).b = b := h4
    have := h.regs
    rw [h4'] at h5
    omega
end Go.Proofs.Ytanhbpofhebbaaa
