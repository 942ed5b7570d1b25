/-
  With a fence behind each store nothing that waits is seen: in plain Lean.
-/
import Derived.Test.YtmgikmjmdppfmaaL3
import Derived.Test.YtmgikmjmdppfmaaX10
section
namespace Go.Proofs.Ytmgikmjmdppfmaa
open Go.RowKit
set_option linter.unusedSimpArgs false
set_option linter.unusedVariables false

theorem kind_key {op : Int} (b : ByteArray) (e : kindsB op = b) (h : ∀ (k : Nat) (hk : k < b.size), ((b[k]).toNat : Int) ≠ 99) (k : Nat) (hk : k < (kindsB op).size) : (((kindsB op)[k]).toNat : Int) ≠ 99 := by
  subst e; exact h k hk
theorem kind_c {op : Int} (h14 : op ≠ 14) (h15 : op ≠ 15) (k : Nat) (hk : k < (kindsB op).size) : (((kindsB op)[k]).toNat : Int) ≠ 99 := by
  by_cases hop : 1 ≤ op ∧ op ≤ 18
  · rcases cases18 op hop with rfl | rfl | rfl | rfl | rfl | rfl | rfl | rfl | rfl | rfl | rfl | rfl | rfl | rfl | rfl | rfl | rfl | rfl
    · refine kind_key ⟨#[114, 110]⟩ (by unfold kindsB; simp) (fun k hk => ?_) k hk
      rcases k with _ | _ | k
      · show ((114 : UInt8).toNat : Int) ≠ 99; decide
      · show ((110 : UInt8).toNat : Int) ≠ 99; decide
      · exact absurd hk (by show ¬ (k + 2 < 2); omega)
    · refine kind_key ⟨#[114, 114]⟩ (by unfold kindsB; simp) (fun k hk => ?_) k hk
      rcases k with _ | _ | k
      · show ((114 : UInt8).toNat : Int) ≠ 99; decide
      · show ((114 : UInt8).toNat : Int) ≠ 99; decide
      · exact absurd hk (by show ¬ (k + 2 < 2); omega)
    · refine kind_key ⟨#[114, 114, 114]⟩ (by unfold kindsB; simp) (fun k hk => ?_) k hk
      rcases k with _ | _ | _ | k
      · show ((114 : UInt8).toNat : Int) ≠ 99; decide
      · show ((114 : UInt8).toNat : Int) ≠ 99; decide
      · show ((114 : UInt8).toNat : Int) ≠ 99; decide
      · exact absurd hk (by show ¬ (k + 3 < 3); omega)
    · refine kind_key ⟨#[114, 114, 114]⟩ (by unfold kindsB; simp) (fun k hk => ?_) k hk
      rcases k with _ | _ | _ | k
      · show ((114 : UInt8).toNat : Int) ≠ 99; decide
      · show ((114 : UInt8).toNat : Int) ≠ 99; decide
      · show ((114 : UInt8).toNat : Int) ≠ 99; decide
      · exact absurd hk (by show ¬ (k + 3 < 3); omega)
    · refine kind_key ⟨#[114, 114, 114]⟩ (by unfold kindsB; simp) (fun k hk => ?_) k hk
      rcases k with _ | _ | _ | k
      · show ((114 : UInt8).toNat : Int) ≠ 99; decide
      · show ((114 : UInt8).toNat : Int) ≠ 99; decide
      · show ((114 : UInt8).toNat : Int) ≠ 99; decide
      · exact absurd hk (by show ¬ (k + 3 < 3); omega)
    · refine kind_key ⟨#[114, 114, 114]⟩ (by unfold kindsB; simp) (fun k hk => ?_) k hk
      rcases k with _ | _ | _ | k
      · show ((114 : UInt8).toNat : Int) ≠ 99; decide
      · show ((114 : UInt8).toNat : Int) ≠ 99; decide
      · show ((114 : UInt8).toNat : Int) ≠ 99; decide
      · exact absurd hk (by show ¬ (k + 3 < 3); omega)
    · refine kind_key ⟨#[114, 114, 114]⟩ (by unfold kindsB; simp) (fun k hk => ?_) k hk
      rcases k with _ | _ | _ | k
      · show ((114 : UInt8).toNat : Int) ≠ 99; decide
      · show ((114 : UInt8).toNat : Int) ≠ 99; decide
      · show ((114 : UInt8).toNat : Int) ≠ 99; decide
      · exact absurd hk (by show ¬ (k + 3 < 3); omega)
    · refine kind_key ⟨#[114, 119]⟩ (by unfold kindsB; simp) (fun k hk => ?_) k hk
      rcases k with _ | _ | k
      · show ((114 : UInt8).toNat : Int) ≠ 99; decide
      · show ((119 : UInt8).toNat : Int) ≠ 99; decide
      · exact absurd hk (by show ¬ (k + 2 < 2); omega)
    · refine kind_key ⟨#[119, 114]⟩ (by unfold kindsB; simp) (fun k hk => ?_) k hk
      rcases k with _ | _ | k
      · show ((119 : UInt8).toNat : Int) ≠ 99; decide
      · show ((114 : UInt8).toNat : Int) ≠ 99; decide
      · exact absurd hk (by show ¬ (k + 2 < 2); omega)
    · refine kind_key ⟨#[114, 114]⟩ (by unfold kindsB; simp) (fun k hk => ?_) k hk
      rcases k with _ | _ | k
      · show ((114 : UInt8).toNat : Int) ≠ 99; decide
      · show ((114 : UInt8).toNat : Int) ≠ 99; decide
      · exact absurd hk (by show ¬ (k + 2 < 2); omega)
    · refine kind_key ⟨#[114, 114]⟩ (by unfold kindsB; simp) (fun k hk => ?_) k hk
      rcases k with _ | _ | k
      · show ((114 : UInt8).toNat : Int) ≠ 99; decide
      · show ((114 : UInt8).toNat : Int) ≠ 99; decide
      · exact absurd hk (by show ¬ (k + 2 < 2); omega)
    · refine kind_key ⟨#[]⟩ (by unfold kindsB; simp) (fun k hk => ?_) k hk
      · exact absurd hk (by show ¬ (k < 0); omega)
    · refine kind_key ⟨#[119, 114, 114]⟩ (by unfold kindsB; simp) (fun k hk => ?_) k hk
      rcases k with _ | _ | _ | k
      · show ((119 : UInt8).toNat : Int) ≠ 99; decide
      · show ((114 : UInt8).toNat : Int) ≠ 99; decide
      · show ((114 : UInt8).toNat : Int) ≠ 99; decide
      · exact absurd hk (by show ¬ (k + 3 < 3); omega)
    · exact absurd rfl h14
    · exact absurd rfl h15
    · refine kind_key ⟨#[114]⟩ (by unfold kindsB; simp) (fun k hk => ?_) k hk
      rcases k with _ | k
      · show ((114 : UInt8).toNat : Int) ≠ 99; decide
      · exact absurd hk (by show ¬ (k + 1 < 1); omega)
    · refine kind_key ⟨#[108]⟩ (by unfold kindsB; simp) (fun k hk => ?_) k hk
      rcases k with _ | k
      · show ((108 : UInt8).toNat : Int) ≠ 99; decide
      · exact absurd hk (by show ¬ (k + 1 < 1); omega)
    · refine kind_key ⟨#[108]⟩ (by unfold kindsB; simp) (fun k hk => ?_) k hk
      rcases k with _ | k
      · show ((108 : UInt8).toNat : Int) ≠ 99; decide
      · exact absurd hk (by show ¬ (k + 1 < 1); omega)
  · refine kind_key ⟨#[]⟩ (kindsB_none op hop) (fun k hk => ?_) k hk
    exact absurd hk (Nat.not_lt_zero _)
theorem fits_move {p p' : Pg} {size size' kind n : Int} (hr : p'.regs = p.regs) (hw : p'.words.length = p.words.length) (hl : p'.locks = p.locks) (hk : kind ≠ 99) : fitsG p' size' kind n = fitsG p size kind n := by
  unfold fitsG
  rw [hr, hw, hl]
  simp only [hk, if_false]
theorem okNum_move {p p' : Pg} {size size' : Int} {x : Ins} {k : Nat} (hr : p'.regs = p.regs) (hw : p'.words.length = p.words.length) (hl : p'.locks = p.locks) (h14 : x.op ≠ 14) (h15 : x.op ≠ 15) : okNumG p' size' x k = okNumG p size x k := by
  unfold okNumG
  split
  · rename_i h
    exact fits_move hr hw hl (kind_c h14 h15 k h)
  · rfl
theorem OkIns.move {p p' : Pg} {size size' : Int} {x : Ins} (hr : p'.regs = p.regs) (hw : p'.words.length = p.words.length) (hl : p'.locks = p.locks) (h14 : x.op ≠ 14) (h15 : x.op ≠ 15) (h : OkIns p size x) : OkIns p' size' x :=
  ⟨h.op, by rw [okNum_move hr hw hl h14 h15]; exact h.n0, by rw [okNum_move hr hw hl h14 h15]; exact h.n1, by rw [okNum_move hr hw hl h14 h15]; exact h.n2⟩
theorem fit_c_mk {p : Pg} {size n : Int} (hs : 0 ≤ size ∧ size ≤ 100000) (h : 0 ≤ n ∧ n ≤ size) : fitsG p size 99 n = true := by
  unfold fitsG
  simp only [Int.reduceEq, if_false, if_true, Bool.and_eq_true, decide_eq_true_eq]
  rw [IntWalk.wrap64_in _ ⟨by omega, by omega⟩]
  omega
theorem num0_iff {p : Pg} {size : Int} {x : Ins} {b : UInt8} {r : List UInt8} (hk : kindsB x.op = ⟨(b :: r).toArray⟩) : okNumG p size x 0 = fitsG p size (b.toNat : Int) x.a := by
  unfold okNumG
  rw [hk, dif_pos (by simp [ByteArray.size])]; rfl
theorem num1_iff {p : Pg} {size : Int} {x : Ins} {a b : UInt8} {r : List UInt8} (hk : kindsB x.op = ⟨(a :: b :: r).toArray⟩) : okNumG p size x 1 = fitsG p size (b.toNat : Int) x.b := by
  unfold okNumG
  rw [hk, dif_pos (by simp [ByteArray.size])]; rfl
theorem num_no {p : Pg} {size : Int} {x : Ins} {k : Nat} (hk : (kindsB x.op).size ≤ k) : okNumG p size x k = (x.num k == 0) := by
  unfold okNumG
  rw [dif_neg (by omega)]
theorem OkIns.jump {p p' : Pg} {size size' : Int} {x : Ins} {a' : Int} (h14 : x.op = 14) (h : OkIns p size x) (hs : 0 ≤ size' ∧ size' ≤ 100000) (ha : 0 ≤ a' ∧ a' ≤ size') : OkIns p' size' { x with a := a' } := by
  have k : kindsB x.op = ⟨[99].toArray⟩ := by rw [h14]; unfold kindsB; simp
  have k' : kindsB ({ x with a := a' } : Ins).op = ⟨[99].toArray⟩ := k
  have h1 := h.n1
  have h2 := h.n2
  rw [num_no (by rw [k]; decide)] at h1 h2
  refine ⟨h.op, ?_, ?_, ?_⟩
  · rw [num0_iff k']; exact fit_c_mk hs ha
  · rw [num_no (by rw [k']; decide)]; exact h1
  · rw [num_no (by rw [k']; decide)]; exact h2
theorem OkIns.zero {p p' : Pg} {size size' : Int} {x : Ins} {b' : Int} (hr : p'.regs = p.regs) (hw : p'.words.length = p.words.length) (hl : p'.locks = p.locks) (h15 : x.op = 15) (h : OkIns p size x) (hs : 0 ≤ size' ∧ size' ≤ 100000) (hb : 0 ≤ b' ∧ b' ≤ size') : OkIns p' size' { x with b := b' } := by
  have k : kindsB x.op = ⟨[114, 99].toArray⟩ := by rw [h15]; unfold kindsB; simp
  have k' : kindsB ({ x with b := b' } : Ins).op = ⟨[114, 99].toArray⟩ := k
  have h0 := h.n0
  have h2 := h.n2
  rw [num0_iff k] at h0
  rw [num_no (by rw [k]; decide)] at h2
  refine ⟨h.op, ?_, ?_, ?_⟩
  · rw [num0_iff k', fits_move hr hw hl (by decide)]; exact h0
  · rw [num1_iff k']; exact fit_c_mk hs hb
  · rw [num_no (by rw [k']; decide)]; exact h2
end Go.Proofs.Ytmgikmjmdppfmaa
end
namespace Go.Proofs.Ytmgikmjmdppfmaa
open Go.RowKit
set_option linter.unusedSimpArgs false
set_option linter.unusedVariables false

def isSt (op : Int) : Prop := op = 9 ∨ op = 11 ∨ op = 18
section
variable (c : List Ins)
def wF (i : Nat) : Bool := waitsB (nth c i).op
def pF (i : Nat) : Nat := placeL (becL (fenW (wF c)) c) i
end
section
variable {c : List Ins}
end

section
variable {p : Pg}
/-- What a store would do. -/
def pend (i : Ins) (regs : List Int) : Wt := if i.op = 18 then ⟨true, i.a, 0⟩ else if i.op = 9 then ⟨false, i.a, nth regs i.b.toNat⟩ else ⟨false, nth regs i.a.toNat, nth regs i.b.toNat⟩
/-- May it? -/
def pendOK (t : Nat) (i : Ins) (regs : List Int) (W : Nat) (owner : List Int) : Prop := (i.op = 18 → nth owner i.a.toNat = t) ∧ (i.op = 11 → 0 ≤ nth regs i.a.toNat ∧ nth regs i.a.toNat < (W : Int))
end
end Go.Proofs.Ytmgikmjmdppfmaa
