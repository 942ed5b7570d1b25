/-
  Parts of rows, read as rows. It imports nothing of the dump.
-/
import Derived.Test.YtmgikmjmdppfmaaS10
namespace Go.Proofs.Ytmgikmjmdppfmaa
open Go.RowKit
set_option linter.unusedSimpArgs false
set_option linter.unusedVariables false

section
variable {α : Type} [Enc α] {s : Ls α} {w : World}
theorem nth_take0 {β : Type} [Inhabited β] {l : List β} {i j : Nat} (h : i < j) : nth (l.take j) i = nth l i := by
  simp only [nth, List.getD, List.getElem?_take, if_pos h]
theorem take_at (h : s.At w) {j : Nat} (hj : j ≤ s.l.length) : (⟨vtake s.v j, s.l.take j⟩ : Ls α).At w := by
  obtain ⟨A, cap, hv, h⟩ := h
  have hl : (s.l.take j).length = j := by rw [List.length_take]; omega
  refine ⟨A, cap, by show vtake s.v j = _; rw [hv, hl]; rfl, ?_⟩
  have hle : s.l.length ≤ cap := h.le
  have hln : s.l.length ≤ 140737488355328 := h.len
  refine ⟨by show (s.l.take j).length ≤ cap; omega, h.max, by show (s.l.take j).length ≤ _; omega, fun h0 => h.some (by simp only at h0; show 0 < s.l.length; omega), fun h0 => h.lt' (by simp only at h0; show 0 < s.l.length; omega), fun i q hi hq => ?_, fun i hi => ?_⟩
  · simp only at hi
    rw [show nth (s.l.take j) i = nth s.l i from nth_take0 (by omega)]
    exact h.cell i q (by show i < s.l.length; omega) hq
  · simp only at hi
    rw [show nth (s.l.take j) i = nth s.l i from nth_take0 (by omega)]
    exact h.inner i (by show i < s.l.length; omega)
end
section
variable {P : Program} {o : Oper} {N : Nat} {K : Nat → Prop} {W w : World} {a : Act} {F : List (Nat × Value)} {L : List Asn} {α : Type} [Enc α]
theorem r_slH0 {T e : TypeId} {g : Bool} {n by_ : Nat} {z : List Value} {x y : Operand} {s : Ls α} {j : Nat} (hT : slI P T = some e) (he : tyI P e = some (g, n, by_, z)) (ho : o.op = .slice T x none (some y) none) (hx : ev F x = some s.v) (hy : ev F y = some (.int .i64 (j : Int)))
    (hat : ∀ w, Sh K W w L → s.At w) (hj : j ≤ s.l.length) : Rn P o N K W F L (vtake s.v j) := fun a w h => by
  obtain ⟨A, cap, hv, hA⟩ := hat w h.sh
  have hle := hA.le
  simp only at hle
  obtain ⟨i, d, zv, hi, hd, _, rfl, _⟩ := tyI_parts he
  have hu := slI_parts hT
  have hel : P.elem T = e := by simp [Program.elem, hu]
  have hu' : P.underlying T = some (.slice (P.elem T)) := by rw [hel]; exact hu
  have e1 := run_sliceAt_slice (P := P) w T (.slice A s.l.length cap) none (some (.int .i64 (j : Int))) none hu'
  have e2 := run_slice_h (P := P) w T A s.l.length cap hu' .i64 (j : Int) (by omega) (by omega)
  rw [hel, run_sizeOf hi, Result.andThen_ok] at e2
  rw [e2] at e1
  have hs : (if cap = 0 then A else A.map (·.add (0 * i.size))) = A := by
    by_cases hc : cap = 0
    · rw [if_pos hc]
    · rw [if_neg hc]
      obtain ⟨_, _, hA1⟩ : True ∧ True ∧ True := ⟨trivial, trivial, trivial⟩
      cases A with
      | none => rfl
      | some a => obtain ⟨b, o, sp⟩ := a; cases sp <;> simp [Addr.add]
  unfold execOp
  simp only [ho, h.fr.ev hx, h.fr.ev hy, Option.map_some, Option.map_none, hv, Sem.run_bind, e1, Result.andThen_ok, Sem.run_pure, sliced, vtake]
  simp only [Nat.zero_mul] at hs
  simp [hs]
end
end Go.Proofs.Ytmgikmjmdppfmaa
