import Derived.Test.YtfpaahkleienoaaT4
import Derived.Test.YtfpaahkleienoaaMaps
namespace Go.Proofs.Ytfpaahkleienoaa
open Go.RowKit
set_option linter.unusedSimpArgs false
set_option linter.unusedVariables false

def shapeV (op : Int) : Value := .agg #[.string (nameB op), .string (kindsB op)]
/-- What shapes() holds. -/
def shapesL : List (Int × Value) := (List.range 18).map fun i : Nat => ((i : Int) + 1, shapeV ((i : Int) + 1))

set_option maxHeartbeats 2000000 in
theorem shapes_any (w : World) :
    Calls Try.prog 92 #[] w fun e w' => ∃ g, w.heap.size ≤ g ∧ e = .returned (.map (some g)) ∧ MapI w' g shapesL ∧ Below w.heap.size w w' := by
  have hmm := @run_makeMap Try.prog
  go_enter Try.func92, Try.ntmps92
  go_wp2
  go_ret
  exact ⟨w.heap.size, Nat.le_refl _, rfl, ⟨_, _, Go.heap_alloc_new w _, by kernel_rfl⟩, (Below.refl _ _).alloc (Nat.le_refl _) _⟩

/-- Is a number an order's? -/
def opB (op : Int) : Bool := decide (1 ≤ op ∧ op ≤ 18)
theorem cases18 (op : Int) (h : 1 ≤ op ∧ op ≤ 18) : op = 1 ∨ op = 2 ∨ op = 3 ∨ op = 4 ∨ op = 5 ∨ op = 6 ∨ op = 7 ∨ op = 8 ∨ op = 9 ∨ op = 10 ∨ op = 11 ∨ op = 12 ∨ op = 13 ∨ op = 14 ∨ op = 15 ∨ op = 16 ∨ op = 17 ∨ op = 18 := by omega
theorem nameB_none (op : Int) (h : ¬ (1 ≤ op ∧ op ≤ 18)) : nameB op = ⟨#[]⟩ := by
  unfold nameB
  iterate 18 rw [if_neg (by omega)]
theorem kindsB_none (op : Int) (h : ¬ (1 ≤ op ∧ op ≤ 18)) : kindsB op = ⟨#[]⟩ := by
  unfold kindsB
  iterate 18 rw [if_neg (by omega)]
theorem nameB_empty (op : Int) : (nameB op).toList.isEmpty = !opB op := by
  unfold opB
  by_cases h : 1 ≤ op ∧ op ≤ 18
  · rw [decide_eq_true h]
    rcases cases18 op h with h | h | h | h | h | h | h | h | h | h | h | h | h | h | h | h | h | h <;> subst h <;> first | (simp [nameB]; done) | (unfold nameB; decide +kernel)
  · rw [decide_eq_false h, nameB_none op h]; first | (simp; done) | decide +kernel
theorem atKey_none (k : Int) : ∀ (l : List (Int × Value)) (i : Nat), (∀ x ∈ l, x.1 ≠ k) → atKey k l i = none
  | [], _, _ => rfl
  | x :: l, i, h => by
    rw [atKey, if_neg (fun e => h x (by simp) e.symm), atKey_none k l (i + 1) fun y hy => h y (by simp [hy])]
theorem shapes_at (op : Int) : (atKey op shapesL 0).isSome = opB op ∧ ((atKey op shapesL 0).map (·.2)).getD (.agg #[.string ⟨#[]⟩, .string ⟨#[]⟩]) = shapeV op := by
  unfold opB
  by_cases h : 1 ≤ op ∧ op ≤ 18
  · rw [decide_eq_true h]
    rcases cases18 op h with h | h | h | h | h | h | h | h | h | h | h | h | h | h | h | h | h | h <;> subst h <;> exact ⟨rfl, rfl⟩
  · rw [decide_eq_false h, atKey_none]
    · exact ⟨rfl, by simp [shapeV, nameB_none op h, kindsB_none op h]⟩
    · intro x hx
      simp only [shapesL, List.mem_map, List.mem_range] at hx
      obtain ⟨i, hi, rfl⟩ := hx
      dsimp only
      omega

/-- Looking an order up in shapes(). -/
theorem shapes_lookup (w : World) (g : Nat) (op : Int) (h : MapI w g shapesL) :
    (Instr.lookup 159 (.map (some g)) (.int .i64 op) true).run Try.prog w = .ok (.tuple #[.agg #[.string (nameB op), .string (kindsB op)], .bool (opB op)]) w := by
  have h1 := run_lookup_ok (P := Try.prog) w 159 3 157 g op shapesL (.agg #[.string ⟨#[]⟩, .string ⟨#[]⟩]) (by simp) (by simp) (by simp) h
  rw [(shapes_at op).1, (shapes_at op).2] at h1
  exact h1
theorem shapes_lookup1 (w : World) (g : Nat) (op : Int) (h : MapI w g shapesL) :
    (Instr.lookup 159 (.map (some g)) (.int .i64 op) false).run Try.prog w = .ok (.agg #[.string (nameB op), .string (kindsB op)]) w := by
  have h1 := run_lookup_int (P := Try.prog) w 159 3 157 g op shapesL (.agg #[.string ⟨#[]⟩, .string ⟨#[]⟩]) (by simp) (by simp) (by simp) h
  rw [(shapes_at op).2] at h1
  exact h1

set_option maxHeartbeats 1000000 in
theorem asmNumbers_any (x : Ins) (w : World) :
    Calls Try.prog 93 #[x.val] w fun e w' => e = .returned (.agg #[.int .i64 x.a, .int .i64 x.b, .int .i64 x.c]) ∧ Below w.heap.size w w' := by
  unfold Ins.val
  go_enter Try.func93, Try.ntmps93
  go_wp2
  refine bodyPost_ret (v := .agg #[.int .i64 x.a, .int .i64 x.b, .int .i64 x.c]) (by simp [results, Try.results93, go_sem]) rfl ⟨rfl, ?_⟩
  exact (by repeat (first | assumption | exact Below.refl _ _ | refine bset ?_ (by first | omega | (simp; done) | (simp; omega)) _ | refine Below.alloc ?_ (by first | omega | (simp; done) | (simp; omega)) _ | refine Below.drew ?_))

set_option maxHeartbeats 1000000 in
theorem asmFits_any (p : PR) (c : Sl Ins) (kind n : Int) (w : World) (h : p.At w) (hc : c.l.length ≤ 140737488355328) :
    Calls Try.prog 94 #[p.val, .slice c.A c.l.length c.cap, .int .u8 kind, .int .i64 n] w fun e w' => e = .returned (.bool (fitsB p c.l.length kind n)) ∧ Below w.heap.size w w' := by
  have e : wrap64 ((c.l.length : Int) + 1) = c.l.length + 1 := IntWalk.wrap64_in _ ⟨by omega, by omega⟩
  have E := hid e
  clear e
  unfold PR.val
  go_enter Try.func94, Try.ntmps94
  go_wp2
  all_goals
    go_ret
    refine ⟨?_, (by repeat (first | assumption | exact Below.refl _ _ | refine bset ?_ (by first | omega | (simp; done) | (simp; omega)) _ | refine Below.alloc ?_ (by first | omega | (simp; done) | (simp; omega)) _ | refine Below.drew ?_))⟩
    simp_all [fitsB, E.out]
    try omega
end Go.Proofs.Ytfpaahkleienoaa
