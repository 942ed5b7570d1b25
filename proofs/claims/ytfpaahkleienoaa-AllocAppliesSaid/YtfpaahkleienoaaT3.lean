import Derived.Test.YtfpaahkleienoaaRows
import Derived.Test.YtfpaahkleienoaaBase
namespace Go.Proofs.Ytfpaahkleienoaa
open Go.RowKit
set_option linter.unusedSimpArgs false
set_option linter.unusedVariables false

/-- An order's name; empty: it is none. -/
def nameB (op : Int) : ByteArray :=
  if op = 1 then ⟨#[99, 111, 110, 115, 116]⟩ else
  if op = 2 then ⟨#[109, 111, 118, 101]⟩ else
  if op = 3 then ⟨#[97, 100, 100]⟩ else
  if op = 4 then ⟨#[115, 117, 98]⟩ else
  if op = 5 then ⟨#[109, 117, 108]⟩ else
  if op = 6 then ⟨#[108, 101, 115, 115]⟩ else
  if op = 7 then ⟨#[115, 97, 109, 101]⟩ else
  if op = 8 then ⟨#[108, 111, 97, 100]⟩ else
  if op = 9 then ⟨#[115, 116, 111, 114, 101]⟩ else
  if op = 10 then ⟨#[108, 111, 97, 100, 97, 116]⟩ else
  if op = 11 then ⟨#[115, 116, 111, 114, 101, 97, 116]⟩ else
  if op = 12 then ⟨#[102, 101, 110, 99, 101]⟩ else
  if op = 13 then ⟨#[99, 97, 115]⟩ else
  if op = 14 then ⟨#[106, 117, 109, 112]⟩ else
  if op = 15 then ⟨#[122, 101, 114, 111]⟩ else
  if op = 16 then ⟨#[112, 114, 105, 110, 116]⟩ else
  if op = 17 then ⟨#[108, 111, 99, 107]⟩ else
  if op = 18 then ⟨#[117, 110, 108, 111, 99, 107]⟩ else
  ⟨#[]⟩
/-- What an order's numbers are. -/
def kindsB (op : Int) : ByteArray :=
  if op = 1 then ⟨#[114, 110]⟩ else
  if op = 2 then ⟨#[114, 114]⟩ else
  if op = 3 then ⟨#[114, 114, 114]⟩ else
  if op = 4 then ⟨#[114, 114, 114]⟩ else
  if op = 5 then ⟨#[114, 114, 114]⟩ else
  if op = 6 then ⟨#[114, 114, 114]⟩ else
  if op = 7 then ⟨#[114, 114, 114]⟩ else
  if op = 8 then ⟨#[114, 119]⟩ else
  if op = 9 then ⟨#[119, 114]⟩ else
  if op = 10 then ⟨#[114, 114]⟩ else
  if op = 11 then ⟨#[114, 114]⟩ else
  if op = 12 then ⟨#[]⟩ else
  if op = 13 then ⟨#[119, 114, 114]⟩ else
  if op = 14 then ⟨#[99]⟩ else
  if op = 15 then ⟨#[114, 99]⟩ else
  if op = 16 then ⟨#[114]⟩ else
  if op = 17 then ⟨#[108]⟩ else
  if op = 18 then ⟨#[108]⟩ else
  ⟨#[]⟩

set_option maxHeartbeats 1000000 in
theorem name_any (op : Int) (w : World) :
    Calls Try.prog 56 #[.int .i64 op] w fun e w' => e = .returned (.tuple #[.string (nameB op), .string (kindsB op)]) ∧ w = w' := by
  go_enter Try.func56, Try.ntmps56
  go_wp2
  all_goals
    go_ret2
    refine ⟨?_, rfl⟩
    simp_all [nameB, kindsB]

set_option maxHeartbeats 1000000 in
theorem refNumbers_any (x : Ins) (w : World) :
    Calls Try.prog 57 #[x.val] w fun e w' => ∃ g, w.heap.size ≤ g ∧ e = .returned (.slice (some ⟨g, 0, none⟩) 3 3) ∧ w'.heap[g]? = some (.cells #[.int .i64 x.a, .int .i64 x.b, .int .i64 x.c] 3) ∧ Below w.heap.size w w' := by
  unfold Ins.val
  go_enter Try.func57, Try.ntmps57
  go_wp2
  go_ret
  exact ⟨w.heap.size + 1, by omega, rfl, heap_alloc2_new _ _ _, ((Below.refl _ _).alloc (Nat.le_refl _) _).alloc (by simp) _⟩

/-- May a number of a kind be? -/
def fitsB (p : PR) (size kind n : Int) : Bool :=
  if kind = 110 then true else
  let most := if kind = 114 then p.regs else if kind = 119 then (p.words.l.length : Int) else if kind = 108 then p.locks else if kind = 99 then wrap64 (size + 1) else 0
  decide (0 ≤ n) && decide (n < most)

set_option maxHeartbeats 1000000 in
theorem refFits_any (p : PR) (size kind n : Int) (w : World) (h : p.At w) :
    Calls Try.prog 58 #[p.val, .int .i64 size, .int .u8 kind, .int .i64 n] w fun e w' => e = .returned (.bool (fitsB p size kind n)) ∧ Below w.heap.size w w' := by
  unfold PR.val
  go_enter Try.func58, Try.ntmps58
  go_wp2
  all_goals
    go_ret
    refine ⟨?_, (Below.refl _ _).alloc (Nat.le_refl _) _⟩
    simp_all [fitsB]
    try omega

end Go.Proofs.Ytfpaahkleienoaa
