import Derived.Test.YtfpaahkleienoaaRows
import Derived.Test.YtfpaahkleienoaaBase
import Derived.Deep.QuietTactic
import Derived.BigQuiet
section
namespace Go.Proofs.Ytfpaahkleienoaa
open Go.RowKit
set_option linter.unusedSimpArgs false
set_option linter.unusedVariables false

/-- An order's name; empty: it is none. -/
def nameB (op : Int) : ByteArray :=
  if op = 1 then ⟨#[99, 111, 110, 115, 116]⟩ else
  if op = 2 then ⟨#[109, 111, 118, 101]⟩ else
  if op = 3 then ⟨#[97, 100, 100]⟩ else
  if op = 4 then ⟨#[115, 117, 98]⟩ else
  if op = 5 then ⟨#[109, 117, 108]⟩ else
  if op = 6 then ⟨#[108, 101, 115, 115]⟩ else
  if op = 7 then ⟨#[115, 97, 109, 101]⟩ else
  if op = 8 then ⟨#[108, 111, 97, 100]⟩ else
  if op = 9 then ⟨#[115, 116, 111, 114, 101]⟩ else
  if op = 10 then ⟨#[108, 111, 97, 100, 97, 116]⟩ else
  if op = 11 then ⟨#[115, 116, 111, 114, 101, 97, 116]⟩ else
  if op = 12 then ⟨#[102, 101, 110, 99, 101]⟩ else
  if op = 13 then ⟨#[99, 97, 115]⟩ else
  if op = 14 then ⟨#[106, 117, 109, 112]⟩ else
  if op = 15 then ⟨#[122, 101, 114, 111]⟩ else
  if op = 16 then ⟨#[112, 114, 105, 110, 116]⟩ else
  if op = 17 then ⟨#[108, 111, 99, 107]⟩ else
  if op = 18 then ⟨#[117, 110, 108, 111, 99, 107]⟩ else
  ⟨#[]⟩
/-- What an order's numbers are. -/
def kindsB (op : Int) : ByteArray :=
  if op = 1 then ⟨#[114, 110]⟩ else
  if op = 2 then ⟨#[114, 114]⟩ else
  if op = 3 then ⟨#[114, 114, 114]⟩ else
  if op = 4 then ⟨#[114, 114, 114]⟩ else
  if op = 5 then ⟨#[114, 114, 114]⟩ else
  if op = 6 then ⟨#[114, 114, 114]⟩ else
  if op = 7 then ⟨#[114, 114, 114]⟩ else
  if op = 8 then ⟨#[114, 119]⟩ else
  if op = 9 then ⟨#[119, 114]⟩ else
  if op = 10 then ⟨#[114, 114]⟩ else
  if op = 11 then ⟨#[114, 114]⟩ else
  if op = 12 then ⟨#[]⟩ else
  if op = 13 then ⟨#[119, 114, 114]⟩ else
  if op = 14 then ⟨#[99]⟩ else
  if op = 15 then ⟨#[114, 99]⟩ else
  if op = 16 then ⟨#[114]⟩ else
  if op = 17 then ⟨#[108]⟩ else
  if op = 18 then ⟨#[108]⟩ else
  ⟨#[]⟩

/-- May a number of a kind be? -/
def fitsB (p : PR) (size kind n : Int) : Bool :=
  if kind = 110 then true else
  let most := if kind = 114 then p.regs else if kind = 119 then (p.words.l.length : Int) else if kind = 108 then p.locks else if kind = 99 then wrap64 (size + 1) else 0
  decide (0 ≤ n) && decide (n < most)

end Go.Proofs.Ytfpaahkleienoaa
end
namespace Go.Proofs.Ytfpaahkleienoaa
open Go.RowKit
set_option linter.unusedSimpArgs false
set_option linter.unusedVariables false

/-- The k-th of an order's numbers. -/
def Ins.num (x : Ins) (k : Nat) : Int := match k with | 0 => x.a | 1 => x.b | _ => x.c
/-- May the k-th number of an order be what it is? -/
def okNum (p : PR) (size : Int) (x : Ins) (k : Nat) : Bool :=
  if h : k < (kindsB x.op).size then fitsB p size (((kindsB x.op)[k]).toNat : Int) (x.num k) else x.num k == 0
/-- What is wrong with an order. -/
def insFault (p : PR) (size : Int) (x : Ins) : Option Int :=
  if (nameB x.op).toList.isEmpty then some 2 else if okNum p size x 0 && okNum p size x 1 && okNum p size x 2 then none else some 3

/-- The first place from i on at which f says something, k places looked at. -/
def first {β : Type} (f : Nat → Option β) : Nat → Nat → Option β
  | 0, _ => none
  | k + 1, i => match f i with
    | some b => some b
    | none => first f k (i + 1)
theorem first_next {β : Type} {f : Nat → Option β} {n i : Nat} (hi : i < n) (h : f i = none) : first f (n - i) i = first f (n - (i + 1)) (i + 1) := by
  obtain ⟨k, hk⟩ : ∃ k, n - i = k + 1 := ⟨n - i - 1, by omega⟩
  have : n - (i + 1) = k := by omega
  rw [hk, this, first, h]
theorem first_hit {β : Type} {f : Nat → Option β} {n i : Nat} {b : β} (hi : i < n) (h : f i = some b) : first f (n - i) i = some b := by
  obtain ⟨k, hk⟩ : ∃ k, n - i = k + 1 := ⟨n - i - 1, by omega⟩
  rw [hk, first, h]

structure Flt where
  code : Int
  thread : Int
  at_ : Int
  deriving DecidableEq
def Flt.val (f : Flt) : Value := .agg #[.int .i64 f.code, .int .i64 f.thread, .int .i64 f.at_]

def threadFault (p : PR) (t : Nat) : Option Flt :=
  if 400 < (nth p.code.l t).l.length then some ⟨1, t, 0⟩ else
  first (fun at_ => (insFault p (nth p.code.l t).l.length (nth (nth p.code.l t).l at_)).map fun e => ⟨e, t, at_⟩) ((nth p.code.l t).l.length - 0) 0
def checkF (p : PR) : Flt :=
  if p.code.l.length < 1 ∨ 4 < p.code.l.length ∨ 64 < p.words.l.length then ⟨1, 0, 0⟩ else
  if p.locks < 0 ∨ 4 < p.locks ∨ p.regs < 1 ∨ 200 < p.regs then ⟨3, 0, 0⟩ else
  (first (threadFault p) (p.code.l.length - 0) 0).getD ⟨0, 0, 0⟩
theorem checkF_size (p : PR) (h : p.code.l.length < 1 ∨ 4 < p.code.l.length ∨ 64 < p.words.l.length) : checkF p = ⟨1, 0, 0⟩ := by
  unfold checkF; rw [if_pos h]
theorem checkF_range (p : PR) (h : ¬ (p.code.l.length < 1 ∨ 4 < p.code.l.length ∨ 64 < p.words.l.length)) (h2 : p.locks < 0 ∨ 4 < p.locks ∨ p.regs < 1 ∨ 200 < p.regs) : checkF p = ⟨3, 0, 0⟩ := by
  unfold checkF; rw [if_neg h, if_pos h2]
theorem checkF_first (p : PR) (h : ¬ (p.code.l.length < 1 ∨ 4 < p.code.l.length ∨ 64 < p.words.l.length)) (h2 : ¬ (p.locks < 0 ∨ 4 < p.locks ∨ p.regs < 1 ∨ 200 < p.regs)) :
    checkF p = (first (threadFault p) (p.code.l.length - 0) 0).getD ⟨0, 0, 0⟩ := by
  unfold checkF; rw [if_neg h, if_neg h2]

def threadScan (p : PR) (t i : Nat) : Option Flt :=
  first (fun at_ => (insFault p (nth p.code.l t).l.length (nth (nth p.code.l t).l at_)).map fun e => ⟨e, t, at_⟩) ((nth p.code.l t).l.length - i) i

end Go.Proofs.Ytfpaahkleienoaa
