import Derived.Test.YtfpaahkleienoaaT3
import Derived.Deep.QuietTactic
import Derived.BigQuiet
namespace Go.Proofs.Ytfpaahkleienoaa
open Go.RowKit
set_option linter.unusedSimpArgs false
set_option linter.unusedVariables false

/-- The k-th of an order's numbers. -/
def Ins.num (x : Ins) (k : Nat) : Int := match k with | 0 => x.a | 1 => x.b | _ => x.c
/-- May the k-th number of an order be what it is? -/
def okNum (p : PR) (size : Int) (x : Ins) (k : Nat) : Bool :=
  if h : k < (kindsB x.op).size then fitsB p size (((kindsB x.op)[k]).toNat : Int) (x.num k) else x.num k == 0
/-- What is wrong with an order. -/
def insFault (p : PR) (size : Int) (x : Ins) : Option Int :=
  if (nameB x.op).toList.isEmpty then some 2 else if okNum p size x 0 && okNum p size x 1 && okNum p size x 2 then none else some 3

/-- The first place from i on at which f says something, k places looked at. -/
def first {β : Type} (f : Nat → Option β) : Nat → Nat → Option β
  | 0, _ => none
  | k + 1, i => match f i with
    | some b => some b
    | none => first f k (i + 1)
theorem first_next {β : Type} {f : Nat → Option β} {n i : Nat} (hi : i < n) (h : f i = none) : first f (n - i) i = first f (n - (i + 1)) (i + 1) := by
  obtain ⟨k, hk⟩ : ∃ k, n - i = k + 1 := ⟨n - i - 1, by omega⟩
  have : n - (i + 1) = k := by omega
  rw [hk, this, first, h]
theorem first_hit {β : Type} {f : Nat → Option β} {n i : Nat} {b : β} (hi : i < n) (h : f i = some b) : first f (n - i) i = some b := by
  obtain ⟨k, hk⟩ : ∃ k, n - i = k + 1 := ⟨n - i - 1, by omega⟩
  rw [hk, first, h]

structure Flt where
  code : Int
  thread : Int
  at_ : Int
  deriving DecidableEq
def Flt.val (f : Flt) : Value := .agg #[.int .i64 f.code, .int .i64 f.thread, .int .i64 f.at_]

def threadFault (p : PR) (t : Nat) : Option Flt :=
  if 400 < (nth p.code.l t).l.length then some ⟨1, t, 0⟩ else
  first (fun at_ => (insFault p (nth p.code.l t).l.length (nth (nth p.code.l t).l at_)).map fun e => ⟨e, t, at_⟩) ((nth p.code.l t).l.length - 0) 0
def checkF (p : PR) : Flt :=
  if p.code.l.length < 1 ∨ 4 < p.code.l.length ∨ 64 < p.words.l.length then ⟨1, 0, 0⟩ else
  if p.locks < 0 ∨ 4 < p.locks ∨ p.regs < 1 ∨ 200 < p.regs then ⟨3, 0, 0⟩ else
  (first (threadFault p) (p.code.l.length - 0) 0).getD ⟨0, 0, 0⟩
theorem checkF_size (p : PR) (h : p.code.l.length < 1 ∨ 4 < p.code.l.length ∨ 64 < p.words.l.length) : checkF p = ⟨1, 0, 0⟩ := by
  unfold checkF; rw [if_pos h]
theorem checkF_range (p : PR) (h : ¬ (p.code.l.length < 1 ∨ 4 < p.code.l.length ∨ 64 < p.words.l.length)) (h2 : p.locks < 0 ∨ 4 < p.locks ∨ p.regs < 1 ∨ 200 < p.regs) : checkF p = ⟨3, 0, 0⟩ := by
  unfold checkF; rw [if_neg h, if_pos h2]
theorem checkF_first (p : PR) (h : ¬ (p.code.l.length < 1 ∨ 4 < p.code.l.length ∨ 64 < p.words.l.length)) (h2 : ¬ (p.locks < 0 ∨ 4 < p.locks ∨ p.regs < 1 ∨ 200 < p.regs)) :
    checkF p = (first (threadFault p) (p.code.l.length - 0) 0).getD ⟨0, 0, 0⟩ := by
  unfold checkF; rw [if_neg h, if_neg h2]

def threadScan (p : PR) (t i : Nat) : Option Flt :=
  first (fun at_ => (insFault p (nth p.code.l t).l.length (nth (nth p.code.l t).l at_)).map fun e => ⟨e, t, at_⟩) ((nth p.code.l t).l.length - i) i

end Go.Proofs.Ytfpaahkleienoaa
