/-
  The machine of the document in plain Lean: states, moves, what a move does. No program is in sight.
-/
import Derived.Test.YthdkmhaneellcaaGreatDoorBase
namespace Go.Proofs.YthdkmhaneellcaaGreatDoor
open Go.RowKit
set_option linter.unusedSimpArgs false
set_option linter.unusedVariables false

/-- A store (or a lock's freeing) that waits. -/
structure Wt where
  lock : Bool
  wh : Int
  what : Int
  deriving DecidableEq
instance : Inhabited Wt := ⟨⟨false, 0, 0⟩⟩
structure Th where
  pc : Int
  regs : List Int
  wait : List Wt
  deriving DecidableEq
instance : Inhabited Th := ⟨⟨0, [], []⟩⟩
structure MSt where
  ths : List Th
  words : List Int
  owner : List Int
  prints : List Int
  deriving DecidableEq
instance : Inhabited MSt := ⟨⟨[], [], [], []⟩⟩
/-- A program. -/
structure Pg where
  code : List (List Ins)
  words : List Int
  locks : Int
  regs : Int
instance : Inhabited Pg := ⟨⟨[], [], 0, 0⟩⟩
/-- What one thread sees of a state. -/
structure TS where
  pc : Int
  regs : List Int
  wait : List Wt
  words : List Int
  owner : List Int
  prints : List Int
  fell : Bool
instance : Inhabited TS := ⟨⟨0, [], [], [], [], [], false⟩⟩

def MSt.view (s : MSt) (n : Nat) : TS := ⟨(nth s.ths n).pc, (nth s.ths n).regs, (nth s.ths n).wait, s.words, s.owner, s.prints, false⟩
def nextIns (c : List Ins) (pc : Int) : Ins := if pc < c.length then nth c pc.toNat else ⟨0, 0, 0, 0⟩
/-- Is a thread of which n wait able to do an order? -/
def ableL (owner : List Int) (n : Nat) (i : Ins) : Bool :=
  if i.op = 9 ∨ i.op = 11 ∨ i.op = 18 then decide (n < 3)
  else if i.op = 12 ∨ i.op = 13 then decide (n = 0)
  else if i.op = 17 then decide (n = 0) && decide (nth owner i.a.toNat = -1)
  else true
def ableV (c : List Ins) (x : TS) : Bool := decide (x.pc < (c.length : Int)) && ableL x.owner x.wait.length (nextIns c x.pc)

/-- May the k-th one that waits be done? -/
def mayK (m : Int) (l : List Wt) (k : Nat) : Bool :=
  decide (k = 0) || (!(decide (m = 1) || (nth l k).lock) && (List.range k).all fun i => !((nth l i).lock || decide ((nth l i).wh = (nth l k).wh)))
def TS.done (x : TS) (w : Wt) : TS := { x with words := if w.lock = true then x.words else x.words.set w.wh.toNat w.what, owner := if w.lock = true then x.owner.set w.wh.toNat (-1) else x.owner }
def TS.store (m : Int) (x : TS) (w : Wt) : TS := if 0 < m then { x with wait := x.wait ++ [w] } else x.done w
def TS.put (x : TS) (k : Int) (v : Int) : TS := { x with regs := x.regs.set k.toNat v }
def TS.isWord (x : TS) (n : Int) : Bool := decide (0 ≤ n ∧ n < x.words.length)
def TS.holds (x : TS) (a : Int) : Bool := x.wait.any fun w => w.lock && decide (w.wh = a)

def mvs (m : Int) (c : List Ins) (t : Nat) (x : TS) : List Int := (if ableV c x = true then [((8 * t : Nat) : Int)] else []) ++ ((List.range x.wait.length).filter (mayK m x.wait)).map fun k => ((8 * t + k + 1 : Nat) : Int)
def moves (p : Pg) (m : Int) (s : MSt) : List Int := (List.range p.code.length).flatMap fun t => mvs m (nth p.code t) t (s.view t)
end Go.Proofs.YthdkmhaneellcaaGreatDoor
