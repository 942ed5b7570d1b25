/-
  The machine of the document in plain Lean: states, moves, what a move does. No program is in sight.
-/
import Derived.Test.YtmgikmjmdppfmaaBase
namespace Go.Proofs.Ytmgikmjmdppfmaa
open Go.RowKit
set_option linter.unusedSimpArgs false
set_option linter.unusedVariables false

/-- A store (or a lock's freeing) that waits. -/
structure Wt where
  lock : Bool
  wh : Int
  what : Int
  deriving DecidableEq
instance : Inhabited Wt := ⟨⟨false, 0, 0⟩⟩
structure Th where
  pc : Int
  regs : List Int
  wait : List Wt
  deriving DecidableEq
instance : Inhabited Th := ⟨⟨0, [], []⟩⟩
structure MSt where
  ths : List Th
  words : List Int
  owner : List Int
  prints : List Int
  deriving DecidableEq
instance : Inhabited MSt := ⟨⟨[], [], [], []⟩⟩
/-- A program. -/
structure Pg where
  code : List (List Ins)
  words : List Int
  locks : Int
  regs : Int
instance : Inhabited Pg := ⟨⟨[], [], 0, 0⟩⟩
/-- What one thread sees of a state. -/
structure TS where
  pc : Int
  regs : List Int
  wait : List Wt
  words : List Int
  owner : List Int
  prints : List Int
  fell : Bool
instance : Inhabited TS := ⟨⟨0, [], [], [], [], [], false⟩⟩

def begin_ (p : Pg) : MSt := ⟨p.code.map fun _ => ⟨0, List.replicate p.regs.toNat 0, []⟩, p.words, List.replicate p.locks.toNat (-1), []⟩
def MSt.view (s : MSt) (n : Nat) : TS := ⟨(nth s.ths n).pc, (nth s.ths n).regs, (nth s.ths n).wait, s.words, s.owner, s.prints, false⟩
def MSt.putT (s : MSt) (n : Nat) (x : TS) : MSt := ⟨s.ths.set n ⟨x.pc, x.regs, x.wait⟩, x.words, x.owner, x.prints⟩

def nextIns (c : List Ins) (pc : Int) : Ins := if pc < c.length then nth c pc.toNat else ⟨0, 0, 0, 0⟩
theorem nextIns_t {c : List Ins} {pc : Int} (h : pc < c.length) : nextIns c pc = nth c pc.toNat := by unfold nextIns; rw [if_pos h]
/-- Is a thread of which n wait able to do an order? -/
def ableL (owner : List Int) (n : Nat) (i : Ins) : Bool :=
  if i.op = 9 ∨ i.op = 11 ∨ i.op = 18 then decide (n < 3)
  else if i.op = 12 ∨ i.op = 13 then decide (n = 0)
  else if i.op = 17 then decide (n = 0) && decide (nth owner i.a.toNat = -1)
  else true
def ableV (c : List Ins) (x : TS) : Bool := decide (x.pc < (c.length : Int)) && ableL x.owner x.wait.length (nextIns c x.pc)

/-- May the k-th one that waits be done? -/
def mayK (m : Int) (l : List Wt) (k : Nat) : Bool :=
  decide (k = 0) || (!(decide (m = 1) || (nth l k).lock) && (List.range k).all fun i => !((nth l i).lock || decide ((nth l i).wh = (nth l k).wh)))
/-- Is k a move of a thread: 0: its order; k more: what waits at k? -/
def mvOK (m : Int) (c : List Ins) (x : TS) (k : Nat) : Bool := if k = 0 then ableV c x else decide (k ≤ x.wait.length) && mayK m x.wait (k - 1)

/-- What a thread finds in a word. -/
def findsL (l : List Wt) (words : List Int) (w : Int) : Int := match l.reverse.find? (fun x => !x.lock && decide (x.wh = w)) with
  | some x => x.what
  | none => nth words w.toNat
def bit (b : Bool) : Int := if b then 1 else 0
def TS.done (x : TS) (w : Wt) : TS := { x with words := if w.lock = true then x.words else x.words.set w.wh.toNat w.what, owner := if w.lock = true then x.owner.set w.wh.toNat (-1) else x.owner }
def TS.store (m : Int) (x : TS) (w : Wt) : TS := if 0 < m then { x with wait := x.wait ++ [w] } else x.done w
def TS.reg (x : TS) (k : Int) : Int := nth x.regs k.toNat
def TS.put (x : TS) (k : Int) (v : Int) : TS := { x with regs := x.regs.set k.toNat v }
def TS.isWord (x : TS) (n : Int) : Bool := decide (0 ≤ n ∧ n < x.words.length)
def TS.finds (x : TS) (w : Int) : Int := findsL x.wait x.words w
def TS.holds (x : TS) (a : Int) : Bool := x.wait.any fun w => w.lock && decide (w.wh = a)

/-- What an order does, when its place has been passed. -/
def execT (m : Int) (n : Nat) (i : Ins) (x : TS) : TS :=
  if i.op = 1 then x.put i.a i.b
  else if i.op = 2 then x.put i.a (x.reg i.b)
  else if i.op = 3 then x.put i.a (wrap64 (x.reg i.b + x.reg i.c))
  else if i.op = 4 then x.put i.a (wrap64 (x.reg i.b - x.reg i.c))
  else if i.op = 5 then x.put i.a (wrap64 (x.reg i.b * x.reg i.c))
  else if i.op = 6 then x.put i.a (bit (decide (x.reg i.b < x.reg i.c)))
  else if i.op = 7 then x.put i.a (bit (decide (x.reg i.b = x.reg i.c)))
  else if i.op = 8 then x.put i.a (x.finds i.b)
  else if i.op = 9 then x.store m ⟨false, i.a, x.reg i.b⟩
  else if i.op = 10 then (if x.isWord (x.reg i.b) then x.put i.a (x.finds (x.reg i.b)) else { x with fell := true })
  else if i.op = 11 then (if x.isWord (x.reg i.a) then x.store m ⟨false, x.reg i.a, x.reg i.b⟩ else { x with fell := true })
  else if i.op = 13 then
    (if nth x.words i.a.toNat = x.reg i.b then { x with words := x.words.set i.a.toNat (x.reg i.c), regs := x.regs.set i.b.toNat 1 } else x.put i.b 0)
  else if i.op = 14 then { x with pc := i.a }
  else if i.op = 15 then (if x.reg i.a = 0 then { x with pc := i.b } else x)
  else if i.op = 16 then { x with prints := x.prints ++ [(n : Int), x.reg i.a] }
  else if i.op = 17 then { x with owner := x.owner.set i.a.toNat n }
  else if i.op = 18 then
    (if nth x.owner i.a.toNat ≠ n then { x with fell := true }
     else if x.holds i.a then { x with fell := true }
     else x.store m ⟨true, i.a, 0⟩)
  else x
/-- What a move of a thread does. -/
def doT (m : Int) (n : Nat) (c : List Ins) (k : Nat) (x : TS) : TS :=
  if 0 < k then { x.done (nth x.wait (k - 1)) with wait := x.wait.eraseIdx (k - 1) } else execT m n (nextIns c x.pc) { x with pc := x.pc + 1 }

def mvs (m : Int) (c : List Ins) (t : Nat) (x : TS) : List Int := (if ableV c x = true then [((8 * t : Nat) : Int)] else []) ++ ((List.range x.wait.length).filter (mayK m x.wait)).map fun k => ((8 * t + k + 1 : Nat) : Int)
def moves (p : Pg) (m : Int) (s : MSt) : List Int := (List.range p.code.length).flatMap fun t => mvs m (nth p.code t) t (s.view t)
def ended (p : Pg) (s : MSt) : Bool := (List.range p.code.length).all fun t => decide (¬ (nth s.ths t).pc < ((nth p.code t).length : Int)) && decide ((nth s.ths t).wait.length = 0)
/-- A thread's move, of a state. -/
def stepT (p : Pg) (m : Int) (s : MSt) (t k : Nat) : TS := doT m t (nth p.code t) k (s.view t)
end Go.Proofs.Ytmgikmjmdppfmaa
