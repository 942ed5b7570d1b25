/-
  The machine of the document in plain Lean: states, moves, what a move does. No program is in sight.
-/
import Derived.Test.YtanhbpofhebbaaaBase
namespace Go.Proofs.Ytanhbpofhebbaaa
open Go.RowKit
set_option linter.unusedSimpArgs false
set_option linter.unusedVariables false

/-- A store (or a lock's freeing) that waits. -/
structure Wt where
  lock : Bool
  wh : Int
  what : Int
  deriving DecidableEq
instance : Inhabited Wt := ⟨⟨false, 0, 0⟩⟩
structure Th where
  pc : Nat
  regs : List Int
  wait : List Wt
  deriving DecidableEq
instance : Inhabited Th := ⟨⟨0, [], []⟩⟩
structure MSt where
  ths : List Th
  words : List Int
  owner : List Int
  prints : List Int
  fell : Bool
  deriving DecidableEq
instance : Inhabited MSt := ⟨⟨[], [], [], [], false⟩⟩
/-- A program. -/
structure Pg where
  code : List (List Ins)
  words : List Int
  locks : Int
  regs : Int
instance : Inhabited Pg := ⟨⟨[], [], 0, 0⟩⟩

def begin_ (p : Pg) : MSt := ⟨p.code.map fun _ => ⟨0, List.replicate p.regs.toNat 0, []⟩, p.words, List.replicate p.locks.toNat (-1), [], false⟩

def MSt.th (s : MSt) (t : Nat) : Th := nth s.ths t
def next (p : Pg) (s : MSt) (t : Nat) : Option Ins := if (s.th t).pc < (nth p.code t).length then some (nth (nth p.code t) (s.th t).pc) else none

def isStore (op : Int) : Bool := op = 9 || op = 11 || op = 18
def ableIns (s : MSt) (t : Nat) (i : Ins) : Bool :=
  if i.op = 9 ∨ i.op = 11 ∨ i.op = 18 then decide ((s.th t).wait.length < 3)
  else if i.op = 12 ∨ i.op = 13 then decide ((s.th t).wait.length = 0)
  else if i.op = 17 then decide ((s.th t).wait.length = 0) && decide (nth s.owner i.a.toNat = -1)
  else true
def able (p : Pg) (s : MSt) (t : Nat) : Bool := match next p s t with
  | none => false
  | some i => ableIns s t i

/-- May the k-th one that waits be done? -/
def mayK (m : Int) (l : List Wt) (k : Nat) : Bool :=
  decide (k = 0) || (!(decide (m = 1) || (nth l k).lock) && (List.range k).all fun i => !((nth l i).lock || decide ((nth l i).wh = (nth l k).wh)))

def movesAt (p : Pg) (m : Int) (s : MSt) (t : Nat) : List Nat :=
  (if able p s t then [8 * t] else []) ++ ((List.range (s.th t).wait.length).filter (mayK m (s.th t).wait)).map fun k => 8 * t + k + 1
def moves (p : Pg) (m : Int) (s : MSt) : List Nat := (List.range s.ths.length).flatMap (movesAt p m s)

def ended (p : Pg) (s : MSt) : Bool := (List.range s.ths.length).all fun t => (next p s t).isNone && decide ((s.th t).wait.length = 0)

def MSt.setTh (s : MSt) (t : Nat) (x : Th) : MSt := { s with ths := s.ths.set t x }
def doneW (s : MSt) (x : Wt) : MSt := if x.lock then { s with owner := s.owner.set x.wh.toNat (-1) } else { s with words := s.words.set x.wh.toNat x.what }
def storeW (m : Int) (s : MSt) (t : Nat) (x : Wt) : MSt := if 0 < m then s.setTh t { s.th t with wait := (s.th t).wait ++ [x] } else doneW s x
/-- What a thread finds in a word. -/
def finds (s : MSt) (t : Nat) (w : Int) : Int := match (s.th t).wait.reverse.find? (fun x => !x.lock && decide (x.wh = w)) with
  | some x => x.what
  | none => nth s.words w.toNat
def isWord (s : MSt) (n : Int) : Bool := decide (0 ≤ n) && decide (n < s.words.length)

def MSt.reg (s : MSt) (t : Nat) (k : Int) : Int := nth (s.th t).regs k.toNat
def MSt.put (s : MSt) (t : Nat) (k : Int) (v : Int) : MSt := s.setTh t { s.th t with regs := (s.th t).regs.set k.toNat v }
def MSt.go (s : MSt) (t : Nat) (pc : Nat) : MSt := s.setTh t { s.th t with pc := pc }
def MSt.fall (s : MSt) : MSt := { s with fell := true }
def bit (b : Bool) : Int := if b then 1 else 0

/-- What an order does, when its place has been passed. -/
def exec (m : Int) (s : MSt) (t : Nat) (i : Ins) : MSt :=
  if i.op = 1 then s.put t i.a i.b
  else if i.op = 2 then s.put t i.a (s.reg t i.b)
  else if i.op = 3 then s.put t i.a (wrap64 (s.reg t i.b + s.reg t i.c))
  else if i.op = 4 then s.put t i.a (wrap64 (s.reg t i.b - s.reg t i.c))
  else if i.op = 5 then s.put t i.a (wrap64 (s.reg t i.b * s.reg t i.c))
  else if i.op = 6 then s.put t i.a (bit (decide (s.reg t i.b < s.reg t i.c)))
  else if i.op = 7 then s.put t i.a (bit (decide (s.reg t i.b = s.reg t i.c)))
  else if i.op = 8 then s.put t i.a (finds s t i.b)
  else if i.op = 9 then storeW m s t ⟨false, i.a, s.reg t i.b⟩
  else if i.op = 10 then (if isWord s (s.reg t i.b) then s.put t i.a (finds s t (s.reg t i.b)) else s.fall)
  else if i.op = 11 then (if isWord s (s.reg t i.a) then storeW m s t ⟨false, s.reg t i.a, s.reg t i.b⟩ else s.fall)
  else if i.op = 13 then
    (if nth s.words i.a.toNat = s.reg t i.b then { s with words := s.words.set i.a.toNat (s.reg t i.c) }.put t i.b 1 else s.put t i.b 0)
  else if i.op = 14 then s.go t i.a.toNat
  else if i.op = 15 then (if s.reg t i.a = 0 then s.go t i.b.toNat else s)
  else if i.op = 16 then { s with prints := s.prints ++ [(t : Int), s.reg t i.a] }
  else if i.op = 17 then { s with owner := s.owner.set i.a.toNat t }
  else if i.op = 18 then
    (if nth s.owner i.a.toNat ≠ t then s.fall
     else if (s.th t).wait.any (fun x => x.lock && decide (x.wh = i.a)) then s.fall
     else storeW m s t ⟨true, i.a, 0⟩)
  else s

/-- The k-th one of a thread that waits is done. -/
def flush (s : MSt) (t k : Nat) : MSt :=
  let s1 := doneW s (nth (s.th t).wait k)
  s1.setTh t { s1.th t with wait := (s1.th t).wait.eraseIdx k }
def doOrder (p : Pg) (m : Int) (s : MSt) (t : Nat) : MSt := exec m (s.go t ((s.th t).pc + 1)) t (nth (nth p.code t) (s.th t).pc)
def doMove (p : Pg) (m : Int) (s : MSt) (mv : Nat) : MSt := if 0 < mv % 8 then flush s (mv / 8) (mv % 8 - 1) else doOrder p m s (mv / 8)
end Go.Proofs.Ytanhbpofhebbaaa
