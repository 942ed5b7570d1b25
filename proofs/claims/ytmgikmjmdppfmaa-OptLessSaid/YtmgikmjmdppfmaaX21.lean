/-
  Contracts of functions of this program and of the references, each walked once.
-/
import Derived.Test.YtmgikmjmdppfmaaX18
import Derived.Test.YtmgikmjmdppfmaaS9
import Derived.Test.YtmgikmjmdppfmaaS10
namespace Go.Proofs.Ytmgikmjmdppfmaa
open Go.RowKit
set_option linter.unusedSimpArgs false
set_option linter.unusedVariables false
set_option maxRecDepth 100000
set_option maxHeartbeats 1000000


def sumStep (h : Nat) (x : Int) : Nat := ((h ^^^ toU x) * 1099511628211 % 18446744073709551616) ^^^ (((h ^^^ toU x) * 1099511628211 % 18446744073709551616) / 2 ^ 29)
def sumL (l : List Int) : Nat := l.foldl sumStep (toU (l.length : Int)) % 4096
theorem sumL_lt (l : List Int) : sumL l < 4096 := Nat.mod_lt _ (by decide)
/-- The order of lists. -/
def lessB : List Int → List Int → Bool
  | a :: l, b :: m => if a = b then lessB l m else decide (a < b)
  | l, m => decide (l.length < m.length)
/-- The order of outcomes. -/
def aheadB (a b : Outc) : Bool := if a.st = b.st then (if a.words = b.words then lessB a.prints b.prints else lessB a.words b.words) else decide (a.st < b.st)

end Go.Proofs.Ytmgikmjmdppfmaa
