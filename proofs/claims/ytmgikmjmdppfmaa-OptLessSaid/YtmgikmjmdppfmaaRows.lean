/-
  No cell of these rows narrows 'for every input' (looked for: loops, veiled, ifaces, maps, wideKeys, modest, calm, conditions, laid).
  DERIVED. THE GIVEN ROWS OF THIS SEAT. 3 by the template 'for every input the law returns true; each argument reads behind the call as it read before'; 0 by the template 'total and deterministic' (their statements: YtmgikmjmdppfmaaTotals.lean).
  GIVEN WITH THE SEED: the statements are not yours to turn. If you find one false, say at which input.
  Laid BY PROGRAM, IN A SANDBOX (cutbox-rows.mjs): the forced cells as the released guide's own fill.sh prints them over the translation df261f40a4f609d8… (all of the seat's roots in one cut). By AI agents, Wed Nov 11 2026. No macro, syntax, notation, axiom, sorry.
-/
import Derived.Test.YtmgikmjmdppfmaaChecked
import GoSem.Claim
import GoSem.ClaimJoined
import GoSem.ClaimMapViews
import Derived.JoinedTies
import Derived.KernelRfl
namespace Go.Proofs.Ytmgikmjmdppfmaa
/- THE CELL 'sum', in the pinned program and in every row, IS THE sha256 OF THE DUMP (.gsa) THAT YtmgikmjmdppfmaaProg.lean LOADS. Nothing in Lean hashes anything: it is a label: what it is worth is what the hold of that sum in a sandbox is worth. -/
noncomputable def Try.pinned : Pinned := { name := "ytmgikmjmdppfmaa", sum := "df261f40a4f609d8e585c236df3eee44a481cd322fd826df6cf702734cf98899", checked := Try.checked }
namespace Rows
def none {H : Type} : Left H := { results := [], args := [] }

/-- 'sluicelaw.OptMakes': WHATEVER THE INPUT: true; the input reads as it did. -/
def optMakesSpec : ChangeSpec := { name := "optMakes", fn := fun _ => fun
  | [d] => { results := [.lit (.bool true)], args := [d] }
  | _ => none }
def optMakesRow : OpenClaim := { program := "ytmgikmjmdppfmaa", sum := "df261f40a4f609d8e585c236df3eee44a481cd322fd826df6cf702734cf98899", func := "sluice/sluicelaw.OptMakes", spec := "optMakes", inPlace := ["maps.clone"], unfollowed := true, recurses := true, apart := false }
def OptMakesSaid : Prop := optMakesRow.holds Try.pinned (OpenSpec.ofChange optMakesSpec)

/-- ITS FALSE NEIGHBOUR: 'it returns false'. Refute it at one input. -/
def optMakesWrong : ChangeSpec := { name := "optMakes", fn := fun _ => fun
  | [d] => { results := [.lit (.bool false)], args := [d] }
  | _ => none }
def OptMakesWrongFalsely : Prop := optMakesRow.holds Try.pinned (OpenSpec.ofChange optMakesWrong)

/-- 'sluicelaw.OptHolds': WHATEVER THE INPUT: true; the input reads as it did. -/
def optHoldsSpec : ChangeSpec := { name := "optHolds", fn := fun _ => fun
  | [d] => { results := [.lit (.bool true)], args := [d] }
  | _ => none }
def optHoldsRow : OpenClaim := { program := "ytmgikmjmdppfmaa", sum := "df261f40a4f609d8e585c236df3eee44a481cd322fd826df6cf702734cf98899", func := "sluice/sluicelaw.OptHolds", spec := "optHolds", inPlace := ["maps.clone"], unfollowed := true, recurses := true, apart := false }
def OptHoldsSaid : Prop := optHoldsRow.holds Try.pinned (OpenSpec.ofChange optHoldsSpec)

/-- ITS FALSE NEIGHBOUR: 'it returns false'. Refute it at one input. -/
def optHoldsWrong : ChangeSpec := { name := "optHolds", fn := fun _ => fun
  | [d] => { results := [.lit (.bool false)], args := [d] }
  | _ => none }
def OptHoldsWrongFalsely : Prop := optHoldsRow.holds Try.pinned (OpenSpec.ofChange optHoldsWrong)

/-- 'sluicekeep.OptLess': WHATEVER THE INPUT: true; the input reads as it did. -/
def optLessSpec : ChangeSpec := { name := "optLess", fn := fun _ => fun
  | [d] => { results := [.lit (.bool true)], args := [d] }
  | _ => none }
def optLessRow : OpenClaim := { program := "ytmgikmjmdppfmaa", sum := "df261f40a4f609d8e585c236df3eee44a481cd322fd826df6cf702734cf98899", func := "sluice/sluicekeep.OptLess", spec := "optLess", inPlace := ["maps.clone"], unfollowed := true, recurses := true, apart := false }
def OptLessSaid : Prop := optLessRow.holds Try.pinned (OpenSpec.ofChange optLessSpec)

/-- ITS FALSE NEIGHBOUR: 'it returns false'. Refute it at one input. -/
def optLessWrong : ChangeSpec := { name := "optLess", fn := fun _ => fun
  | [d] => { results := [.lit (.bool false)], args := [d] }
  | _ => none }
def OptLessWrongFalsely : Prop := optLessRow.holds Try.pinned (OpenSpec.ofChange optLessWrong)

/- THE SECOND FORM. 'bulk': how many values and letters a reading holds, each counted each time it is reached (what is shared counts as often as it is met; a slice's spare places count too). A statement '..UptoSaid' is the law's where the arguments, and the package variables that the reading takes, are together of bulk at most 1048576: NARROWER than '..Said'. Prove '..Said' where nothing that the law and all that it calls make is longer than what came in: it says more and counts as full. Else prove '..UptoSaid'. A law counts once. -/
mutual
def uptoBulk {H : Type} : DataW H → Nat
  | .lit (.string bytes) => bytes.length + 1
  | .lit _ => 1
  | .nil => 1
  | .ptr d => uptoBulk d + 1
  | .slice elems spare => uptoBulkAll elems + uptoBulkAll spare + 1
  | .agg parts => uptoBulkAll parts + 1
  | .iface _ d => uptoBulk d + 1
  | .map entries => uptoBulkEntries entries + 1
  | .held _ => 1
def uptoBulkAll {H : Type} : List (DataW H) → Nat
  | [] => 0
  | d :: r => uptoBulk d + uptoBulkAll r
def uptoBulkEntries {H : Type} : List (Lit × DataW H) → Nat
  | [] => 0
  | x :: r => uptoBulkEntry x + uptoBulkEntries r
def uptoBulkEntry {H : Type} : Lit × DataW H → Nat
  | (.string bytes, d) => bytes.length + uptoBulk d + 1
  | (_, d) => uptoBulk d + 1
 end
def uptoSmall : (H : Type) → List (DataW H) → Bool := fun _ ds => decide (uptoBulkAll ds ≤ 1048576)
def OpenSpec.upto (s : _root_.Go.ChangeSpec) : _root_.Go.OpenSpec := { _root_.Go.OpenSpec.ofChange s with cond := some uptoSmall }

/-- 'sluicelaw.OptMakes', WHERE WHAT IT READS IS OF BULK AT MOST 1048576: true; the input reads as it did. -/
def optMakesUptoRow : OpenClaim := { program := "ytmgikmjmdppfmaa", sum := "df261f40a4f609d8e585c236df3eee44a481cd322fd826df6cf702734cf98899", func := "sluice/sluicelaw.OptMakes", spec := "optMakes", inPlace := ["maps.clone"], unfollowed := true, recurses := true, apart := false, narrowed := true }
def OptMakesUptoSaid : Prop := optMakesUptoRow.holds Try.pinned (OpenSpec.upto optMakesSpec)

/-- 'sluicelaw.OptHolds', WHERE WHAT IT READS IS OF BULK AT MOST 1048576: true; the input reads as it did. -/
def optHoldsUptoRow : OpenClaim := { program := "ytmgikmjmdppfmaa", sum := "df261f40a4f609d8e585c236df3eee44a481cd322fd826df6cf702734cf98899", func := "sluice/sluicelaw.OptHolds", spec := "optHolds", inPlace := ["maps.clone"], unfollowed := true, recurses := true, apart := false, narrowed := true }
def OptHoldsUptoSaid : Prop := optHoldsUptoRow.holds Try.pinned (OpenSpec.upto optHoldsSpec)

/-- 'sluicekeep.OptLess', WHERE WHAT IT READS IS OF BULK AT MOST 1048576: true; the input reads as it did. -/
def optLessUptoRow : OpenClaim := { program := "ytmgikmjmdppfmaa", sum := "df261f40a4f609d8e585c236df3eee44a481cd322fd826df6cf702734cf98899", func := "sluice/sluicekeep.OptLess", spec := "optLess", inPlace := ["maps.clone"], unfollowed := true, recurses := true, apart := false, narrowed := true }
def OptLessUptoSaid : Prop := optLessUptoRow.holds Try.pinned (OpenSpec.upto optLessSpec)

end Rows
end Go.Proofs.Ytmgikmjmdppfmaa
