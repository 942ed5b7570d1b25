/-
  No cell of these rows narrows 'for every input' (looked for: loops, veiled, ifaces, maps, wideKeys, modest, calm, conditions, laid).
  DERIVED. THE GIVEN ROWS OF THIS SEAT. 12 by the template 'for every input the law returns true; each argument reads behind the call as it read before'; 0 by the template 'total and deterministic' (their statements: YtfpaahkleienoaaTotals.lean).
  GIVEN WITH THE SEED: the statements are not yours to turn. If you find one false, say at which input.
  Laid BY PROGRAM, IN A SANDBOX (cutbox-rows.mjs): the forced cells as the released guide's own fill.sh prints them over the translation 67454814e8738dd5… (all of the seat's roots in one cut). By AI agents, Wed Nov 11 2026. No macro, syntax, notation, axiom, sorry.
-/
import Derived.Test.YtfpaahkleienoaaChecked
import GoSem.Claim
import GoSem.ClaimJoined
import GoSem.ClaimMapViews
import Derived.JoinedTies
import Derived.KernelRfl
namespace Go.Proofs.Ytfpaahkleienoaa
/- THE CELL 'sum', in the pinned program and in every row, IS THE sha256 OF THE DUMP (.gsa) THAT YtfpaahkleienoaaProg.lean LOADS. Nothing in Lean hashes anything: it is a label: what it is worth is what the hold of that sum in a sandbox is worth. -/
noncomputable def Try.pinned : Pinned := { name := "ytfpaahkleienoaa", sum := "67454814e8738dd5b5fe21d78aadfa51102d01c9a909b1d0cbbddfe66883ac45", checked := Try.checked }
namespace Rows
def none {H : Type} : Left H := { results := [], args := [] }

/-- 'sluicekeep.JumpEnds': WHATEVER THE INPUT: true; the input reads as it did. -/
def jumpEndsSpec : ChangeSpec := { name := "jumpEnds", fn := fun _ => fun
  | [d] => { results := [.lit (.bool true)], args := [d] }
  | _ => none }
def jumpEndsRow : OpenClaim := { program := "ytfpaahkleienoaa", sum := "67454814e8738dd5b5fe21d78aadfa51102d01c9a909b1d0cbbddfe66883ac45", func := "sluice/sluicekeep.JumpEnds", spec := "jumpEnds", inPlace := ["maps.clone"], unfollowed := true, recurses := true, plainKeys := false, apart := false }
def JumpEndsSaid : Prop := jumpEndsRow.holds Try.pinned (OpenSpec.ofChange jumpEndsSpec)

/-- ITS FALSE NEIGHBOUR: 'it returns false'. Refute it at one input. -/
def jumpEndsWrong : ChangeSpec := { name := "jumpEnds", fn := fun _ => fun
  | [d] => { results := [.lit (.bool false)], args := [d] }
  | _ => none }
def JumpEndsWrongFalsely : Prop := jumpEndsRow.holds Try.pinned (OpenSpec.ofChange jumpEndsWrong)

/-- 'sluicelaw.AllocApplies': WHATEVER THE INPUT: true; the input reads as it did. -/
def allocAppliesSpec : ChangeSpec := { name := "allocApplies", fn := fun _ => fun
  | [d1, d2] => { results := [.lit (.bool true)], args := [d1, d2] }
  | _ => none }
def allocAppliesRow : OpenClaim := { program := "ytfpaahkleienoaa", sum := "67454814e8738dd5b5fe21d78aadfa51102d01c9a909b1d0cbbddfe66883ac45", func := "sluice/sluicelaw.AllocApplies", spec := "allocApplies", unfollowed := true, recurses := true, plainKeys := false, apart := false }
def AllocAppliesSaid : Prop := allocAppliesRow.holds Try.pinned (OpenSpec.ofChange allocAppliesSpec)

/-- ITS FALSE NEIGHBOUR: 'it returns false'. Refute it at one input. -/
def allocAppliesWrong : ChangeSpec := { name := "allocApplies", fn := fun _ => fun
  | [d1, d2] => { results := [.lit (.bool false)], args := [d1, d2] }
  | _ => none }
def AllocAppliesWrongFalsely : Prop := allocAppliesRow.holds Try.pinned (OpenSpec.ofChange allocAppliesWrong)

/-- 'sluicelaw.OptMakes': WHATEVER THE INPUT: true; the input reads as it did. -/
def optMakesSpec : ChangeSpec := { name := "optMakes", fn := fun _ => fun
  | [d] => { results := [.lit (.bool true)], args := [d] }
  | _ => none }
def optMakesRow : OpenClaim := { program := "ytfpaahkleienoaa", sum := "67454814e8738dd5b5fe21d78aadfa51102d01c9a909b1d0cbbddfe66883ac45", func := "sluice/sluicelaw.OptMakes", spec := "optMakes", inPlace := ["maps.clone"], unfollowed := true, recurses := true, plainKeys := false, apart := false }
def OptMakesSaid : Prop := optMakesRow.holds Try.pinned (OpenSpec.ofChange optMakesSpec)

/-- ITS FALSE NEIGHBOUR: 'it returns false'. Refute it at one input. -/
def optMakesWrong : ChangeSpec := { name := "optMakes", fn := fun _ => fun
  | [d] => { results := [.lit (.bool false)], args := [d] }
  | _ => none }
def OptMakesWrongFalsely : Prop := optMakesRow.holds Try.pinned (OpenSpec.ofChange optMakesWrong)

/-- 'sluicelaw.OptHolds': WHATEVER THE INPUT: true; the input reads as it did. -/
def optHoldsSpec : ChangeSpec := { name := "optHolds", fn := fun _ => fun
  | [d] => { results := [.lit (.bool true)], args := [d] }
  | _ => none }
def optHoldsRow : OpenClaim := { program := "ytfpaahkleienoaa", sum := "67454814e8738dd5b5fe21d78aadfa51102d01c9a909b1d0cbbddfe66883ac45", func := "sluice/sluicelaw.OptHolds", spec := "optHolds", inPlace := ["maps.clone"], unfollowed := true, recurses := true, plainKeys := false, apart := false }
def OptHoldsSaid : Prop := optHoldsRow.holds Try.pinned (OpenSpec.ofChange optHoldsSpec)

/-- ITS FALSE NEIGHBOUR: 'it returns false'. Refute it at one input. -/
def optHoldsWrong : ChangeSpec := { name := "optHolds", fn := fun _ => fun
  | [d] => { results := [.lit (.bool false)], args := [d] }
  | _ => none }
def OptHoldsWrongFalsely : Prop := optHoldsRow.holds Try.pinned (OpenSpec.ofChange optHoldsWrong)

/-- 'sluicekeep.OptLess': WHATEVER THE INPUT: true; the input reads as it did. -/
def optLessSpec : ChangeSpec := { name := "optLess", fn := fun _ => fun
  | [d] => { results := [.lit (.bool true)], args := [d] }
  | _ => none }
def optLessRow : OpenClaim := { program := "ytfpaahkleienoaa", sum := "67454814e8738dd5b5fe21d78aadfa51102d01c9a909b1d0cbbddfe66883ac45", func := "sluice/sluicekeep.OptLess", spec := "optLess", inPlace := ["maps.clone"], unfollowed := true, recurses := true, plainKeys := false, apart := false }
def OptLessSaid : Prop := optLessRow.holds Try.pinned (OpenSpec.ofChange optLessSpec)

/-- ITS FALSE NEIGHBOUR: 'it returns false'. Refute it at one input. -/
def optLessWrong : ChangeSpec := { name := "optLess", fn := fun _ => fun
  | [d] => { results := [.lit (.bool false)], args := [d] }
  | _ => none }
def OptLessWrongFalsely : Prop := optLessRow.holds Try.pinned (OpenSpec.ofChange optLessWrong)

/-- 'sluicelaw.ScRuns': WHATEVER THE INPUT: true; the input reads as it did. -/
def scRunsSpec : ChangeSpec := { name := "scRuns", fn := fun _ => fun
  | [d1, d2] => { results := [.lit (.bool true)], args := [d1, d2] }
  | _ => none }
def scRunsRow : OpenClaim := { program := "ytfpaahkleienoaa", sum := "67454814e8738dd5b5fe21d78aadfa51102d01c9a909b1d0cbbddfe66883ac45", func := "sluice/sluicelaw.ScRuns", spec := "scRuns", unfollowed := true, recurses := true, plainKeys := false, apart := false }
def ScRunsSaid : Prop := scRunsRow.holds Try.pinned (OpenSpec.ofChange scRunsSpec)

/-- ITS FALSE NEIGHBOUR: 'it returns false'. Refute it at one input. -/
def scRunsWrong : ChangeSpec := { name := "scRuns", fn := fun _ => fun
  | [d1, d2] => { results := [.lit (.bool false)], args := [d1, d2] }
  | _ => none }
def ScRunsWrongFalsely : Prop := scRunsRow.holds Try.pinned (OpenSpec.ofChange scRunsWrong)

/-- 'sluicekeep.ScAhead': WHATEVER THE INPUT: true; the input reads as it did. -/
def scAheadSpec : ChangeSpec := { name := "scAhead", fn := fun _ => fun
  | [d1, d2] => { results := [.lit (.bool true)], args := [d1, d2] }
  | _ => none }
def scAheadRow : OpenClaim := { program := "ytfpaahkleienoaa", sum := "67454814e8738dd5b5fe21d78aadfa51102d01c9a909b1d0cbbddfe66883ac45", func := "sluice/sluicekeep.ScAhead", spec := "scAhead", unfollowed := true, recurses := true, plainKeys := false, apart := false }
def ScAheadSaid : Prop := scAheadRow.holds Try.pinned (OpenSpec.ofChange scAheadSpec)

/-- ITS FALSE NEIGHBOUR: 'it returns false'. Refute it at one input. -/
def scAheadWrong : ChangeSpec := { name := "scAhead", fn := fun _ => fun
  | [d1, d2] => { results := [.lit (.bool false)], args := [d1, d2] }
  | _ => none }
def ScAheadWrongFalsely : Prop := scAheadRow.holds Try.pinned (OpenSpec.ofChange scAheadWrong)

/-- 'sluicelaw.TsoRuns': WHATEVER THE INPUT: true; the input reads as it did. -/
def tsoRunsSpec : ChangeSpec := { name := "tsoRuns", fn := fun _ => fun
  | [d1, d2] => { results := [.lit (.bool true)], args := [d1, d2] }
  | _ => none }
def tsoRunsRow : OpenClaim := { program := "ytfpaahkleienoaa", sum := "67454814e8738dd5b5fe21d78aadfa51102d01c9a909b1d0cbbddfe66883ac45", func := "sluice/sluicelaw.TsoRuns", spec := "tsoRuns", unfollowed := true, recurses := true, plainKeys := false, apart := false }
def TsoRunsSaid : Prop := tsoRunsRow.holds Try.pinned (OpenSpec.ofChange tsoRunsSpec)

/-- ITS FALSE NEIGHBOUR: 'it returns false'. Refute it at one input. -/
def tsoRunsWrong : ChangeSpec := { name := "tsoRuns", fn := fun _ => fun
  | [d1, d2] => { results := [.lit (.bool false)], args := [d1, d2] }
  | _ => none }
def TsoRunsWrongFalsely : Prop := tsoRunsRow.holds Try.pinned (OpenSpec.ofChange tsoRunsWrong)

/-- 'sluicelaw.PsoRuns': WHATEVER THE INPUT: true; the input reads as it did. -/
def psoRunsSpec : ChangeSpec := { name := "psoRuns", fn := fun _ => fun
  | [d1, d2] => { results := [.lit (.bool true)], args := [d1, d2] }
  | _ => none }
def psoRunsRow : OpenClaim := { program := "ytfpaahkleienoaa", sum := "67454814e8738dd5b5fe21d78aadfa51102d01c9a909b1d0cbbddfe66883ac45", func := "sluice/sluicelaw.PsoRuns", spec := "psoRuns", unfollowed := true, recurses := true, plainKeys := false, apart := false }
def PsoRunsSaid : Prop := psoRunsRow.holds Try.pinned (OpenSpec.ofChange psoRunsSpec)

/-- ITS FALSE NEIGHBOUR: 'it returns false'. Refute it at one input. -/
def psoRunsWrong : ChangeSpec := { name := "psoRuns", fn := fun _ => fun
  | [d1, d2] => { results := [.lit (.bool false)], args := [d1, d2] }
  | _ => none }
def PsoRunsWrongFalsely : Prop := psoRunsRow.holds Try.pinned (OpenSpec.ofChange psoRunsWrong)

/-- 'sluicekeep.TsoAlone': WHATEVER THE INPUT: true; the input reads as it did. -/
def tsoAloneSpec : ChangeSpec := { name := "tsoAlone", fn := fun _ => fun
  | [d1, d2] => { results := [.lit (.bool true)], args := [d1, d2] }
  | _ => none }
def tsoAloneRow : OpenClaim := { program := "ytfpaahkleienoaa", sum := "67454814e8738dd5b5fe21d78aadfa51102d01c9a909b1d0cbbddfe66883ac45", func := "sluice/sluicekeep.TsoAlone", spec := "tsoAlone", unfollowed := true, recurses := true, plainKeys := false, apart := false }
def TsoAloneSaid : Prop := tsoAloneRow.holds Try.pinned (OpenSpec.ofChange tsoAloneSpec)

/-- ITS FALSE NEIGHBOUR: 'it returns false'. Refute it at one input. -/
def tsoAloneWrong : ChangeSpec := { name := "tsoAlone", fn := fun _ => fun
  | [d1, d2] => { results := [.lit (.bool false)], args := [d1, d2] }
  | _ => none }
def TsoAloneWrongFalsely : Prop := tsoAloneRow.holds Try.pinned (OpenSpec.ofChange tsoAloneWrong)

/-- 'sluicelaw.AllocChecks': WHATEVER THE INPUT: true; the input reads as it did. -/
def allocChecksSpec : ChangeSpec := { name := "allocChecks", fn := fun _ => fun
  | [d1, d2] => { results := [.lit (.bool true)], args := [d1, d2] }
  | _ => none }
def allocChecksRow : OpenClaim := { program := "ytfpaahkleienoaa", sum := "67454814e8738dd5b5fe21d78aadfa51102d01c9a909b1d0cbbddfe66883ac45", func := "sluice/sluicelaw.AllocChecks", spec := "allocChecks", unfollowed := true, recurses := true, plainKeys := false, apart := false }
def AllocChecksSaid : Prop := allocChecksRow.holds Try.pinned (OpenSpec.ofChange allocChecksSpec)

/-- ITS FALSE NEIGHBOUR: 'it returns false'. Refute it at one input. -/
def allocChecksWrong : ChangeSpec := { name := "allocChecks", fn := fun _ => fun
  | [d1, d2] => { results := [.lit (.bool false)], args := [d1, d2] }
  | _ => none }
def AllocChecksWrongFalsely : Prop := allocChecksRow.holds Try.pinned (OpenSpec.ofChange allocChecksWrong)

/-- 'sluicelaw.HistTells': WHATEVER THE INPUT: true; the input reads as it did. -/
def histTellsSpec : ChangeSpec := { name := "histTells", fn := fun _ => fun
  | [d1, d2, d3, d4] => { results := [.lit (.bool true)], args := [d1, d2, d3, d4] }
  | _ => none }
def histTellsRow : OpenClaim := { program := "ytfpaahkleienoaa", sum := "67454814e8738dd5b5fe21d78aadfa51102d01c9a909b1d0cbbddfe66883ac45", func := "sluice/sluicelaw.HistTells", spec := "histTells", unfollowed := true, recurses := true, plainKeys := false, apart := false }
def HistTellsSaid : Prop := histTellsRow.holds Try.pinned (OpenSpec.ofChange histTellsSpec)

/-- ITS FALSE NEIGHBOUR: 'it returns false'. Refute it at one input. -/
def histTellsWrong : ChangeSpec := { name := "histTells", fn := fun _ => fun
  | [d1, d2, d3, d4] => { results := [.lit (.bool false)], args := [d1, d2, d3, d4] }
  | _ => none }
def HistTellsWrongFalsely : Prop := histTellsRow.holds Try.pinned (OpenSpec.ofChange histTellsWrong)

/- THE SECOND FORM. 'bulk': how many values and letters a reading holds, each counted each time it is reached (what is shared counts as often as it is met; a slice's spare places count too). A statement '..UptoSaid' is the law's where the arguments, and the package variables that the reading takes, are together of bulk at most 1048576: NARROWER than '..Said'. Prove '..Said' where nothing that the law and all that it calls make is longer than what came in: it says more and counts as full. Else prove '..UptoSaid'. A law counts once. -/
mutual
def uptoBulk {H : Type} : DataW H → Nat
  | .lit (.string bytes) => bytes.length + 1
  | .lit _ => 1
  | .nil => 1
  | .ptr d => uptoBulk d + 1
  | .slice elems spare => uptoBulkAll elems + uptoBulkAll spare + 1
  | .agg parts => uptoBulkAll parts + 1
  | .iface _ d => uptoBulk d + 1
  | .map entries => uptoBulkEntries entries + 1
  | .held _ => 1
def uptoBulkAll {H : Type} : List (DataW H) → Nat
  | [] => 0
  | d :: r => uptoBulk d + uptoBulkAll r
def uptoBulkEntries {H : Type} : List (Lit × DataW H) → Nat
  | [] => 0
  | x :: r => uptoBulkEntry x + uptoBulkEntries r
def uptoBulkEntry {H : Type} : Lit × DataW H → Nat
  | (.string bytes, d) => bytes.length + uptoBulk d + 1
  | (_, d) => uptoBulk d + 1
 end
def uptoSmall : (H : Type) → List (DataW H) → Bool := fun _ ds => decide (uptoBulkAll ds ≤ 1048576)
def OpenSpec.upto (s : _root_.Go.ChangeSpec) : _root_.Go.OpenSpec := { _root_.Go.OpenSpec.ofChange s with cond := some uptoSmall }

/-- 'sluicekeep.JumpEnds', WHERE WHAT IT READS IS OF BULK AT MOST 1048576: true; the input reads as it did. -/
def jumpEndsUptoRow : OpenClaim := { program := "ytfpaahkleienoaa", sum := "67454814e8738dd5b5fe21d78aadfa51102d01c9a909b1d0cbbddfe66883ac45", func := "sluice/sluicekeep.JumpEnds", spec := "jumpEnds", inPlace := ["maps.clone"], unfollowed := true, recurses := true, plainKeys := false, apart := false, narrowed := true }
def JumpEndsUptoSaid : Prop := jumpEndsUptoRow.holds Try.pinned (OpenSpec.upto jumpEndsSpec)

/-- 'sluicelaw.AllocApplies', WHERE WHAT IT READS IS OF BULK AT MOST 1048576: true; the input reads as it did. -/
def allocAppliesUptoRow : OpenClaim := { program := "ytfpaahkleienoaa", sum := "67454814e8738dd5b5fe21d78aadfa51102d01c9a909b1d0cbbddfe66883ac45", func := "sluice/sluicelaw.AllocApplies", spec := "allocApplies", unfollowed := true, recurses := true, plainKeys := false, apart := false, narrowed := true }
def AllocAppliesUptoSaid : Prop := allocAppliesUptoRow.holds Try.pinned (OpenSpec.upto allocAppliesSpec)

/-- 'sluicelaw.OptMakes', WHERE WHAT IT READS IS OF BULK AT MOST 1048576: true; the input reads as it did. -/
def optMakesUptoRow : OpenClaim := { program := "ytfpaahkleienoaa", sum := "67454814e8738dd5b5fe21d78aadfa51102d01c9a909b1d0cbbddfe66883ac45", func := "sluice/sluicelaw.OptMakes", spec := "optMakes", inPlace := ["maps.clone"], unfollowed := true, recurses := true, plainKeys := false, apart := false, narrowed := true }
def OptMakesUptoSaid : Prop := optMakesUptoRow.holds Try.pinned (OpenSpec.upto optMakesSpec)

/-- 'sluicelaw.OptHolds', WHERE WHAT IT READS IS OF BULK AT MOST 1048576: true; the input reads as it did. -/
def optHoldsUptoRow : OpenClaim := { program := "ytfpaahkleienoaa", sum := "67454814e8738dd5b5fe21d78aadfa51102d01c9a909b1d0cbbddfe66883ac45", func := "sluice/sluicelaw.OptHolds", spec := "optHolds", inPlace := ["maps.clone"], unfollowed := true, recurses := true, plainKeys := false, apart := false, narrowed := true }
def OptHoldsUptoSaid : Prop := optHoldsUptoRow.holds Try.pinned (OpenSpec.upto optHoldsSpec)

/-- 'sluicekeep.OptLess', WHERE WHAT IT READS IS OF BULK AT MOST 1048576: true; the input reads as it did. -/
def optLessUptoRow : OpenClaim := { program := "ytfpaahkleienoaa", sum := "67454814e8738dd5b5fe21d78aadfa51102d01c9a909b1d0cbbddfe66883ac45", func := "sluice/sluicekeep.OptLess", spec := "optLess", inPlace := ["maps.clone"], unfollowed := true, recurses := true, plainKeys := false, apart := false, narrowed := true }
def OptLessUptoSaid : Prop := optLessUptoRow.holds Try.pinned (OpenSpec.upto optLessSpec)

/-- 'sluicelaw.ScRuns', WHERE WHAT IT READS IS OF BULK AT MOST 1048576: true; the input reads as it did. -/
def scRunsUptoRow : OpenClaim := { program := "ytfpaahkleienoaa", sum := "67454814e8738dd5b5fe21d78aadfa51102d01c9a909b1d0cbbddfe66883ac45", func := "sluice/sluicelaw.ScRuns", spec := "scRuns", unfollowed := true, recurses := true, plainKeys := false, apart := false, narrowed := true }
def ScRunsUptoSaid : Prop := scRunsUptoRow.holds Try.pinned (OpenSpec.upto scRunsSpec)

/-- 'sluicekeep.ScAhead', WHERE WHAT IT READS IS OF BULK AT MOST 1048576: true; the input reads as it did. -/
def scAheadUptoRow : OpenClaim := { program := "ytfpaahkleienoaa", sum := "67454814e8738dd5b5fe21d78aadfa51102d01c9a909b1d0cbbddfe66883ac45", func := "sluice/sluicekeep.ScAhead", spec := "scAhead", unfollowed := true, recurses := true, plainKeys := false, apart := false, narrowed := true }
def ScAheadUptoSaid : Prop := scAheadUptoRow.holds Try.pinned (OpenSpec.upto scAheadSpec)

/-- 'sluicelaw.TsoRuns', WHERE WHAT IT READS IS OF BULK AT MOST 1048576: true; the input reads as it did. -/
def tsoRunsUptoRow : OpenClaim := { program := "ytfpaahkleienoaa", sum := "67454814e8738dd5b5fe21d78aadfa51102d01c9a909b1d0cbbddfe66883ac45", func := "sluice/sluicelaw.TsoRuns", spec := "tsoRuns", unfollowed := true, recurses := true, plainKeys := false, apart := false, narrowed := true }
def TsoRunsUptoSaid : Prop := tsoRunsUptoRow.holds Try.pinned (OpenSpec.upto tsoRunsSpec)

/-- 'sluicelaw.PsoRuns', WHERE WHAT IT READS IS OF BULK AT MOST 1048576: true; the input reads as it did. -/
def psoRunsUptoRow : OpenClaim := { program := "ytfpaahkleienoaa", sum := "67454814e8738dd5b5fe21d78aadfa51102d01c9a909b1d0cbbddfe66883ac45", func := "sluice/sluicelaw.PsoRuns", spec := "psoRuns", unfollowed := true, recurses := true, plainKeys := false, apart := false, narrowed := true }
def PsoRunsUptoSaid : Prop := psoRunsUptoRow.holds Try.pinned (OpenSpec.upto psoRunsSpec)

/-- 'sluicekeep.TsoAlone', WHERE WHAT IT READS IS OF BULK AT MOST 1048576: true; the input reads as it did. -/
def tsoAloneUptoRow : OpenClaim := { program := "ytfpaahkleienoaa", sum := "67454814e8738dd5b5fe21d78aadfa51102d01c9a909b1d0cbbddfe66883ac45", func := "sluice/sluicekeep.TsoAlone", spec := "tsoAlone", unfollowed := true, recurses := true, plainKeys := false, apart := false, narrowed := true }
def TsoAloneUptoSaid : Prop := tsoAloneUptoRow.holds Try.pinned (OpenSpec.upto tsoAloneSpec)

/-- 'sluicelaw.AllocChecks', WHERE WHAT IT READS IS OF BULK AT MOST 1048576: true; the input reads as it did. -/
def allocChecksUptoRow : OpenClaim := { program := "ytfpaahkleienoaa", sum := "67454814e8738dd5b5fe21d78aadfa51102d01c9a909b1d0cbbddfe66883ac45", func := "sluice/sluicelaw.AllocChecks", spec := "allocChecks", unfollowed := true, recurses := true, plainKeys := false, apart := false, narrowed := true }
def AllocChecksUptoSaid : Prop := allocChecksUptoRow.holds Try.pinned (OpenSpec.upto allocChecksSpec)

/-- 'sluicelaw.HistTells', WHERE WHAT IT READS IS OF BULK AT MOST 1048576: true; the input reads as it did. -/
def histTellsUptoRow : OpenClaim := { program := "ytfpaahkleienoaa", sum := "67454814e8738dd5b5fe21d78aadfa51102d01c9a909b1d0cbbddfe66883ac45", func := "sluice/sluicelaw.HistTells", spec := "histTells", unfollowed := true, recurses := true, plainKeys := false, apart := false, narrowed := true }
def HistTellsUptoSaid : Prop := histTellsUptoRow.holds Try.pinned (OpenSpec.upto histTellsSpec)

end Rows
end Go.Proofs.Ytfpaahkleienoaa
