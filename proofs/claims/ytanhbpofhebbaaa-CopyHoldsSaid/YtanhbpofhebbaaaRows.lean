/-
  No cell of these rows narrows 'for every input' (looked for: loops, veiled, ifaces, maps, wideKeys, modest, calm, conditions, laid).
  DERIVED. THE GIVEN ROWS OF THIS SEAT. 15 by the template 'for every input the law returns true; each argument reads behind the call as it read before'; 0 by the template 'total and deterministic' (their statements: YtanhbpofhebbaaaTotals.lean).
  GIVEN WITH THE SEED: the statements are not yours to turn. If you find one false, say at which input.
  Laid BY PROGRAM, IN A SANDBOX (cutbox-rows.mjs): the forced cells as the released guide's own fill.sh prints them over the translation 7b301220a6014c0a… (all of the seat's roots in one cut). By AI agents, Wed Nov 11 2026. No macro, syntax, notation, axiom, sorry.
-/
import Derived.Test.YtanhbpofhebbaaaChecked
import GoSem.Claim
import GoSem.ClaimJoined
import GoSem.ClaimMapViews
import Derived.JoinedTies
import Derived.KernelRfl
namespace Go.Proofs.Ytanhbpofhebbaaa
/- THE CELL 'sum', in the pinned program and in every row, IS THE sha256 OF THE DUMP (.gsa) THAT YtanhbpofhebbaaaProg.lean LOADS. Nothing in Lean hashes anything: it is a label: what it is worth is what the hold of that sum in a sandbox is worth. -/
noncomputable def Try.pinned : Pinned := { name := "ytanhbpofhebbaaa", sum := "7b301220a6014c0ab3bd6921af75b06f801b4b2a3728f50d01d73eed99bd897f", checked := Try.checked }
namespace Rows
def none {H : Type} : Left H := { results := [], args := [] }

/-- 'sluicelaw.Names': WHATEVER THE INPUT: true; the input reads as it did. -/
def namesSpec : ChangeSpec := { name := "names", fn := fun _ => fun
  | [] => { results := [.lit (.bool true)], args := [] }
  | _ => none }
def namesRow : OpenClaim := { program := "ytanhbpofhebbaaa", sum := "7b301220a6014c0ab3bd6921af75b06f801b4b2a3728f50d01d73eed99bd897f", func := "sluice/sluicelaw.Names", spec := "names", plainKeys := false, apart := false }
def NamesSaid : Prop := namesRow.holds Try.pinned (OpenSpec.ofChange namesSpec)

/-- ITS FALSE NEIGHBOUR: 'it returns false'. Refute it at one input. -/
def namesWrong : ChangeSpec := { name := "names", fn := fun _ => fun
  | [] => { results := [.lit (.bool false)], args := [] }
  | _ => none }
def NamesWrongFalsely : Prop := namesRow.holds Try.pinned (OpenSpec.ofChange namesWrong)

/-- 'sluicelaw.AsmChecks': WHATEVER THE INPUT: true; the input reads as it did. -/
def asmChecksSpec : ChangeSpec := { name := "asmChecks", fn := fun _ => fun
  | [d] => { results := [.lit (.bool true)], args := [d] }
  | _ => none }
def asmChecksRow : OpenClaim := { program := "ytanhbpofhebbaaa", sum := "7b301220a6014c0ab3bd6921af75b06f801b4b2a3728f50d01d73eed99bd897f", func := "sluice/sluicelaw.AsmChecks", spec := "asmChecks", plainKeys := false, apart := false }
def AsmChecksSaid : Prop := asmChecksRow.holds Try.pinned (OpenSpec.ofChange asmChecksSpec)

/-- ITS FALSE NEIGHBOUR: 'it returns false'. Refute it at one input. -/
def asmChecksWrong : ChangeSpec := { name := "asmChecks", fn := fun _ => fun
  | [d] => { results := [.lit (.bool false)], args := [d] }
  | _ => none }
def AsmChecksWrongFalsely : Prop := asmChecksRow.holds Try.pinned (OpenSpec.ofChange asmChecksWrong)

/-- 'sluicelaw.HistRuns': WHATEVER THE INPUT: true; the input reads as it did. -/
def histRunsSpec : ChangeSpec := { name := "histRuns", fn := fun _ => fun
  | [d1, d2] => { results := [.lit (.bool true)], args := [d1, d2] }
  | _ => none }
def histRunsRow : OpenClaim := { program := "ytanhbpofhebbaaa", sum := "7b301220a6014c0ab3bd6921af75b06f801b4b2a3728f50d01d73eed99bd897f", func := "sluice/sluicelaw.HistRuns", spec := "histRuns", unfollowed := true, recurses := true, plainKeys := false, apart := false }
def HistRunsSaid : Prop := histRunsRow.holds Try.pinned (OpenSpec.ofChange histRunsSpec)

/-- ITS FALSE NEIGHBOUR: 'it returns false'. Refute it at one input. -/
def histRunsWrong : ChangeSpec := { name := "histRuns", fn := fun _ => fun
  | [d1, d2] => { results := [.lit (.bool false)], args := [d1, d2] }
  | _ => none }
def HistRunsWrongFalsely : Prop := histRunsRow.holds Try.pinned (OpenSpec.ofChange histRunsWrong)

/-- 'sluicekeep.HistFewer': WHATEVER THE INPUT: true; the input reads as it did. -/
def histFewerSpec : ChangeSpec := { name := "histFewer", fn := fun _ => fun
  | [d1, d2, d3] => { results := [.lit (.bool true)], args := [d1, d2, d3] }
  | _ => none }
def histFewerRow : OpenClaim := { program := "ytanhbpofhebbaaa", sum := "7b301220a6014c0ab3bd6921af75b06f801b4b2a3728f50d01d73eed99bd897f", func := "sluice/sluicekeep.HistFewer", spec := "histFewer", unfollowed := true, recurses := true, plainKeys := false, apart := false }
def HistFewerSaid : Prop := histFewerRow.holds Try.pinned (OpenSpec.ofChange histFewerSpec)

/-- ITS FALSE NEIGHBOUR: 'it returns false'. Refute it at one input. -/
def histFewerWrong : ChangeSpec := { name := "histFewer", fn := fun _ => fun
  | [d1, d2, d3] => { results := [.lit (.bool false)], args := [d1, d2, d3] }
  | _ => none }
def HistFewerWrongFalsely : Prop := histFewerRow.holds Try.pinned (OpenSpec.ofChange histFewerWrong)

/-- 'sluicelaw.FenceFull': WHATEVER THE INPUT: true; the input reads as it did. -/
def fenceFullSpec : ChangeSpec := { name := "fenceFull", fn := fun _ => fun
  | [d] => { results := [.lit (.bool true)], args := [d] }
  | _ => none }
def fenceFullRow : OpenClaim := { program := "ytanhbpofhebbaaa", sum := "7b301220a6014c0ab3bd6921af75b06f801b4b2a3728f50d01d73eed99bd897f", func := "sluice/sluicelaw.FenceFull", spec := "fenceFull", unfollowed := true, recurses := true, plainKeys := false, apart := false }
def FenceFullSaid : Prop := fenceFullRow.holds Try.pinned (OpenSpec.ofChange fenceFullSpec)

/-- ITS FALSE NEIGHBOUR: 'it returns false'. Refute it at one input. -/
def fenceFullWrong : ChangeSpec := { name := "fenceFull", fn := fun _ => fun
  | [d] => { results := [.lit (.bool false)], args := [d] }
  | _ => none }
def FenceFullWrongFalsely : Prop := fenceFullRow.holds Try.pinned (OpenSpec.ofChange fenceFullWrong)

/-- 'sluicelaw.JumpMakes': WHATEVER THE INPUT: true; the input reads as it did. -/
def jumpMakesSpec : ChangeSpec := { name := "jumpMakes", fn := fun _ => fun
  | [d] => { results := [.lit (.bool true)], args := [d] }
  | _ => none }
def jumpMakesRow : OpenClaim := { program := "ytanhbpofhebbaaa", sum := "7b301220a6014c0ab3bd6921af75b06f801b4b2a3728f50d01d73eed99bd897f", func := "sluice/sluicelaw.JumpMakes", spec := "jumpMakes", unfollowed := true, recurses := true, plainKeys := false, apart := false }
def JumpMakesSaid : Prop := jumpMakesRow.holds Try.pinned (OpenSpec.ofChange jumpMakesSpec)

/-- ITS FALSE NEIGHBOUR: 'it returns false'. Refute it at one input. -/
def jumpMakesWrong : ChangeSpec := { name := "jumpMakes", fn := fun _ => fun
  | [d] => { results := [.lit (.bool false)], args := [d] }
  | _ => none }
def JumpMakesWrongFalsely : Prop := jumpMakesRow.holds Try.pinned (OpenSpec.ofChange jumpMakesWrong)

/-- 'sluicelaw.JumpHolds': WHATEVER THE INPUT: true; the input reads as it did. -/
def jumpHoldsSpec : ChangeSpec := { name := "jumpHolds", fn := fun _ => fun
  | [d] => { results := [.lit (.bool true)], args := [d] }
  | _ => none }
def jumpHoldsRow : OpenClaim := { program := "ytanhbpofhebbaaa", sum := "7b301220a6014c0ab3bd6921af75b06f801b4b2a3728f50d01d73eed99bd897f", func := "sluice/sluicelaw.JumpHolds", spec := "jumpHolds", unfollowed := true, recurses := true, plainKeys := false, apart := false }
def JumpHoldsSaid : Prop := jumpHoldsRow.holds Try.pinned (OpenSpec.ofChange jumpHoldsSpec)

/-- ITS FALSE NEIGHBOUR: 'it returns false'. Refute it at one input. -/
def jumpHoldsWrong : ChangeSpec := { name := "jumpHolds", fn := fun _ => fun
  | [d] => { results := [.lit (.bool false)], args := [d] }
  | _ => none }
def JumpHoldsWrongFalsely : Prop := jumpHoldsRow.holds Try.pinned (OpenSpec.ofChange jumpHoldsWrong)

/-- 'sluicelaw.SpinLinks': WHATEVER THE INPUT: true; the input reads as it did. -/
def spinLinksSpec : ChangeSpec := { name := "spinLinks", fn := fun _ => fun
  | [d] => { results := [.lit (.bool true)], args := [d] }
  | _ => none }
def spinLinksRow : OpenClaim := { program := "ytanhbpofhebbaaa", sum := "7b301220a6014c0ab3bd6921af75b06f801b4b2a3728f50d01d73eed99bd897f", func := "sluice/sluicelaw.SpinLinks", spec := "spinLinks", unfollowed := true, recurses := true, plainKeys := false, apart := false }
def SpinLinksSaid : Prop := spinLinksRow.holds Try.pinned (OpenSpec.ofChange spinLinksSpec)

/-- ITS FALSE NEIGHBOUR: 'it returns false'. Refute it at one input. -/
def spinLinksWrong : ChangeSpec := { name := "spinLinks", fn := fun _ => fun
  | [d] => { results := [.lit (.bool false)], args := [d] }
  | _ => none }
def SpinLinksWrongFalsely : Prop := spinLinksRow.holds Try.pinned (OpenSpec.ofChange spinLinksWrong)

/-- 'sluicelaw.SpinHolds': WHATEVER THE INPUT: true; the input reads as it did. -/
def spinHoldsSpec : ChangeSpec := { name := "spinHolds", fn := fun _ => fun
  | [d] => { results := [.lit (.bool true)], args := [d] }
  | _ => none }
def spinHoldsRow : OpenClaim := { program := "ytanhbpofhebbaaa", sum := "7b301220a6014c0ab3bd6921af75b06f801b4b2a3728f50d01d73eed99bd897f", func := "sluice/sluicelaw.SpinHolds", spec := "spinHolds", unfollowed := true, recurses := true, plainKeys := false, apart := false }
def SpinHoldsSaid : Prop := spinHoldsRow.holds Try.pinned (OpenSpec.ofChange spinHoldsSpec)

/-- ITS FALSE NEIGHBOUR: 'it returns false'. Refute it at one input. -/
def spinHoldsWrong : ChangeSpec := { name := "spinHolds", fn := fun _ => fun
  | [d] => { results := [.lit (.bool false)], args := [d] }
  | _ => none }
def SpinHoldsWrongFalsely : Prop := spinHoldsRow.holds Try.pinned (OpenSpec.ofChange spinHoldsWrong)

/-- 'sluicelaw.FenceDrops': WHATEVER THE INPUT: true; the input reads as it did. -/
def fenceDropsSpec : ChangeSpec := { name := "fenceDrops", fn := fun _ => fun
  | [d] => { results := [.lit (.bool true)], args := [d] }
  | _ => none }
def fenceDropsRow : OpenClaim := { program := "ytanhbpofhebbaaa", sum := "7b301220a6014c0ab3bd6921af75b06f801b4b2a3728f50d01d73eed99bd897f", func := "sluice/sluicelaw.FenceDrops", spec := "fenceDrops", unfollowed := true, recurses := true, plainKeys := false, apart := false }
def FenceDropsSaid : Prop := fenceDropsRow.holds Try.pinned (OpenSpec.ofChange fenceDropsSpec)

/-- ITS FALSE NEIGHBOUR: 'it returns false'. Refute it at one input. -/
def fenceDropsWrong : ChangeSpec := { name := "fenceDrops", fn := fun _ => fun
  | [d] => { results := [.lit (.bool false)], args := [d] }
  | _ => none }
def FenceDropsWrongFalsely : Prop := fenceDropsRow.holds Try.pinned (OpenSpec.ofChange fenceDropsWrong)

/-- 'sluicelaw.LiveTells': WHATEVER THE INPUT: true; the input reads as it did. -/
def liveTellsSpec : ChangeSpec := { name := "liveTells", fn := fun _ => fun
  | [d] => { results := [.lit (.bool true)], args := [d] }
  | _ => none }
def liveTellsRow : OpenClaim := { program := "ytanhbpofhebbaaa", sum := "7b301220a6014c0ab3bd6921af75b06f801b4b2a3728f50d01d73eed99bd897f", func := "sluice/sluicelaw.LiveTells", spec := "liveTells", plainKeys := false, apart := false }
def LiveTellsSaid : Prop := liveTellsRow.holds Try.pinned (OpenSpec.ofChange liveTellsSpec)

/-- ITS FALSE NEIGHBOUR: 'it returns false'. Refute it at one input. -/
def liveTellsWrong : ChangeSpec := { name := "liveTells", fn := fun _ => fun
  | [d] => { results := [.lit (.bool false)], args := [d] }
  | _ => none }
def LiveTellsWrongFalsely : Prop := liveTellsRow.holds Try.pinned (OpenSpec.ofChange liveTellsWrong)

/-- 'sluicekeep.LiveEnds': WHATEVER THE INPUT: true; the input reads as it did. -/
def liveEndsSpec : ChangeSpec := { name := "liveEnds", fn := fun _ => fun
  | [d] => { results := [.lit (.bool true)], args := [d] }
  | _ => none }
def liveEndsRow : OpenClaim := { program := "ytanhbpofhebbaaa", sum := "7b301220a6014c0ab3bd6921af75b06f801b4b2a3728f50d01d73eed99bd897f", func := "sluice/sluicekeep.LiveEnds", spec := "liveEnds", plainKeys := false, apart := false }
def LiveEndsSaid : Prop := liveEndsRow.holds Try.pinned (OpenSpec.ofChange liveEndsSpec)

/-- ITS FALSE NEIGHBOUR: 'it returns false'. Refute it at one input. -/
def liveEndsWrong : ChangeSpec := { name := "liveEnds", fn := fun _ => fun
  | [d] => { results := [.lit (.bool false)], args := [d] }
  | _ => none }
def LiveEndsWrongFalsely : Prop := liveEndsRow.holds Try.pinned (OpenSpec.ofChange liveEndsWrong)

/-- 'sluicelaw.CopyMakes': WHATEVER THE INPUT: true; the input reads as it did. -/
def copyMakesSpec : ChangeSpec := { name := "copyMakes", fn := fun _ => fun
  | [d] => { results := [.lit (.bool true)], args := [d] }
  | _ => none }
def copyMakesRow : OpenClaim := { program := "ytanhbpofhebbaaa", sum := "7b301220a6014c0ab3bd6921af75b06f801b4b2a3728f50d01d73eed99bd897f", func := "sluice/sluicelaw.CopyMakes", spec := "copyMakes", inPlace := ["maps.clone"], unfollowed := true, recurses := true, plainKeys := false, apart := false }
def CopyMakesSaid : Prop := copyMakesRow.holds Try.pinned (OpenSpec.ofChange copyMakesSpec)

/-- ITS FALSE NEIGHBOUR: 'it returns false'. Refute it at one input. -/
def copyMakesWrong : ChangeSpec := { name := "copyMakes", fn := fun _ => fun
  | [d] => { results := [.lit (.bool false)], args := [d] }
  | _ => none }
def CopyMakesWrongFalsely : Prop := copyMakesRow.holds Try.pinned (OpenSpec.ofChange copyMakesWrong)

/-- 'sluicelaw.CopyHolds': WHATEVER THE INPUT: true; the input reads as it did. -/
def copyHoldsSpec : ChangeSpec := { name := "copyHolds", fn := fun _ => fun
  | [d] => { results := [.lit (.bool true)], args := [d] }
  | _ => none }
def copyHoldsRow : OpenClaim := { program := "ytanhbpofhebbaaa", sum := "7b301220a6014c0ab3bd6921af75b06f801b4b2a3728f50d01d73eed99bd897f", func := "sluice/sluicelaw.CopyHolds", spec := "copyHolds", inPlace := ["maps.clone"], unfollowed := true, recurses := true, plainKeys := false, apart := false }
def CopyHoldsSaid : Prop := copyHoldsRow.holds Try.pinned (OpenSpec.ofChange copyHoldsSpec)

/-- ITS FALSE NEIGHBOUR: 'it returns false'. Refute it at one input. -/
def copyHoldsWrong : ChangeSpec := { name := "copyHolds", fn := fun _ => fun
  | [d] => { results := [.lit (.bool false)], args := [d] }
  | _ => none }
def CopyHoldsWrongFalsely : Prop := copyHoldsRow.holds Try.pinned (OpenSpec.ofChange copyHoldsWrong)

/-- 'sluicelaw.FenceMakes': WHATEVER THE INPUT: true; the input reads as it did. -/
def fenceMakesSpec : ChangeSpec := { name := "fenceMakes", fn := fun _ => fun
  | [d] => { results := [.lit (.bool true)], args := [d] }
  | _ => none }
def fenceMakesRow : OpenClaim := { program := "ytanhbpofhebbaaa", sum := "7b301220a6014c0ab3bd6921af75b06f801b4b2a3728f50d01d73eed99bd897f", func := "sluice/sluicelaw.FenceMakes", spec := "fenceMakes", unfollowed := true, recurses := true, plainKeys := false, apart := false }
def FenceMakesSaid : Prop := fenceMakesRow.holds Try.pinned (OpenSpec.ofChange fenceMakesSpec)

/-- ITS FALSE NEIGHBOUR: 'it returns false'. Refute it at one input. -/
def fenceMakesWrong : ChangeSpec := { name := "fenceMakes", fn := fun _ => fun
  | [d] => { results := [.lit (.bool false)], args := [d] }
  | _ => none }
def FenceMakesWrongFalsely : Prop := fenceMakesRow.holds Try.pinned (OpenSpec.ofChange fenceMakesWrong)

/- THE SECOND FORM. 'bulk': how many values and letters a reading holds, each counted each time it is reached (what is shared counts as often as it is met; a slice's spare places count too). A statement '..UptoSaid' is the law's where the arguments, and the package variables that the reading takes, are together of bulk at most 1048576: NARROWER than '..Said'. Prove '..Said' where nothing that the law and all that it calls make is longer than what came in: it says more and counts as full. Else prove '..UptoSaid'. A law counts once. -/
mutual
def uptoBulk {H : Type} : DataW H → Nat
  | .lit (.string bytes) => bytes.length + 1
  | .lit _ => 1
  | .nil => 1
  | .ptr d => uptoBulk d + 1
  | .slice elems spare => uptoBulkAll elems + uptoBulkAll spare + 1
  | .agg parts => uptoBulkAll parts + 1
  | .iface _ d => uptoBulk d + 1
  | .map entries => uptoBulkEntries entries + 1
  | .held _ => 1
def uptoBulkAll {H : Type} : List (DataW H) → Nat
  | [] => 0
  | d :: r => uptoBulk d + uptoBulkAll r
def uptoBulkEntries {H : Type} : List (Lit × DataW H) → Nat
  | [] => 0
  | x :: r => uptoBulkEntry x + uptoBulkEntries r
def uptoBulkEntry {H : Type} : Lit × DataW H → Nat
  | (.string bytes, d) => bytes.length + uptoBulk d + 1
  | (_, d) => uptoBulk d + 1
 end
def uptoSmall : (H : Type) → List (DataW H) → Bool := fun _ ds => decide (uptoBulkAll ds ≤ 1048576)
def OpenSpec.upto (s : _root_.Go.ChangeSpec) : _root_.Go.OpenSpec := { _root_.Go.OpenSpec.ofChange s with cond := some uptoSmall }

/-- 'sluicelaw.Names', WHERE WHAT IT READS IS OF BULK AT MOST 1048576: true; the input reads as it did. -/
def namesUptoRow : OpenClaim := { program := "ytanhbpofhebbaaa", sum := "7b301220a6014c0ab3bd6921af75b06f801b4b2a3728f50d01d73eed99bd897f", func := "sluice/sluicelaw.Names", spec := "names", plainKeys := false, apart := false, narrowed := true }
def NamesUptoSaid : Prop := namesUptoRow.holds Try.pinned (OpenSpec.upto namesSpec)

/-- 'sluicelaw.AsmChecks', WHERE WHAT IT READS IS OF BULK AT MOST 1048576: true; the input reads as it did. -/
def asmChecksUptoRow : OpenClaim := { program := "ytanhbpofhebbaaa", sum := "7b301220a6014c0ab3bd6921af75b06f801b4b2a3728f50d01d73eed99bd897f", func := "sluice/sluicelaw.AsmChecks", spec := "asmChecks", plainKeys := false, apart := false, narrowed := true }
def AsmChecksUptoSaid : Prop := asmChecksUptoRow.holds Try.pinned (OpenSpec.upto asmChecksSpec)

/-- 'sluicelaw.HistRuns', WHERE WHAT IT READS IS OF BULK AT MOST 1048576: true; the input reads as it did. -/
def histRunsUptoRow : OpenClaim := { program := "ytanhbpofhebbaaa", sum := "7b301220a6014c0ab3bd6921af75b06f801b4b2a3728f50d01d73eed99bd897f", func := "sluice/sluicelaw.HistRuns", spec := "histRuns", unfollowed := true, recurses := true, plainKeys := false, apart := false, narrowed := true }
def HistRunsUptoSaid : Prop := histRunsUptoRow.holds Try.pinned (OpenSpec.upto histRunsSpec)

/-- 'sluicekeep.HistFewer', WHERE WHAT IT READS IS OF BULK AT MOST 1048576: true; the input reads as it did. -/
def histFewerUptoRow : OpenClaim := { program := "ytanhbpofhebbaaa", sum := "7b301220a6014c0ab3bd6921af75b06f801b4b2a3728f50d01d73eed99bd897f", func := "sluice/sluicekeep.HistFewer", spec := "histFewer", unfollowed := true, recurses := true, plainKeys := false, apart := false, narrowed := true }
def HistFewerUptoSaid : Prop := histFewerUptoRow.holds Try.pinned (OpenSpec.upto histFewerSpec)

/-- 'sluicelaw.FenceFull', WHERE WHAT IT READS IS OF BULK AT MOST 1048576: true; the input reads as it did. -/
def fenceFullUptoRow : OpenClaim := { program := "ytanhbpofhebbaaa", sum := "7b301220a6014c0ab3bd6921af75b06f801b4b2a3728f50d01d73eed99bd897f", func := "sluice/sluicelaw.FenceFull", spec := "fenceFull", unfollowed := true, recurses := true, plainKeys := false, apart := false, narrowed := true }
def FenceFullUptoSaid : Prop := fenceFullUptoRow.holds Try.pinned (OpenSpec.upto fenceFullSpec)

/-- 'sluicelaw.JumpMakes', WHERE WHAT IT READS IS OF BULK AT MOST 1048576: true; the input reads as it did. -/
def jumpMakesUptoRow : OpenClaim := { program := "ytanhbpofhebbaaa", sum := "7b301220a6014c0ab3bd6921af75b06f801b4b2a3728f50d01d73eed99bd897f", func := "sluice/sluicelaw.JumpMakes", spec := "jumpMakes", unfollowed := true, recurses := true, plainKeys := false, apart := false, narrowed := true }
def JumpMakesUptoSaid : Prop := jumpMakesUptoRow.holds Try.pinned (OpenSpec.upto jumpMakesSpec)

/-- 'sluicelaw.JumpHolds', WHERE WHAT IT READS IS OF BULK AT MOST 1048576: true; the input reads as it did. -/
def jumpHoldsUptoRow : OpenClaim := { program := "ytanhbpofhebbaaa", sum := "7b301220a6014c0ab3bd6921af75b06f801b4b2a3728f50d01d73eed99bd897f", func := "sluice/sluicelaw.JumpHolds", spec := "jumpHolds", unfollowed := true, recurses := true, plainKeys := false, apart := false, narrowed := true }
def JumpHoldsUptoSaid : Prop := jumpHoldsUptoRow.holds Try.pinned (OpenSpec.upto jumpHoldsSpec)

/-- 'sluicelaw.SpinLinks', WHERE WHAT IT READS IS OF BULK AT MOST 1048576: true; the input reads as it did. -/
def spinLinksUptoRow : OpenClaim := { program := "ytanhbpofhebbaaa", sum := "7b301220a6014c0ab3bd6921af75b06f801b4b2a3728f50d01d73eed99bd897f", func := "sluice/sluicelaw.SpinLinks", spec := "spinLinks", unfollowed := true, recurses := true, plainKeys := false, apart := false, narrowed := true }
def SpinLinksUptoSaid : Prop := spinLinksUptoRow.holds Try.pinned (OpenSpec.upto spinLinksSpec)

/-- 'sluicelaw.SpinHolds', WHERE WHAT IT READS IS OF BULK AT MOST 1048576: true; the input reads as it did. -/
def spinHoldsUptoRow : OpenClaim := { program := "ytanhbpofhebbaaa", sum := "7b301220a6014c0ab3bd6921af75b06f801b4b2a3728f50d01d73eed99bd897f", func := "sluice/sluicelaw.SpinHolds", spec := "spinHolds", unfollowed := true, recurses := true, plainKeys := false, apart := false, narrowed := true }
def SpinHoldsUptoSaid : Prop := spinHoldsUptoRow.holds Try.pinned (OpenSpec.upto spinHoldsSpec)

/-- 'sluicelaw.FenceDrops', WHERE WHAT IT READS IS OF BULK AT MOST 1048576: true; the input reads as it did. -/
def fenceDropsUptoRow : OpenClaim := { program := "ytanhbpofhebbaaa", sum := "7b301220a6014c0ab3bd6921af75b06f801b4b2a3728f50d01d73eed99bd897f", func := "sluice/sluicelaw.FenceDrops", spec := "fenceDrops", unfollowed := true, recurses := true, plainKeys := false, apart := false, narrowed := true }
def FenceDropsUptoSaid : Prop := fenceDropsUptoRow.holds Try.pinned (OpenSpec.upto fenceDropsSpec)

/-- 'sluicelaw.LiveTells', WHERE WHAT IT READS IS OF BULK AT MOST 1048576: true; the input reads as it did. -/
def liveTellsUptoRow : OpenClaim := { program := "ytanhbpofhebbaaa", sum := "7b301220a6014c0ab3bd6921af75b06f801b4b2a3728f50d01d73eed99bd897f", func := "sluice/sluicelaw.LiveTells", spec := "liveTells", plainKeys := false, apart := false, narrowed := true }
def LiveTellsUptoSaid : Prop := liveTellsUptoRow.holds Try.pinned (OpenSpec.upto liveTellsSpec)

/-- 'sluicekeep.LiveEnds', WHERE WHAT IT READS IS OF BULK AT MOST 1048576: true; the input reads as it did. -/
def liveEndsUptoRow : OpenClaim := { program := "ytanhbpofhebbaaa", sum := "7b301220a6014c0ab3bd6921af75b06f801b4b2a3728f50d01d73eed99bd897f", func := "sluice/sluicekeep.LiveEnds", spec := "liveEnds", plainKeys := false, apart := false, narrowed := true }
def LiveEndsUptoSaid : Prop := liveEndsUptoRow.holds Try.pinned (OpenSpec.upto liveEndsSpec)

/-- 'sluicelaw.CopyMakes', WHERE WHAT IT READS IS OF BULK AT MOST 1048576: true; the input reads as it did. -/
def copyMakesUptoRow : OpenClaim := { program := "ytanhbpofhebbaaa", sum := "7b301220a6014c0ab3bd6921af75b06f801b4b2a3728f50d01d73eed99bd897f", func := "sluice/sluicelaw.CopyMakes", spec := "copyMakes", inPlace := ["maps.clone"], unfollowed := true, recurses := true, plainKeys := false, apart := false, narrowed := true }
def CopyMakesUptoSaid : Prop := copyMakesUptoRow.holds Try.pinned (OpenSpec.upto copyMakesSpec)

/-- 'sluicelaw.CopyHolds', WHERE WHAT IT READS IS OF BULK AT MOST 1048576: true; the input reads as it did. -/
def copyHoldsUptoRow : OpenClaim := { program := "ytanhbpofhebbaaa", sum := "7b301220a6014c0ab3bd6921af75b06f801b4b2a3728f50d01d73eed99bd897f", func := "sluice/sluicelaw.CopyHolds", spec := "copyHolds", inPlace := ["maps.clone"], unfollowed := true, recurses := true, plainKeys := false, apart := false, narrowed := true }
def CopyHoldsUptoSaid : Prop := copyHoldsUptoRow.holds Try.pinned (OpenSpec.upto copyHoldsSpec)

/-- 'sluicelaw.FenceMakes', WHERE WHAT IT READS IS OF BULK AT MOST 1048576: true; the input reads as it did. -/
def fenceMakesUptoRow : OpenClaim := { program := "ytanhbpofhebbaaa", sum := "7b301220a6014c0ab3bd6921af75b06f801b4b2a3728f50d01d73eed99bd897f", func := "sluice/sluicelaw.FenceMakes", spec := "fenceMakes", unfollowed := true, recurses := true, plainKeys := false, apart := false, narrowed := true }
def FenceMakesUptoSaid : Prop := fenceMakesUptoRow.holds Try.pinned (OpenSpec.upto fenceMakesSpec)

end Rows
end Go.Proofs.Ytanhbpofhebbaaa
