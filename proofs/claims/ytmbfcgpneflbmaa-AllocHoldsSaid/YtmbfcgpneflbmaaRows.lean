/-
  No cell of these rows narrows 'for every input' (looked for: loops, veiled, ifaces, maps, wideKeys, modest, calm, conditions, laid).
  DERIVED. THE GIVEN ROWS OF THIS SEAT. 5 by the template 'for every input the law returns true; each argument reads behind the call as it read before'; 0 by the template 'total and deterministic' (their statements: YtmbfcgpneflbmaaTotals.lean).
  GIVEN WITH THE SEED: the statements are not yours to turn. If you find one false, say at which input.
  Laid BY PROGRAM, IN A SANDBOX (cutbox-rows.mjs): the forced cells as the released guide's own fill.sh prints them over the translation c6d218b96c4757eb… (all of the seat's roots in one cut). By AI agents, Wed Nov 11 2026. No macro, syntax, notation, axiom, sorry.
-/
import Derived.Test.YtmbfcgpneflbmaaChecked
import GoSem.Claim
import GoSem.ClaimJoined
import GoSem.ClaimMapViews
import Derived.JoinedTies
import Derived.KernelRfl
namespace Go.Proofs.Ytmbfcgpneflbmaa
/- THE CELL 'sum', in the pinned program and in every row, IS THE sha256 OF THE DUMP (.gsa) THAT YtmbfcgpneflbmaaProg.lean LOADS. Nothing in Lean hashes anything: it is a label: what it is worth is what the hold of that sum in a sandbox is worth. -/
noncomputable def Try.pinned : Pinned := { name := "ytmbfcgpneflbmaa", sum := "c6d218b96c4757eb488a29c886255e026b7f1fa2d791f5ccb0cc168502ce76fe", checked := Try.checked }
namespace Rows
def none {H : Type} : Left H := { results := [], args := [] }

/-- 'sluicelaw.AllocChecks': WHATEVER THE INPUT: true; the input reads as it did. -/
def allocChecksSpec : ChangeSpec := { name := "allocChecks", fn := fun _ => fun
  | [d1, d2] => { results := [.lit (.bool true)], args := [d1, d2] }
  | _ => none }
def allocChecksRow : OpenClaim := { program := "ytmbfcgpneflbmaa", sum := "c6d218b96c4757eb488a29c886255e026b7f1fa2d791f5ccb0cc168502ce76fe", func := "sluice/sluicelaw.AllocChecks", spec := "allocChecks", unfollowed := true, recurses := true, apart := false }
def AllocChecksSaid : Prop := allocChecksRow.holds Try.pinned (OpenSpec.ofChange allocChecksSpec)

/-- ITS FALSE NEIGHBOUR: 'it returns false'. Refute it at one input. -/
def allocChecksWrong : ChangeSpec := { name := "allocChecks", fn := fun _ => fun
  | [d1, d2] => { results := [.lit (.bool false)], args := [d1, d2] }
  | _ => none }
def AllocChecksWrongFalsely : Prop := allocChecksRow.holds Try.pinned (OpenSpec.ofChange allocChecksWrong)

/-- 'sluicelaw.AllocHolds': WHATEVER THE INPUT: true; the input reads as it did. -/
def allocHoldsSpec : ChangeSpec := { name := "allocHolds", fn := fun _ => fun
  | [d1, d2] => { results := [.lit (.bool true)], args := [d1, d2] }
  | _ => none }
def allocHoldsRow : OpenClaim := { program := "ytmbfcgpneflbmaa", sum := "c6d218b96c4757eb488a29c886255e026b7f1fa2d791f5ccb0cc168502ce76fe", func := "sluice/sluicelaw.AllocHolds", spec := "allocHolds", unfollowed := true, recurses := true, apart := false }
def AllocHoldsSaid : Prop := allocHoldsRow.holds Try.pinned (OpenSpec.ofChange allocHoldsSpec)

/-- ITS FALSE NEIGHBOUR: 'it returns false'. Refute it at one input. -/
def allocHoldsWrong : ChangeSpec := { name := "allocHolds", fn := fun _ => fun
  | [d1, d2] => { results := [.lit (.bool false)], args := [d1, d2] }
  | _ => none }
def AllocHoldsWrongFalsely : Prop := allocHoldsRow.holds Try.pinned (OpenSpec.ofChange allocHoldsWrong)

/-- 'sluicelaw.OrderHolds': WHATEVER THE INPUT: true; the input reads as it did. -/
def orderHoldsSpec : ChangeSpec := { name := "orderHolds", fn := fun _ => fun
  | [d] => { results := [.lit (.bool true)], args := [d] }
  | _ => none }
def orderHoldsRow : OpenClaim := { program := "ytmbfcgpneflbmaa", sum := "c6d218b96c4757eb488a29c886255e026b7f1fa2d791f5ccb0cc168502ce76fe", func := "sluice/sluicelaw.OrderHolds", spec := "orderHolds", unfollowed := true, recurses := true, apart := false }
def OrderHoldsSaid : Prop := orderHoldsRow.holds Try.pinned (OpenSpec.ofChange orderHoldsSpec)

/-- ITS FALSE NEIGHBOUR: 'it returns false'. Refute it at one input. -/
def orderHoldsWrong : ChangeSpec := { name := "orderHolds", fn := fun _ => fun
  | [d] => { results := [.lit (.bool false)], args := [d] }
  | _ => none }
def OrderHoldsWrongFalsely : Prop := orderHoldsRow.holds Try.pinned (OpenSpec.ofChange orderHoldsWrong)

/-- 'sluicekeep.OrderEdges': WHATEVER THE INPUT: true; the input reads as it did. -/
def orderEdgesSpec : ChangeSpec := { name := "orderEdges", fn := fun _ => fun
  | [d] => { results := [.lit (.bool true)], args := [d] }
  | _ => none }
def orderEdgesRow : OpenClaim := { program := "ytmbfcgpneflbmaa", sum := "c6d218b96c4757eb488a29c886255e026b7f1fa2d791f5ccb0cc168502ce76fe", func := "sluice/sluicekeep.OrderEdges", spec := "orderEdges", unfollowed := true, recurses := true, apart := false }
def OrderEdgesSaid : Prop := orderEdgesRow.holds Try.pinned (OpenSpec.ofChange orderEdgesSpec)

/-- ITS FALSE NEIGHBOUR: 'it returns false'. Refute it at one input. -/
def orderEdgesWrong : ChangeSpec := { name := "orderEdges", fn := fun _ => fun
  | [d] => { results := [.lit (.bool false)], args := [d] }
  | _ => none }
def OrderEdgesWrongFalsely : Prop := orderEdgesRow.holds Try.pinned (OpenSpec.ofChange orderEdgesWrong)

/-- 'sluicelaw.OrderTells': WHATEVER THE INPUT: true; the input reads as it did. -/
def orderTellsSpec : ChangeSpec := { name := "orderTells", fn := fun _ => fun
  | [d] => { results := [.lit (.bool true)], args := [d] }
  | _ => none }
def orderTellsRow : OpenClaim := { program := "ytmbfcgpneflbmaa", sum := "c6d218b96c4757eb488a29c886255e026b7f1fa2d791f5ccb0cc168502ce76fe", func := "sluice/sluicelaw.OrderTells", spec := "orderTells", unfollowed := true, recurses := true, apart := false }
def OrderTellsSaid : Prop := orderTellsRow.holds Try.pinned (OpenSpec.ofChange orderTellsSpec)

/-- ITS FALSE NEIGHBOUR: 'it returns false'. Refute it at one input. -/
def orderTellsWrong : ChangeSpec := { name := "orderTells", fn := fun _ => fun
  | [d] => { results := [.lit (.bool false)], args := [d] }
  | _ => none }
def OrderTellsWrongFalsely : Prop := orderTellsRow.holds Try.pinned (OpenSpec.ofChange orderTellsWrong)

/- THE SECOND FORM. 'bulk': how many values and letters a reading holds, each counted each time it is reached (what is shared counts as often as it is met; a slice's spare places count too). A statement '..UptoSaid' is the law's where the arguments, and the package variables that the reading takes, are together of bulk at most 1048576: NARROWER than '..Said'. Prove '..Said' where nothing that the law and all that it calls make is longer than what came in: it says more and counts as full. Else prove '..UptoSaid'. A law counts once. -/
mutual
def uptoBulk {H : Type} : DataW H → Nat
  | .lit (.string bytes) => bytes.length + 1
  | .lit _ => 1
  | .nil => 1
  | .ptr d => uptoBulk d + 1
  | .slice elems spare => uptoBulkAll elems + uptoBulkAll spare + 1
  | .agg parts => uptoBulkAll parts + 1
  | .iface _ d => uptoBulk d + 1
  | .map entries => uptoBulkEntries entries + 1
  | .held _ => 1
def uptoBulkAll {H : Type} : List (DataW H) → Nat
  | [] => 0
  | d :: r => uptoBulk d + uptoBulkAll r
def uptoBulkEntries {H : Type} : List (Lit × DataW H) → Nat
  | [] => 0
  | x :: r => uptoBulkEntry x + uptoBulkEntries r
def uptoBulkEntry {H : Type} : Lit × DataW H → Nat
  | (.string bytes, d) => bytes.length + uptoBulk d + 1
  | (_, d) => uptoBulk d + 1
 end
def uptoSmall : (H : Type) → List (DataW H) → Bool := fun _ ds => decide (uptoBulkAll ds ≤ 1048576)
def OpenSpec.upto (s : _root_.Go.ChangeSpec) : _root_.Go.OpenSpec := { _root_.Go.OpenSpec.ofChange s with cond := some uptoSmall }

/-- 'sluicelaw.AllocChecks', WHERE WHAT IT READS IS OF BULK AT MOST 1048576: true; the input reads as it did. -/
def allocChecksUptoRow : OpenClaim := { program := "ytmbfcgpneflbmaa", sum := "c6d218b96c4757eb488a29c886255e026b7f1fa2d791f5ccb0cc168502ce76fe", func := "sluice/sluicelaw.AllocChecks", spec := "allocChecks", unfollowed := true, recurses := true, apart := false, narrowed := true }
def AllocChecksUptoSaid : Prop := allocChecksUptoRow.holds Try.pinned (OpenSpec.upto allocChecksSpec)

/-- 'sluicelaw.AllocHolds', WHERE WHAT IT READS IS OF BULK AT MOST 1048576: true; the input reads as it did. -/
def allocHoldsUptoRow : OpenClaim := { program := "ytmbfcgpneflbmaa", sum := "c6d218b96c4757eb488a29c886255e026b7f1fa2d791f5ccb0cc168502ce76fe", func := "sluice/sluicelaw.AllocHolds", spec := "allocHolds", unfollowed := true, recurses := true, apart := false, narrowed := true }
def AllocHoldsUptoSaid : Prop := allocHoldsUptoRow.holds Try.pinned (OpenSpec.upto allocHoldsSpec)

/-- 'sluicelaw.OrderHolds', WHERE WHAT IT READS IS OF BULK AT MOST 1048576: true; the input reads as it did. -/
def orderHoldsUptoRow : OpenClaim := { program := "ytmbfcgpneflbmaa", sum := "c6d218b96c4757eb488a29c886255e026b7f1fa2d791f5ccb0cc168502ce76fe", func := "sluice/sluicelaw.OrderHolds", spec := "orderHolds", unfollowed := true, recurses := true, apart := false, narrowed := true }
def OrderHoldsUptoSaid : Prop := orderHoldsUptoRow.holds Try.pinned (OpenSpec.upto orderHoldsSpec)

/-- 'sluicekeep.OrderEdges', WHERE WHAT IT READS IS OF BULK AT MOST 1048576: true; the input reads as it did. -/
def orderEdgesUptoRow : OpenClaim := { program := "ytmbfcgpneflbmaa", sum := "c6d218b96c4757eb488a29c886255e026b7f1fa2d791f5ccb0cc168502ce76fe", func := "sluice/sluicekeep.OrderEdges", spec := "orderEdges", unfollowed := true, recurses := true, apart := false, narrowed := true }
def OrderEdgesUptoSaid : Prop := orderEdgesUptoRow.holds Try.pinned (OpenSpec.upto orderEdgesSpec)

/-- 'sluicelaw.OrderTells', WHERE WHAT IT READS IS OF BULK AT MOST 1048576: true; the input reads as it did. -/
def orderTellsUptoRow : OpenClaim := { program := "ytmbfcgpneflbmaa", sum := "c6d218b96c4757eb488a29c886255e026b7f1fa2d791f5ccb0cc168502ce76fe", func := "sluice/sluicelaw.OrderTells", spec := "orderTells", unfollowed := true, recurses := true, apart := false, narrowed := true }
def OrderTellsUptoSaid : Prop := orderTellsUptoRow.holds Try.pinned (OpenSpec.upto orderTellsSpec)

end Rows
end Go.Proofs.Ytmbfcgpneflbmaa
