/-
  NARROWER THAN 'FOR EVERY INPUT', by the rows' own cells (each row's printed sentence says how): TopSpun: laid · TopFree: laid · TopFenced: laid · PsoOutcomes: laid · SpaceSC: laid · SpaceTSO: laid · RaceFinds: laid · RaceFree: laid · PsoMore: laid · PsoFree: laid · SpaceRuns: laid · FenceFewest: laid · FenceEnough: laid.
  DERIVED. THE GIVEN ROWS OF THIS SEAT. 13 by the template 'for every input the law returns true; each argument reads behind the call as it read before'; 0 by the template 'total and deterministic' (their statements: YtmjkobhkkjgplaaGreatDoorTotals.lean).
  GIVEN WITH THE SEED: the statements are not yours to turn. If you find one false, say at which input.
  Laid BY PROGRAM, IN A SANDBOX (cutbox-rows.mjs): the forced cells as the released guide's own fill.sh prints them over the translation 132c34b805f7ddc6… (all of the seat's roots in one cut). By AI agents, Wed Nov 11 2026. No macro, syntax, notation, axiom, sorry.
-/
import Derived.Test.YtmjkobhkkjgplaaGreatDoorChecked
import GoSem.Claim
import GoSem.ClaimJoined
import GoSem.ClaimMapViews
import Derived.JoinedTies
import Derived.KernelRfl
namespace Go.Proofs.YtmjkobhkkjgplaaGreatDoor
/- THE CELL 'sum', in the pinned program and in every row, IS THE sha256 OF THE DUMP (.gsa) THAT YtmjkobhkkjgplaaGreatDoorProg.lean LOADS. Nothing in Lean hashes anything: it is a label: what it is worth is what the hold of that sum in a sandbox is worth. -/
noncomputable def Tryz.pinned : Pinned := { name := "ytmjkobhkkjgplaagreatdoor", sum := "132c34b805f7ddc6871d81ea3649fdc876b50dd229ad9225fa8534e7107313dd", checked := Tryz.checked }
namespace Rows
def none {H : Type} : Left H := { results := [], args := [] }

/- WHAT THE LISTED PACKAGE-LEVEL VARIABLES READ AS WHEN THE CALL BEGINS. Each datum BY PROGRAM (the guide's laid-datum.mjs) off the statement by which the dump's own 'gosem.cut.vars' lays the variable. In a bare row this is a premise. The card (YtmjkobhkkjgplaaGreatDoorCards.lean) ties it to the program's text. -/
def laid_math_bits_deBruijn32tab {H : Type} : DataW H := .agg [.lit (.int .u8 0), .lit (.int .u8 1), .lit (.int .u8 28), .lit (.int .u8 2), .lit (.int .u8 29), .lit (.int .u8 14), .lit (.int .u8 24), .lit (.int .u8 3), .lit (.int .u8 30), .lit (.int .u8 22), .lit (.int .u8 20), .lit (.int .u8 15), .lit (.int .u8 25), .lit (.int .u8 17), .lit (.int .u8 4), .lit (.int .u8 8), .lit (.int .u8 31), .lit (.int .u8 27), .lit (.int .u8 13), .lit (.int .u8 23), .lit (.int .u8 21), .lit (.int .u8 19), .lit (.int .u8 16), .lit (.int .u8 7), .lit (.int .u8 26), .lit (.int .u8 12), .lit (.int .u8 18), .lit (.int .u8 6), .lit (.int .u8 11), .lit (.int .u8 5), .lit (.int .u8 10), .lit (.int .u8 9)]
def laid_math_bits_deBruijn64tab {H : Type} : DataW H := .agg [.lit (.int .u8 0), .lit (.int .u8 1), .lit (.int .u8 56), .lit (.int .u8 2), .lit (.int .u8 57), .lit (.int .u8 49), .lit (.int .u8 28), .lit (.int .u8 3), .lit (.int .u8 61), .lit (.int .u8 58), .lit (.int .u8 42), .lit (.int .u8 50), .lit (.int .u8 38), .lit (.int .u8 29), .lit (.int .u8 17), .lit (.int .u8 4), .lit (.int .u8 62), .lit (.int .u8 47), .lit (.int .u8 59), .lit (.int .u8 36), .lit (.int .u8 45), .lit (.int .u8 43), .lit (.int .u8 51), .lit (.int .u8 22), .lit (.int .u8 53), .lit (.int .u8 39), .lit (.int .u8 33), .lit (.int .u8 30), .lit (.int .u8 24), .lit (.int .u8 18), .lit (.int .u8 12), .lit (.int .u8 5), .lit (.int .u8 63), .lit (.int .u8 55), .lit (.int .u8 48), .lit (.int .u8 27), .lit (.int .u8 60), .lit (.int .u8 41), .lit (.int .u8 37), .lit (.int .u8 16), .lit (.int .u8 46), .lit (.int .u8 35), .lit (.int .u8 44), .lit (.int .u8 21), .lit (.int .u8 52), .lit (.int .u8 32), .lit (.int .u8 23), .lit (.int .u8 11), .lit (.int .u8 54), .lit (.int .u8 26), .lit (.int .u8 40), .lit (.int .u8 15), .lit (.int .u8 34), .lit (.int .u8 20), .lit (.int .u8 31), .lit (.int .u8 10), .lit (.int .u8 25), .lit (.int .u8 14), .lit (.int .u8 19), .lit (.int .u8 9), .lit (.int .u8 13), .lit (.int .u8 8), .lit (.int .u8 7), .lit (.int .u8 6)]
def laid_internal_strconv_uint64pow10 {H : Type} : DataW H := .agg [.lit (.int .u64 1), .lit (.int .u64 10), .lit (.int .u64 100), .lit (.int .u64 1000), .lit (.int .u64 10000), .lit (.int .u64 100000), .lit (.int .u64 1000000), .lit (.int .u64 10000000), .lit (.int .u64 100000000), .lit (.int .u64 1000000000), .lit (.int .u64 10000000000), .lit (.int .u64 100000000000), .lit (.int .u64 1000000000000), .lit (.int .u64 10000000000000), .lit (.int .u64 100000000000000), .lit (.int .u64 1000000000000000), .lit (.int .u64 10000000000000000), .lit (.int .u64 100000000000000000), .lit (.int .u64 1000000000000000000), .lit (.int .u64 10000000000000000000)]

/-- 'sluicetop.TopSpun': WHATEVER THE INPUT: true; the input reads as it did. -/
def topSpunSpec : ChangeSpec := { name := "topSpun", fn := fun _ => fun
  | [d] => { results := [.lit (.bool true)], args := [d] }
  | _ => none }
def topSpunRow : OpenClaim := { program := "ytmjkobhkkjgplaagreatdoor", sum := "132c34b805f7ddc6871d81ea3649fdc876b50dd229ad9225fa8534e7107313dd", func := "sluice/sluicetop.TopSpun", spec := "topSpun", unfollowed := true, recurses := true, named := ["internal/strconv.uint64pow10", "math/bits.deBruijn32tab", "math/bits.deBruijn64tab"], plainKeys := false, apart := false, laid := [("math/bits.deBruijn32tab", laid_math_bits_deBruijn32tab), ("math/bits.deBruijn64tab", laid_math_bits_deBruijn64tab), ("internal/strconv.uint64pow10", laid_internal_strconv_uint64pow10)] }
def TopSpunSaid : Prop := topSpunRow.holds Tryz.pinned (OpenSpec.ofChange topSpunSpec)

/-- ITS FALSE NEIGHBOUR: 'it returns false'. Refute it at one input. -/
def topSpunWrong : ChangeSpec := { name := "topSpun", fn := fun _ => fun
  | [d] => { results := [.lit (.bool false)], args := [d] }
  | _ => none }
def TopSpunWrongFalsely : Prop := topSpunRow.holds Tryz.pinned (OpenSpec.ofChange topSpunWrong)

/-- 'sluicetop.TopFree': WHATEVER THE INPUT: true; the input reads as it did. -/
def topFreeSpec : ChangeSpec := { name := "topFree", fn := fun _ => fun
  | [d] => { results := [.lit (.bool true)], args := [d] }
  | _ => none }
def topFreeRow : OpenClaim := { program := "ytmjkobhkkjgplaagreatdoor", sum := "132c34b805f7ddc6871d81ea3649fdc876b50dd229ad9225fa8534e7107313dd", func := "sluice/sluicetop.TopFree", spec := "topFree", unfollowed := true, recurses := true, named := ["internal/strconv.uint64pow10", "math/bits.deBruijn32tab", "math/bits.deBruijn64tab"], plainKeys := false, apart := false, laid := [("math/bits.deBruijn32tab", laid_math_bits_deBruijn32tab), ("math/bits.deBruijn64tab", laid_math_bits_deBruijn64tab), ("internal/strconv.uint64pow10", laid_internal_strconv_uint64pow10)] }
def TopFreeSaid : Prop := topFreeRow.holds Tryz.pinned (OpenSpec.ofChange topFreeSpec)

/-- ITS FALSE NEIGHBOUR: 'it returns false'. Refute it at one input. -/
def topFreeWrong : ChangeSpec := { name := "topFree", fn := fun _ => fun
  | [d] => { results := [.lit (.bool false)], args := [d] }
  | _ => none }
def TopFreeWrongFalsely : Prop := topFreeRow.holds Tryz.pinned (OpenSpec.ofChange topFreeWrong)

/-- 'sluicetop.TopFenced': WHATEVER THE INPUT: true; the input reads as it did. -/
def topFencedSpec : ChangeSpec := { name := "topFenced", fn := fun _ => fun
  | [d] => { results := [.lit (.bool true)], args := [d] }
  | _ => none }
def topFencedRow : OpenClaim := { program := "ytmjkobhkkjgplaagreatdoor", sum := "132c34b805f7ddc6871d81ea3649fdc876b50dd229ad9225fa8534e7107313dd", func := "sluice/sluicetop.TopFenced", spec := "topFenced", unfollowed := true, recurses := true, named := ["internal/strconv.uint64pow10", "math/bits.deBruijn32tab", "math/bits.deBruijn64tab"], plainKeys := false, apart := false, laid := [("math/bits.deBruijn32tab", laid_math_bits_deBruijn32tab), ("math/bits.deBruijn64tab", laid_math_bits_deBruijn64tab), ("internal/strconv.uint64pow10", laid_internal_strconv_uint64pow10)] }
def TopFencedSaid : Prop := topFencedRow.holds Tryz.pinned (OpenSpec.ofChange topFencedSpec)

/-- ITS FALSE NEIGHBOUR: 'it returns false'. Refute it at one input. -/
def topFencedWrong : ChangeSpec := { name := "topFenced", fn := fun _ => fun
  | [d] => { results := [.lit (.bool false)], args := [d] }
  | _ => none }
def TopFencedWrongFalsely : Prop := topFencedRow.holds Tryz.pinned (OpenSpec.ofChange topFencedWrong)

/-- 'sluicelaw.PsoOutcomes': WHATEVER THE INPUT: true; the input reads as it did. -/
def psoOutcomesSpec : ChangeSpec := { name := "psoOutcomes", fn := fun _ => fun
  | [d] => { results := [.lit (.bool true)], args := [d] }
  | _ => none }
def psoOutcomesRow : OpenClaim := { program := "ytmjkobhkkjgplaagreatdoor", sum := "132c34b805f7ddc6871d81ea3649fdc876b50dd229ad9225fa8534e7107313dd", func := "sluice/sluicelaw.PsoOutcomes", spec := "psoOutcomes", unfollowed := true, recurses := true, named := ["internal/strconv.uint64pow10", "math/bits.deBruijn32tab", "math/bits.deBruijn64tab"], plainKeys := false, apart := false, laid := [("math/bits.deBruijn32tab", laid_math_bits_deBruijn32tab), ("math/bits.deBruijn64tab", laid_math_bits_deBruijn64tab), ("internal/strconv.uint64pow10", laid_internal_strconv_uint64pow10)] }
def PsoOutcomesSaid : Prop := psoOutcomesRow.holds Tryz.pinned (OpenSpec.ofChange psoOutcomesSpec)

/-- ITS FALSE NEIGHBOUR: 'it returns false'. Refute it at one input. -/
def psoOutcomesWrong : ChangeSpec := { name := "psoOutcomes", fn := fun _ => fun
  | [d] => { results := [.lit (.bool false)], args := [d] }
  | _ => none }
def PsoOutcomesWrongFalsely : Prop := psoOutcomesRow.holds Tryz.pinned (OpenSpec.ofChange psoOutcomesWrong)

/-- 'sluicelaw.SpaceSC': WHATEVER THE INPUT: true; the input reads as it did. -/
def spaceSCSpec : ChangeSpec := { name := "spaceSC", fn := fun _ => fun
  | [d] => { results := [.lit (.bool true)], args := [d] }
  | _ => none }
def spaceSCRow : OpenClaim := { program := "ytmjkobhkkjgplaagreatdoor", sum := "132c34b805f7ddc6871d81ea3649fdc876b50dd229ad9225fa8534e7107313dd", func := "sluice/sluicelaw.SpaceSC", spec := "spaceSC", unfollowed := true, recurses := true, named := ["internal/strconv.uint64pow10", "math/bits.deBruijn32tab", "math/bits.deBruijn64tab"], plainKeys := false, apart := false, laid := [("math/bits.deBruijn32tab", laid_math_bits_deBruijn32tab), ("math/bits.deBruijn64tab", laid_math_bits_deBruijn64tab), ("internal/strconv.uint64pow10", laid_internal_strconv_uint64pow10)] }
def SpaceSCSaid : Prop := spaceSCRow.holds Tryz.pinned (OpenSpec.ofChange spaceSCSpec)

/-- ITS FALSE NEIGHBOUR: 'it returns false'. Refute it at one input. -/
def spaceSCWrong : ChangeSpec := { name := "spaceSC", fn := fun _ => fun
  | [d] => { results := [.lit (.bool false)], args := [d] }
  | _ => none }
def SpaceSCWrongFalsely : Prop := spaceSCRow.holds Tryz.pinned (OpenSpec.ofChange spaceSCWrong)

/-- 'sluicelaw.SpaceTSO': WHATEVER THE INPUT: true; the input reads as it did. -/
def spaceTSOSpec : ChangeSpec := { name := "spaceTSO", fn := fun _ => fun
  | [d] => { results := [.lit (.bool true)], args := [d] }
  | _ => none }
def spaceTSORow : OpenClaim := { program := "ytmjkobhkkjgplaagreatdoor", sum := "132c34b805f7ddc6871d81ea3649fdc876b50dd229ad9225fa8534e7107313dd", func := "sluice/sluicelaw.SpaceTSO", spec := "spaceTSO", unfollowed := true, recurses := true, named := ["internal/strconv.uint64pow10", "math/bits.deBruijn32tab", "math/bits.deBruijn64tab"], plainKeys := false, apart := false, laid := [("math/bits.deBruijn32tab", laid_math_bits_deBruijn32tab), ("math/bits.deBruijn64tab", laid_math_bits_deBruijn64tab), ("internal/strconv.uint64pow10", laid_internal_strconv_uint64pow10)] }
def SpaceTSOSaid : Prop := spaceTSORow.holds Tryz.pinned (OpenSpec.ofChange spaceTSOSpec)

/-- ITS FALSE NEIGHBOUR: 'it returns false'. Refute it at one input. -/
def spaceTSOWrong : ChangeSpec := { name := "spaceTSO", fn := fun _ => fun
  | [d] => { results := [.lit (.bool false)], args := [d] }
  | _ => none }
def SpaceTSOWrongFalsely : Prop := spaceTSORow.holds Tryz.pinned (OpenSpec.ofChange spaceTSOWrong)

/-- 'sluicelaw.RaceFinds': WHATEVER THE INPUT: true; the input reads as it did. -/
def raceFindsSpec : ChangeSpec := { name := "raceFinds", fn := fun _ => fun
  | [d] => { results := [.lit (.bool true)], args := [d] }
  | _ => none }
def raceFindsRow : OpenClaim := { program := "ytmjkobhkkjgplaagreatdoor", sum := "132c34b805f7ddc6871d81ea3649fdc876b50dd229ad9225fa8534e7107313dd", func := "sluice/sluicelaw.RaceFinds", spec := "raceFinds", unfollowed := true, recurses := true, named := ["internal/strconv.uint64pow10", "math/bits.deBruijn32tab", "math/bits.deBruijn64tab"], plainKeys := false, apart := false, laid := [("math/bits.deBruijn32tab", laid_math_bits_deBruijn32tab), ("math/bits.deBruijn64tab", laid_math_bits_deBruijn64tab), ("internal/strconv.uint64pow10", laid_internal_strconv_uint64pow10)] }
def RaceFindsSaid : Prop := raceFindsRow.holds Tryz.pinned (OpenSpec.ofChange raceFindsSpec)

/-- ITS FALSE NEIGHBOUR: 'it returns false'. Refute it at one input. -/
def raceFindsWrong : ChangeSpec := { name := "raceFinds", fn := fun _ => fun
  | [d] => { results := [.lit (.bool false)], args := [d] }
  | _ => none }
def RaceFindsWrongFalsely : Prop := raceFindsRow.holds Tryz.pinned (OpenSpec.ofChange raceFindsWrong)

/-- 'sluicelaw.RaceFree': WHATEVER THE INPUT: true; the input reads as it did. -/
def raceFreeSpec : ChangeSpec := { name := "raceFree", fn := fun _ => fun
  | [d] => { results := [.lit (.bool true)], args := [d] }
  | _ => none }
def raceFreeRow : OpenClaim := { program := "ytmjkobhkkjgplaagreatdoor", sum := "132c34b805f7ddc6871d81ea3649fdc876b50dd229ad9225fa8534e7107313dd", func := "sluice/sluicelaw.RaceFree", spec := "raceFree", unfollowed := true, recurses := true, named := ["internal/strconv.uint64pow10", "math/bits.deBruijn32tab", "math/bits.deBruijn64tab"], plainKeys := false, apart := false, laid := [("math/bits.deBruijn32tab", laid_math_bits_deBruijn32tab), ("math/bits.deBruijn64tab", laid_math_bits_deBruijn64tab), ("internal/strconv.uint64pow10", laid_internal_strconv_uint64pow10)] }
def RaceFreeSaid : Prop := raceFreeRow.holds Tryz.pinned (OpenSpec.ofChange raceFreeSpec)

/-- ITS FALSE NEIGHBOUR: 'it returns false'. Refute it at one input. -/
def raceFreeWrong : ChangeSpec := { name := "raceFree", fn := fun _ => fun
  | [d] => { results := [.lit (.bool false)], args := [d] }
  | _ => none }
def RaceFreeWrongFalsely : Prop := raceFreeRow.holds Tryz.pinned (OpenSpec.ofChange raceFreeWrong)

/-- 'sluicekeep.PsoMore': WHATEVER THE INPUT: true; the input reads as it did. -/
def psoMoreSpec : ChangeSpec := { name := "psoMore", fn := fun _ => fun
  | [d1, d2] => { results := [.lit (.bool true)], args := [d1, d2] }
  | _ => none }
def psoMoreRow : OpenClaim := { program := "ytmjkobhkkjgplaagreatdoor", sum := "132c34b805f7ddc6871d81ea3649fdc876b50dd229ad9225fa8534e7107313dd", func := "sluice/sluicekeep.PsoMore", spec := "psoMore", unfollowed := true, recurses := true, named := ["internal/strconv.uint64pow10", "math/bits.deBruijn32tab", "math/bits.deBruijn64tab"], plainKeys := false, apart := false, laid := [("math/bits.deBruijn32tab", laid_math_bits_deBruijn32tab), ("math/bits.deBruijn64tab", laid_math_bits_deBruijn64tab), ("internal/strconv.uint64pow10", laid_internal_strconv_uint64pow10)] }
def PsoMoreSaid : Prop := psoMoreRow.holds Tryz.pinned (OpenSpec.ofChange psoMoreSpec)

/-- ITS FALSE NEIGHBOUR: 'it returns false'. Refute it at one input. -/
def psoMoreWrong : ChangeSpec := { name := "psoMore", fn := fun _ => fun
  | [d1, d2] => { results := [.lit (.bool false)], args := [d1, d2] }
  | _ => none }
def PsoMoreWrongFalsely : Prop := psoMoreRow.holds Tryz.pinned (OpenSpec.ofChange psoMoreWrong)

/-- 'sluicelaw.PsoFree': WHATEVER THE INPUT: true; the input reads as it did. -/
def psoFreeSpec : ChangeSpec := { name := "psoFree", fn := fun _ => fun
  | [d] => { results := [.lit (.bool true)], args := [d] }
  | _ => none }
def psoFreeRow : OpenClaim := { program := "ytmjkobhkkjgplaagreatdoor", sum := "132c34b805f7ddc6871d81ea3649fdc876b50dd229ad9225fa8534e7107313dd", func := "sluice/sluicelaw.PsoFree", spec := "psoFree", unfollowed := true, recurses := true, named := ["internal/strconv.uint64pow10", "math/bits.deBruijn32tab", "math/bits.deBruijn64tab"], plainKeys := false, apart := false, laid := [("math/bits.deBruijn32tab", laid_math_bits_deBruijn32tab), ("math/bits.deBruijn64tab", laid_math_bits_deBruijn64tab), ("internal/strconv.uint64pow10", laid_internal_strconv_uint64pow10)] }
def PsoFreeSaid : Prop := psoFreeRow.holds Tryz.pinned (OpenSpec.ofChange psoFreeSpec)

/-- ITS FALSE NEIGHBOUR: 'it returns false'. Refute it at one input. -/
def psoFreeWrong : ChangeSpec := { name := "psoFree", fn := fun _ => fun
  | [d] => { results := [.lit (.bool false)], args := [d] }
  | _ => none }
def PsoFreeWrongFalsely : Prop := psoFreeRow.holds Tryz.pinned (OpenSpec.ofChange psoFreeWrong)

/-- 'sluicekeep.SpaceRuns': WHATEVER THE INPUT: true; the input reads as it did. -/
def spaceRunsSpec : ChangeSpec := { name := "spaceRuns", fn := fun _ => fun
  | [d1, d2] => { results := [.lit (.bool true)], args := [d1, d2] }
  | _ => none }
def spaceRunsRow : OpenClaim := { program := "ytmjkobhkkjgplaagreatdoor", sum := "132c34b805f7ddc6871d81ea3649fdc876b50dd229ad9225fa8534e7107313dd", func := "sluice/sluicekeep.SpaceRuns", spec := "spaceRuns", unfollowed := true, recurses := true, named := ["internal/strconv.uint64pow10", "math/bits.deBruijn32tab", "math/bits.deBruijn64tab"], plainKeys := false, apart := false, laid := [("math/bits.deBruijn32tab", laid_math_bits_deBruijn32tab), ("math/bits.deBruijn64tab", laid_math_bits_deBruijn64tab), ("internal/strconv.uint64pow10", laid_internal_strconv_uint64pow10)] }
def SpaceRunsSaid : Prop := spaceRunsRow.holds Tryz.pinned (OpenSpec.ofChange spaceRunsSpec)

/-- ITS FALSE NEIGHBOUR: 'it returns false'. Refute it at one input. -/
def spaceRunsWrong : ChangeSpec := { name := "spaceRuns", fn := fun _ => fun
  | [d1, d2] => { results := [.lit (.bool false)], args := [d1, d2] }
  | _ => none }
def SpaceRunsWrongFalsely : Prop := spaceRunsRow.holds Tryz.pinned (OpenSpec.ofChange spaceRunsWrong)

/-- 'sluicelaw.FenceFewest': WHATEVER THE INPUT: true; the input reads as it did. -/
def fenceFewestSpec : ChangeSpec := { name := "fenceFewest", fn := fun _ => fun
  | [d] => { results := [.lit (.bool true)], args := [d] }
  | _ => none }
def fenceFewestRow : OpenClaim := { program := "ytmjkobhkkjgplaagreatdoor", sum := "132c34b805f7ddc6871d81ea3649fdc876b50dd229ad9225fa8534e7107313dd", func := "sluice/sluicelaw.FenceFewest", spec := "fenceFewest", unfollowed := true, recurses := true, named := ["internal/strconv.uint64pow10", "math/bits.deBruijn32tab", "math/bits.deBruijn64tab"], plainKeys := false, apart := false, laid := [("math/bits.deBruijn32tab", laid_math_bits_deBruijn32tab), ("math/bits.deBruijn64tab", laid_math_bits_deBruijn64tab), ("internal/strconv.uint64pow10", laid_internal_strconv_uint64pow10)] }
def FenceFewestSaid : Prop := fenceFewestRow.holds Tryz.pinned (OpenSpec.ofChange fenceFewestSpec)

/-- ITS FALSE NEIGHBOUR: 'it returns false'. Refute it at one input. -/
def fenceFewestWrong : ChangeSpec := { name := "fenceFewest", fn := fun _ => fun
  | [d] => { results := [.lit (.bool false)], args := [d] }
  | _ => none }
def FenceFewestWrongFalsely : Prop := fenceFewestRow.holds Tryz.pinned (OpenSpec.ofChange fenceFewestWrong)

/-- 'sluicekeep.FenceEnough': WHATEVER THE INPUT: true; the input reads as it did. -/
def fenceEnoughSpec : ChangeSpec := { name := "fenceEnough", fn := fun _ => fun
  | [d] => { results := [.lit (.bool true)], args := [d] }
  | _ => none }
def fenceEnoughRow : OpenClaim := { program := "ytmjkobhkkjgplaagreatdoor", sum := "132c34b805f7ddc6871d81ea3649fdc876b50dd229ad9225fa8534e7107313dd", func := "sluice/sluicekeep.FenceEnough", spec := "fenceEnough", unfollowed := true, recurses := true, named := ["internal/strconv.uint64pow10", "math/bits.deBruijn32tab", "math/bits.deBruijn64tab"], plainKeys := false, apart := false, laid := [("math/bits.deBruijn32tab", laid_math_bits_deBruijn32tab), ("math/bits.deBruijn64tab", laid_math_bits_deBruijn64tab), ("internal/strconv.uint64pow10", laid_internal_strconv_uint64pow10)] }
def FenceEnoughSaid : Prop := fenceEnoughRow.holds Tryz.pinned (OpenSpec.ofChange fenceEnoughSpec)

/-- ITS FALSE NEIGHBOUR: 'it returns false'. Refute it at one input. -/
def fenceEnoughWrong : ChangeSpec := { name := "fenceEnough", fn := fun _ => fun
  | [d] => { results := [.lit (.bool false)], args := [d] }
  | _ => none }
def FenceEnoughWrongFalsely : Prop := fenceEnoughRow.holds Tryz.pinned (OpenSpec.ofChange fenceEnoughWrong)

/- THE SECOND FORM. 'bulk': how many values and letters a reading holds, each counted each time it is reached (what is shared counts as often as it is met; a slice's spare places count too). A statement '..UptoSaid' is the law's where the arguments, and the package variables that the reading takes, are together of bulk at most 1048576: NARROWER than '..Said'. Prove '..Said' where nothing that the law and all that it calls make is longer than what came in: it says more and counts as full. Else prove '..UptoSaid'. A law counts once. -/
mutual
def uptoBulk {H : Type} : DataW H → Nat
  | .lit (.string bytes) => bytes.length + 1
  | .lit _ => 1
  | .nil => 1
  | .ptr d => uptoBulk d + 1
  | .slice elems spare => uptoBulkAll elems + uptoBulkAll spare + 1
  | .agg parts => uptoBulkAll parts + 1
  | .iface _ d => uptoBulk d + 1
  | .map entries => uptoBulkEntries entries + 1
  | .held _ => 1
def uptoBulkAll {H : Type} : List (DataW H) → Nat
  | [] => 0
  | d :: r => uptoBulk d + uptoBulkAll r
def uptoBulkEntries {H : Type} : List (Lit × DataW H) → Nat
  | [] => 0
  | x :: r => uptoBulkEntry x + uptoBulkEntries r
def uptoBulkEntry {H : Type} : Lit × DataW H → Nat
  | (.string bytes, d) => bytes.length + uptoBulk d + 1
  | (_, d) => uptoBulk d + 1
 end
def uptoSmall : (H : Type) → List (DataW H) → Bool := fun _ ds => decide (uptoBulkAll ds ≤ 1048576)
def OpenSpec.upto (s : _root_.Go.ChangeSpec) : _root_.Go.OpenSpec := { _root_.Go.OpenSpec.ofChange s with cond := some uptoSmall }

/-- 'sluicetop.TopSpun', WHERE WHAT IT READS IS OF BULK AT MOST 1048576: true; the input reads as it did. -/
def topSpunUptoRow : OpenClaim := { program := "ytmjkobhkkjgplaagreatdoor", sum := "132c34b805f7ddc6871d81ea3649fdc876b50dd229ad9225fa8534e7107313dd", func := "sluice/sluicetop.TopSpun", spec := "topSpun", unfollowed := true, recurses := true, named := ["internal/strconv.uint64pow10", "math/bits.deBruijn32tab", "math/bits.deBruijn64tab"], plainKeys := false, apart := false, laid := [("math/bits.deBruijn32tab", laid_math_bits_deBruijn32tab), ("math/bits.deBruijn64tab", laid_math_bits_deBruijn64tab), ("internal/strconv.uint64pow10", laid_internal_strconv_uint64pow10)], narrowed := true }
def TopSpunUptoSaid : Prop := topSpunUptoRow.holds Tryz.pinned (OpenSpec.upto topSpunSpec)

/-- 'sluicetop.TopFree', WHERE WHAT IT READS IS OF BULK AT MOST 1048576: true; the input reads as it did. -/
def topFreeUptoRow : OpenClaim := { program := "ytmjkobhkkjgplaagreatdoor", sum := "132c34b805f7ddc6871d81ea3649fdc876b50dd229ad9225fa8534e7107313dd", func := "sluice/sluicetop.TopFree", spec := "topFree", unfollowed := true, recurses := true, named := ["internal/strconv.uint64pow10", "math/bits.deBruijn32tab", "math/bits.deBruijn64tab"], plainKeys := false, apart := false, laid := [("math/bits.deBruijn32tab", laid_math_bits_deBruijn32tab), ("math/bits.deBruijn64tab", laid_math_bits_deBruijn64tab), ("internal/strconv.uint64pow10", laid_internal_strconv_uint64pow10)], narrowed := true }
def TopFreeUptoSaid : Prop := topFreeUptoRow.holds Tryz.pinned (OpenSpec.upto topFreeSpec)

/-- 'sluicetop.TopFenced', WHERE WHAT IT READS IS OF BULK AT MOST 1048576: true; the input reads as it did. -/
def topFencedUptoRow : OpenClaim := { program := "ytmjkobhkkjgplaagreatdoor", sum := "132c34b805f7ddc6871d81ea3649fdc876b50dd229ad9225fa8534e7107313dd", func := "sluice/sluicetop.TopFenced", spec := "topFenced", unfollowed := true, recurses := true, named := ["internal/strconv.uint64pow10", "math/bits.deBruijn32tab", "math/bits.deBruijn64tab"], plainKeys := false, apart := false, laid := [("math/bits.deBruijn32tab", laid_math_bits_deBruijn32tab), ("math/bits.deBruijn64tab", laid_math_bits_deBruijn64tab), ("internal/strconv.uint64pow10", laid_internal_strconv_uint64pow10)], narrowed := true }
def TopFencedUptoSaid : Prop := topFencedUptoRow.holds Tryz.pinned (OpenSpec.upto topFencedSpec)

/-- 'sluicelaw.PsoOutcomes', WHERE WHAT IT READS IS OF BULK AT MOST 1048576: true; the input reads as it did. -/
def psoOutcomesUptoRow : OpenClaim := { program := "ytmjkobhkkjgplaagreatdoor", sum := "132c34b805f7ddc6871d81ea3649fdc876b50dd229ad9225fa8534e7107313dd", func := "sluice/sluicelaw.PsoOutcomes", spec := "psoOutcomes", unfollowed := true, recurses := true, named := ["internal/strconv.uint64pow10", "math/bits.deBruijn32tab", "math/bits.deBruijn64tab"], plainKeys := false, apart := false, laid := [("math/bits.deBruijn32tab", laid_math_bits_deBruijn32tab), ("math/bits.deBruijn64tab", laid_math_bits_deBruijn64tab), ("internal/strconv.uint64pow10", laid_internal_strconv_uint64pow10)], narrowed := true }
def PsoOutcomesUptoSaid : Prop := psoOutcomesUptoRow.holds Tryz.pinned (OpenSpec.upto psoOutcomesSpec)

/-- 'sluicelaw.SpaceSC', WHERE WHAT IT READS IS OF BULK AT MOST 1048576: true; the input reads as it did. -/
def spaceSCUptoRow : OpenClaim := { program := "ytmjkobhkkjgplaagreatdoor", sum := "132c34b805f7ddc6871d81ea3649fdc876b50dd229ad9225fa8534e7107313dd", func := "sluice/sluicelaw.SpaceSC", spec := "spaceSC", unfollowed := true, recurses := true, named := ["internal/strconv.uint64pow10", "math/bits.deBruijn32tab", "math/bits.deBruijn64tab"], plainKeys := false, apart := false, laid := [("math/bits.deBruijn32tab", laid_math_bits_deBruijn32tab), ("math/bits.deBruijn64tab", laid_math_bits_deBruijn64tab), ("internal/strconv.uint64pow10", laid_internal_strconv_uint64pow10)], narrowed := true }
def SpaceSCUptoSaid : Prop := spaceSCUptoRow.holds Tryz.pinned (OpenSpec.upto spaceSCSpec)

/-- 'sluicelaw.SpaceTSO', WHERE WHAT IT READS IS OF BULK AT MOST 1048576: true; the input reads as it did. -/
def spaceTSOUptoRow : OpenClaim := { program := "ytmjkobhkkjgplaagreatdoor", sum := "132c34b805f7ddc6871d81ea3649fdc876b50dd229ad9225fa8534e7107313dd", func := "sluice/sluicelaw.SpaceTSO", spec := "spaceTSO", unfollowed := true, recurses := true, named := ["internal/strconv.uint64pow10", "math/bits.deBruijn32tab", "math/bits.deBruijn64tab"], plainKeys := false, apart := false, laid := [("math/bits.deBruijn32tab", laid_math_bits_deBruijn32tab), ("math/bits.deBruijn64tab", laid_math_bits_deBruijn64tab), ("internal/strconv.uint64pow10", laid_internal_strconv_uint64pow10)], narrowed := true }
def SpaceTSOUptoSaid : Prop := spaceTSOUptoRow.holds Tryz.pinned (OpenSpec.upto spaceTSOSpec)

/-- 'sluicelaw.RaceFinds', WHERE WHAT IT READS IS OF BULK AT MOST 1048576: true; the input reads as it did. -/
def raceFindsUptoRow : OpenClaim := { program := "ytmjkobhkkjgplaagreatdoor", sum := "132c34b805f7ddc6871d81ea3649fdc876b50dd229ad9225fa8534e7107313dd", func := "sluice/sluicelaw.RaceFinds", spec := "raceFinds", unfollowed := true, recurses := true, named := ["internal/strconv.uint64pow10", "math/bits.deBruijn32tab", "math/bits.deBruijn64tab"], plainKeys := false, apart := false, laid := [("math/bits.deBruijn32tab", laid_math_bits_deBruijn32tab), ("math/bits.deBruijn64tab", laid_math_bits_deBruijn64tab), ("internal/strconv.uint64pow10", laid_internal_strconv_uint64pow10)], narrowed := true }
def RaceFindsUptoSaid : Prop := raceFindsUptoRow.holds Tryz.pinned (OpenSpec.upto raceFindsSpec)

/-- 'sluicelaw.RaceFree', WHERE WHAT IT READS IS OF BULK AT MOST 1048576: true; the input reads as it did. -/
def raceFreeUptoRow : OpenClaim := { program := "ytmjkobhkkjgplaagreatdoor", sum := "132c34b805f7ddc6871d81ea3649fdc876b50dd229ad9225fa8534e7107313dd", func := "sluice/sluicelaw.RaceFree", spec := "raceFree", unfollowed := true, recurses := true, named := ["internal/strconv.uint64pow10", "math/bits.deBruijn32tab", "math/bits.deBruijn64tab"], plainKeys := false, apart := false, laid := [("math/bits.deBruijn32tab", laid_math_bits_deBruijn32tab), ("math/bits.deBruijn64tab", laid_math_bits_deBruijn64tab), ("internal/strconv.uint64pow10", laid_internal_strconv_uint64pow10)], narrowed := true }
def RaceFreeUptoSaid : Prop := raceFreeUptoRow.holds Tryz.pinned (OpenSpec.upto raceFreeSpec)

/-- 'sluicekeep.PsoMore', WHERE WHAT IT READS IS OF BULK AT MOST 1048576: true; the input reads as it did. -/
def psoMoreUptoRow : OpenClaim := { program := "ytmjkobhkkjgplaagreatdoor", sum := "132c34b805f7ddc6871d81ea3649fdc876b50dd229ad9225fa8534e7107313dd", func := "sluice/sluicekeep.PsoMore", spec := "psoMore", unfollowed := true, recurses := true, named := ["internal/strconv.uint64pow10", "math/bits.deBruijn32tab", "math/bits.deBruijn64tab"], plainKeys := false, apart := false, laid := [("math/bits.deBruijn32tab", laid_math_bits_deBruijn32tab), ("math/bits.deBruijn64tab", laid_math_bits_deBruijn64tab), ("internal/strconv.uint64pow10", laid_internal_strconv_uint64pow10)], narrowed := true }
def PsoMoreUptoSaid : Prop := psoMoreUptoRow.holds Tryz.pinned (OpenSpec.upto psoMoreSpec)

/-- 'sluicelaw.PsoFree', WHERE WHAT IT READS IS OF BULK AT MOST 1048576: true; the input reads as it did. -/
def psoFreeUptoRow : OpenClaim := { program := "ytmjkobhkkjgplaagreatdoor", sum := "132c34b805f7ddc6871d81ea3649fdc876b50dd229ad9225fa8534e7107313dd", func := "sluice/sluicelaw.PsoFree", spec := "psoFree", unfollowed := true, recurses := true, named := ["internal/strconv.uint64pow10", "math/bits.deBruijn32tab", "math/bits.deBruijn64tab"], plainKeys := false, apart := false, laid := [("math/bits.deBruijn32tab", laid_math_bits_deBruijn32tab), ("math/bits.deBruijn64tab", laid_math_bits_deBruijn64tab), ("internal/strconv.uint64pow10", laid_internal_strconv_uint64pow10)], narrowed := true }
def PsoFreeUptoSaid : Prop := psoFreeUptoRow.holds Tryz.pinned (OpenSpec.upto psoFreeSpec)

/-- 'sluicekeep.SpaceRuns', WHERE WHAT IT READS IS OF BULK AT MOST 1048576: true; the input reads as it did. -/
def spaceRunsUptoRow : OpenClaim := { program := "ytmjkobhkkjgplaagreatdoor", sum := "132c34b805f7ddc6871d81ea3649fdc876b50dd229ad9225fa8534e7107313dd", func := "sluice/sluicekeep.SpaceRuns", spec := "spaceRuns", unfollowed := true, recurses := true, named := ["internal/strconv.uint64pow10", "math/bits.deBruijn32tab", "math/bits.deBruijn64tab"], plainKeys := false, apart := false, laid := [("math/bits.deBruijn32tab", laid_math_bits_deBruijn32tab), ("math/bits.deBruijn64tab", laid_math_bits_deBruijn64tab), ("internal/strconv.uint64pow10", laid_internal_strconv_uint64pow10)], narrowed := true }
def SpaceRunsUptoSaid : Prop := spaceRunsUptoRow.holds Tryz.pinned (OpenSpec.upto spaceRunsSpec)

/-- 'sluicelaw.FenceFewest', WHERE WHAT IT READS IS OF BULK AT MOST 1048576: true; the input reads as it did. -/
def fenceFewestUptoRow : OpenClaim := { program := "ytmjkobhkkjgplaagreatdoor", sum := "132c34b805f7ddc6871d81ea3649fdc876b50dd229ad9225fa8534e7107313dd", func := "sluice/sluicelaw.FenceFewest", spec := "fenceFewest", unfollowed := true, recurses := true, named := ["internal/strconv.uint64pow10", "math/bits.deBruijn32tab", "math/bits.deBruijn64tab"], plainKeys := false, apart := false, laid := [("math/bits.deBruijn32tab", laid_math_bits_deBruijn32tab), ("math/bits.deBruijn64tab", laid_math_bits_deBruijn64tab), ("internal/strconv.uint64pow10", laid_internal_strconv_uint64pow10)], narrowed := true }
def FenceFewestUptoSaid : Prop := fenceFewestUptoRow.holds Tryz.pinned (OpenSpec.upto fenceFewestSpec)

/-- 'sluicekeep.FenceEnough', WHERE WHAT IT READS IS OF BULK AT MOST 1048576: true; the input reads as it did. -/
def fenceEnoughUptoRow : OpenClaim := { program := "ytmjkobhkkjgplaagreatdoor", sum := "132c34b805f7ddc6871d81ea3649fdc876b50dd229ad9225fa8534e7107313dd", func := "sluice/sluicekeep.FenceEnough", spec := "fenceEnough", unfollowed := true, recurses := true, named := ["internal/strconv.uint64pow10", "math/bits.deBruijn32tab", "math/bits.deBruijn64tab"], plainKeys := false, apart := false, laid := [("math/bits.deBruijn32tab", laid_math_bits_deBruijn32tab), ("math/bits.deBruijn64tab", laid_math_bits_deBruijn64tab), ("internal/strconv.uint64pow10", laid_internal_strconv_uint64pow10)], narrowed := true }
def FenceEnoughUptoSaid : Prop := fenceEnoughUptoRow.holds Tryz.pinned (OpenSpec.upto fenceEnoughSpec)

end Rows
end Go.Proofs.YtmjkobhkkjgplaaGreatDoor
