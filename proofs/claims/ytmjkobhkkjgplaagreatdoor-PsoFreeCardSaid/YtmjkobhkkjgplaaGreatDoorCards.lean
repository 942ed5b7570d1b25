/-
  DERIVED. GIVEN WITH THE SEED: THE CARDS: each row of YtmjkobhkkjgplaaGreatDoorRows.lean that lists a variable, with what it lists TIED to the program's text (the seventh form; the later family's looks); each row that meets fmt, with fmt's text TOLD by the authors' own Lean function (tested against real Go, not proved from fmt's source: count such statements apart). THE CARD IS WHAT COUNTS. Prove the row's statement (the work); the ties are given (YtmjkobhkkjgplaaGreatDoorTie.lean); close each card by the builder's one call (the guide's Derived/Test/ToyasCard.lean, 'card_holds'). Laid BY PROGRAM, IN A SANDBOX (cutbox-door.mjs). By AI agents, Wed Nov 11 2026. No macro, syntax, notation, axiom, sorry.
-/
import Derived.Test.YtmjkobhkkjgplaaGreatDoorRows
import GoSem.ClaimSeven
namespace Go.Proofs.YtmjkobhkkjgplaaGreatDoor
namespace Rows

/-- THE TIED CARD OF 'sluicetop.TopSpun'. -/
def topSpunCard : Claim7 := { stood := { row := topSpunRow, standIns := [], harness := (true, "7156a00dd565ccc5b243c7c66c0e1b87025c3a7a962659fa9eea236c69567f4f"), looks := false }, kinds := [], alts := [], laidByText := true, laidKinds := [.data, .data, .data], laidTests := true, laidLooks := .later }
def TopSpunCardSaid : Prop := Claim7.holds Tryz.pinned (.plain (OpenSpec.ofChange topSpunSpec)) topSpunCard

/-- THE TIED CARD OF 'sluicetop.TopFree'. -/
def topFreeCard : Claim7 := { stood := { row := topFreeRow, standIns := [], harness := (true, "7156a00dd565ccc5b243c7c66c0e1b87025c3a7a962659fa9eea236c69567f4f"), looks := false }, kinds := [], alts := [], laidByText := true, laidKinds := [.data, .data, .data], laidTests := true, laidLooks := .later }
def TopFreeCardSaid : Prop := Claim7.holds Tryz.pinned (.plain (OpenSpec.ofChange topFreeSpec)) topFreeCard

/-- THE TIED CARD OF 'sluicetop.TopFenced'. -/
def topFencedCard : Claim7 := { stood := { row := topFencedRow, standIns := [], harness := (true, "7156a00dd565ccc5b243c7c66c0e1b87025c3a7a962659fa9eea236c69567f4f"), looks := false }, kinds := [], alts := [], laidByText := true, laidKinds := [.data, .data, .data], laidTests := true, laidLooks := .later }
def TopFencedCardSaid : Prop := Claim7.holds Tryz.pinned (.plain (OpenSpec.ofChange topFencedSpec)) topFencedCard

/-- THE TIED CARD OF 'sluicelaw.PsoOutcomes'. -/
def psoOutcomesCard : Claim7 := { stood := { row := psoOutcomesRow, standIns := [], harness := (true, "7156a00dd565ccc5b243c7c66c0e1b87025c3a7a962659fa9eea236c69567f4f"), looks := false }, kinds := [], alts := [], laidByText := true, laidKinds := [.data, .data, .data], laidTests := true, laidLooks := .later }
def PsoOutcomesCardSaid : Prop := Claim7.holds Tryz.pinned (.plain (OpenSpec.ofChange psoOutcomesSpec)) psoOutcomesCard

/-- THE TIED CARD OF 'sluicelaw.SpaceSC'. -/
def spaceSCCard : Claim7 := { stood := { row := spaceSCRow, standIns := [], harness := (true, "7156a00dd565ccc5b243c7c66c0e1b87025c3a7a962659fa9eea236c69567f4f"), looks := false }, kinds := [], alts := [], laidByText := true, laidKinds := [.data, .data, .data], laidTests := true, laidLooks := .later }
def SpaceSCCardSaid : Prop := Claim7.holds Tryz.pinned (.plain (OpenSpec.ofChange spaceSCSpec)) spaceSCCard

/-- THE TIED CARD OF 'sluicelaw.SpaceTSO'. -/
def spaceTSOCard : Claim7 := { stood := { row := spaceTSORow, standIns := [], harness := (true, "7156a00dd565ccc5b243c7c66c0e1b87025c3a7a962659fa9eea236c69567f4f"), looks := false }, kinds := [], alts := [], laidByText := true, laidKinds := [.data, .data, .data], laidTests := true, laidLooks := .later }
def SpaceTSOCardSaid : Prop := Claim7.holds Tryz.pinned (.plain (OpenSpec.ofChange spaceTSOSpec)) spaceTSOCard

/-- THE TIED CARD OF 'sluicelaw.RaceFinds'. -/
def raceFindsCard : Claim7 := { stood := { row := raceFindsRow, standIns := [], harness := (true, "7156a00dd565ccc5b243c7c66c0e1b87025c3a7a962659fa9eea236c69567f4f"), looks := false }, kinds := [], alts := [], laidByText := true, laidKinds := [.data, .data, .data], laidTests := true, laidLooks := .later }
def RaceFindsCardSaid : Prop := Claim7.holds Tryz.pinned (.plain (OpenSpec.ofChange raceFindsSpec)) raceFindsCard

/-- THE TIED CARD OF 'sluicelaw.RaceFree'. -/
def raceFreeCard : Claim7 := { stood := { row := raceFreeRow, standIns := [], harness := (true, "7156a00dd565ccc5b243c7c66c0e1b87025c3a7a962659fa9eea236c69567f4f"), looks := false }, kinds := [], alts := [], laidByText := true, laidKinds := [.data, .data, .data], laidTests := true, laidLooks := .later }
def RaceFreeCardSaid : Prop := Claim7.holds Tryz.pinned (.plain (OpenSpec.ofChange raceFreeSpec)) raceFreeCard

/-- THE TIED CARD OF 'sluicekeep.PsoMore'. -/
def psoMoreCard : Claim7 := { stood := { row := psoMoreRow, standIns := [], harness := (true, "7156a00dd565ccc5b243c7c66c0e1b87025c3a7a962659fa9eea236c69567f4f"), looks := false }, kinds := [], alts := [], laidByText := true, laidKinds := [.data, .data, .data], laidTests := true, laidLooks := .later }
def PsoMoreCardSaid : Prop := Claim7.holds Tryz.pinned (.plain (OpenSpec.ofChange psoMoreSpec)) psoMoreCard

/-- THE TIED CARD OF 'sluicelaw.PsoFree'. -/
def psoFreeCard : Claim7 := { stood := { row := psoFreeRow, standIns := [], harness := (true, "7156a00dd565ccc5b243c7c66c0e1b87025c3a7a962659fa9eea236c69567f4f"), looks := false }, kinds := [], alts := [], laidByText := true, laidKinds := [.data, .data, .data], laidTests := true, laidLooks := .later }
def PsoFreeCardSaid : Prop := Claim7.holds Tryz.pinned (.plain (OpenSpec.ofChange psoFreeSpec)) psoFreeCard

/-- THE TIED CARD OF 'sluicekeep.SpaceRuns'. -/
def spaceRunsCard : Claim7 := { stood := { row := spaceRunsRow, standIns := [], harness := (true, "7156a00dd565ccc5b243c7c66c0e1b87025c3a7a962659fa9eea236c69567f4f"), looks := false }, kinds := [], alts := [], laidByText := true, laidKinds := [.data, .data, .data], laidTests := true, laidLooks := .later }
def SpaceRunsCardSaid : Prop := Claim7.holds Tryz.pinned (.plain (OpenSpec.ofChange spaceRunsSpec)) spaceRunsCard

/-- THE TIED CARD OF 'sluicelaw.FenceFewest'. -/
def fenceFewestCard : Claim7 := { stood := { row := fenceFewestRow, standIns := [], harness := (true, "7156a00dd565ccc5b243c7c66c0e1b87025c3a7a962659fa9eea236c69567f4f"), looks := false }, kinds := [], alts := [], laidByText := true, laidKinds := [.data, .data, .data], laidTests := true, laidLooks := .later }
def FenceFewestCardSaid : Prop := Claim7.holds Tryz.pinned (.plain (OpenSpec.ofChange fenceFewestSpec)) fenceFewestCard

/-- THE TIED CARD OF 'sluicekeep.FenceEnough'. -/
def fenceEnoughCard : Claim7 := { stood := { row := fenceEnoughRow, standIns := [], harness := (true, "7156a00dd565ccc5b243c7c66c0e1b87025c3a7a962659fa9eea236c69567f4f"), looks := false }, kinds := [], alts := [], laidByText := true, laidKinds := [.data, .data, .data], laidTests := true, laidLooks := .later }
def FenceEnoughCardSaid : Prop := Claim7.holds Tryz.pinned (.plain (OpenSpec.ofChange fenceEnoughSpec)) fenceEnoughCard

/-- THE SECOND FORM's CARD OF 'sluicetop.TopSpun'. -/
def topSpunUptoCard : Claim7 := { stood := { row := topSpunUptoRow, standIns := [], harness := (true, "7156a00dd565ccc5b243c7c66c0e1b87025c3a7a962659fa9eea236c69567f4f"), looks := false }, kinds := [], alts := [], laidByText := true, laidKinds := [.data, .data, .data], laidTests := true, laidLooks := .later }
def TopSpunUptoCardSaid : Prop := Claim7.holds Tryz.pinned (.plain (OpenSpec.upto topSpunSpec)) topSpunUptoCard

/-- THE SECOND FORM's CARD OF 'sluicetop.TopFree'. -/
def topFreeUptoCard : Claim7 := { stood := { row := topFreeUptoRow, standIns := [], harness := (true, "7156a00dd565ccc5b243c7c66c0e1b87025c3a7a962659fa9eea236c69567f4f"), looks := false }, kinds := [], alts := [], laidByText := true, laidKinds := [.data, .data, .data], laidTests := true, laidLooks := .later }
def TopFreeUptoCardSaid : Prop := Claim7.holds Tryz.pinned (.plain (OpenSpec.upto topFreeSpec)) topFreeUptoCard

/-- THE SECOND FORM's CARD OF 'sluicetop.TopFenced'. -/
def topFencedUptoCard : Claim7 := { stood := { row := topFencedUptoRow, standIns := [], harness := (true, "7156a00dd565ccc5b243c7c66c0e1b87025c3a7a962659fa9eea236c69567f4f"), looks := false }, kinds := [], alts := [], laidByText := true, laidKinds := [.data, .data, .data], laidTests := true, laidLooks := .later }
def TopFencedUptoCardSaid : Prop := Claim7.holds Tryz.pinned (.plain (OpenSpec.upto topFencedSpec)) topFencedUptoCard

/-- THE SECOND FORM's CARD OF 'sluicelaw.PsoOutcomes'. -/
def psoOutcomesUptoCard : Claim7 := { stood := { row := psoOutcomesUptoRow, standIns := [], harness := (true, "7156a00dd565ccc5b243c7c66c0e1b87025c3a7a962659fa9eea236c69567f4f"), looks := false }, kinds := [], alts := [], laidByText := true, laidKinds := [.data, .data, .data], laidTests := true, laidLooks := .later }
def PsoOutcomesUptoCardSaid : Prop := Claim7.holds Tryz.pinned (.plain (OpenSpec.upto psoOutcomesSpec)) psoOutcomesUptoCard

/-- THE SECOND FORM's CARD OF 'sluicelaw.SpaceSC'. -/
def spaceSCUptoCard : Claim7 := { stood := { row := spaceSCUptoRow, standIns := [], harness := (true, "7156a00dd565ccc5b243c7c66c0e1b87025c3a7a962659fa9eea236c69567f4f"), looks := false }, kinds := [], alts := [], laidByText := true, laidKinds := [.data, .data, .data], laidTests := true, laidLooks := .later }
def SpaceSCUptoCardSaid : Prop := Claim7.holds Tryz.pinned (.plain (OpenSpec.upto spaceSCSpec)) spaceSCUptoCard

/-- THE SECOND FORM's CARD OF 'sluicelaw.SpaceTSO'. -/
def spaceTSOUptoCard : Claim7 := { stood := { row := spaceTSOUptoRow, standIns := [], harness := (true, "7156a00dd565ccc5b243c7c66c0e1b87025c3a7a962659fa9eea236c69567f4f"), looks := false }, kinds := [], alts := [], laidByText := true, laidKinds := [.data, .data, .data], laidTests := true, laidLooks := .later }
def SpaceTSOUptoCardSaid : Prop := Claim7.holds Tryz.pinned (.plain (OpenSpec.upto spaceTSOSpec)) spaceTSOUptoCard

/-- THE SECOND FORM's CARD OF 'sluicelaw.RaceFinds'. -/
def raceFindsUptoCard : Claim7 := { stood := { row := raceFindsUptoRow, standIns := [], harness := (true, "7156a00dd565ccc5b243c7c66c0e1b87025c3a7a962659fa9eea236c69567f4f"), looks := false }, kinds := [], alts := [], laidByText := true, laidKinds := [.data, .data, .data], laidTests := true, laidLooks := .later }
def RaceFindsUptoCardSaid : Prop := Claim7.holds Tryz.pinned (.plain (OpenSpec.upto raceFindsSpec)) raceFindsUptoCard

/-- THE SECOND FORM's CARD OF 'sluicelaw.RaceFree'. -/
def raceFreeUptoCard : Claim7 := { stood := { row := raceFreeUptoRow, standIns := [], harness := (true, "7156a00dd565ccc5b243c7c66c0e1b87025c3a7a962659fa9eea236c69567f4f"), looks := false }, kinds := [], alts := [], laidByText := true, laidKinds := [.data, .data, .data], laidTests := true, laidLooks := .later }
def RaceFreeUptoCardSaid : Prop := Claim7.holds Tryz.pinned (.plain (OpenSpec.upto raceFreeSpec)) raceFreeUptoCard

/-- THE SECOND FORM's CARD OF 'sluicekeep.PsoMore'. -/
def psoMoreUptoCard : Claim7 := { stood := { row := psoMoreUptoRow, standIns := [], harness := (true, "7156a00dd565ccc5b243c7c66c0e1b87025c3a7a962659fa9eea236c69567f4f"), looks := false }, kinds := [], alts := [], laidByText := true, laidKinds := [.data, .data, .data], laidTests := true, laidLooks := .later }
def PsoMoreUptoCardSaid : Prop := Claim7.holds Tryz.pinned (.plain (OpenSpec.upto psoMoreSpec)) psoMoreUptoCard

/-- THE SECOND FORM's CARD OF 'sluicelaw.PsoFree'. -/
def psoFreeUptoCard : Claim7 := { stood := { row := psoFreeUptoRow, standIns := [], harness := (true, "7156a00dd565ccc5b243c7c66c0e1b87025c3a7a962659fa9eea236c69567f4f"), looks := false }, kinds := [], alts := [], laidByText := true, laidKinds := [.data, .data, .data], laidTests := true, laidLooks := .later }
def PsoFreeUptoCardSaid : Prop := Claim7.holds Tryz.pinned (.plain (OpenSpec.upto psoFreeSpec)) psoFreeUptoCard

/-- THE SECOND FORM's CARD OF 'sluicekeep.SpaceRuns'. -/
def spaceRunsUptoCard : Claim7 := { stood := { row := spaceRunsUptoRow, standIns := [], harness := (true, "7156a00dd565ccc5b243c7c66c0e1b87025c3a7a962659fa9eea236c69567f4f"), looks := false }, kinds := [], alts := [], laidByText := true, laidKinds := [.data, .data, .data], laidTests := true, laidLooks := .later }
def SpaceRunsUptoCardSaid : Prop := Claim7.holds Tryz.pinned (.plain (OpenSpec.upto spaceRunsSpec)) spaceRunsUptoCard

/-- THE SECOND FORM's CARD OF 'sluicelaw.FenceFewest'. -/
def fenceFewestUptoCard : Claim7 := { stood := { row := fenceFewestUptoRow, standIns := [], harness := (true, "7156a00dd565ccc5b243c7c66c0e1b87025c3a7a962659fa9eea236c69567f4f"), looks := false }, kinds := [], alts := [], laidByText := true, laidKinds := [.data, .data, .data], laidTests := true, laidLooks := .later }
def FenceFewestUptoCardSaid : Prop := Claim7.holds Tryz.pinned (.plain (OpenSpec.upto fenceFewestSpec)) fenceFewestUptoCard

/-- THE SECOND FORM's CARD OF 'sluicekeep.FenceEnough'. -/
def fenceEnoughUptoCard : Claim7 := { stood := { row := fenceEnoughUptoRow, standIns := [], harness := (true, "7156a00dd565ccc5b243c7c66c0e1b87025c3a7a962659fa9eea236c69567f4f"), looks := false }, kinds := [], alts := [], laidByText := true, laidKinds := [.data, .data, .data], laidTests := true, laidLooks := .later }
def FenceEnoughUptoCardSaid : Prop := Claim7.holds Tryz.pinned (.plain (OpenSpec.upto fenceEnoughSpec)) fenceEnoughUptoCard
end Rows
end Go.Proofs.YtmjkobhkkjgplaaGreatDoor
