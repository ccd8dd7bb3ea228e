/-
  DERIVED. GIVEN WITH THE SEED: THE CARDS: each row of YteionhenpehogaaGreatDoorRows.lean that lists a variable, with what it lists TIED to the program's text (the seventh form; the later family's looks); each row that meets fmt, with fmt's text TOLD by the authors' own Lean function (tested against real Go, not proved from fmt's source: count such statements apart). THE CARD IS WHAT COUNTS. Prove the row's statement (the work); the ties are given (YteionhenpehogaaGreatDoorTie.lean); close each card by the builder's one call (the guide's Derived/Test/ToyasCard.lean, 'card_holds'). Laid BY PROGRAM, IN A SANDBOX (cutbox-door.mjs). By AI agents, Wed Nov 11 2026. No macro, syntax, notation, axiom, sorry.
-/
import Derived.Test.YteionhenpehogaaGreatDoorRows
import GoSem.ClaimSeven
namespace Go.Proofs.YteionhenpehogaaGreatDoor
namespace Rows

/-- THE TIED CARD OF 'tallystonetop.WholeDilution'. -/
def wholeDilutionCard : Claim7 := { stood := { row := wholeDilutionRow, standIns := [], harness := (true, "c83b98de5dd024cd42e609267c57e5ce896e7b7c4279be79aef6930ec799281c"), looks := false }, kinds := [], alts := [], laidByText := true, laidKinds := [.data, .data, .data], laidTests := true, laidLooks := .later }
def WholeDilutionCardSaid : Prop := Claim7.holds Tryz.pinned (.plain (OpenSpec.ofChange wholeDilutionSpec)) wholeDilutionCard

/-- THE TIED CARD OF 'tallystonetop.WholeOwnership'. -/
def wholeOwnershipCard : Claim7 := { stood := { row := wholeOwnershipRow, standIns := [], harness := (true, "c83b98de5dd024cd42e609267c57e5ce896e7b7c4279be79aef6930ec799281c"), looks := false }, kinds := [], alts := [], laidByText := true, laidKinds := [.data, .data, .data], laidTests := true, laidLooks := .later }
def WholeOwnershipCardSaid : Prop := Claim7.holds Tryz.pinned (.plain (OpenSpec.ofChange wholeOwnershipSpec)) wholeOwnershipCard

/-- THE TIED CARD OF 'tallystonelaw22.LinearSolves'. -/
def linearSolvesCard : Claim7 := { stood := { row := linearSolvesRow, standIns := [], harness := (true, "c83b98de5dd024cd42e609267c57e5ce896e7b7c4279be79aef6930ec799281c"), looks := false }, kinds := [], alts := [], laidByText := true, laidKinds := [.data, .data, .data], laidTests := true, laidLooks := .later }
def LinearSolvesCardSaid : Prop := Claim7.holds Tryz.pinned (.plain (OpenSpec.ofChange linearSolvesSpec)) linearSolvesCard

/-- THE TIED CARD OF 'tallystonelaw22.LinearMeasures'. -/
def linearMeasuresCard : Claim7 := { stood := { row := linearMeasuresRow, standIns := [], harness := (true, "c83b98de5dd024cd42e609267c57e5ce896e7b7c4279be79aef6930ec799281c"), looks := false }, kinds := [], alts := [], laidByText := true, laidKinds := [.data, .data, .data], laidTests := true, laidLooks := .later }
def LinearMeasuresCardSaid : Prop := Claim7.holds Tryz.pinned (.plain (OpenSpec.ofChange linearMeasuresSpec)) linearMeasuresCard

/-- THE TIED CARD OF 'tallystonelaw22.LinearApplies'. -/
def linearAppliesCard : Claim7 := { stood := { row := linearAppliesRow, standIns := [], harness := (true, "c83b98de5dd024cd42e609267c57e5ce896e7b7c4279be79aef6930ec799281c"), looks := false }, kinds := [], alts := [], laidByText := true, laidKinds := [.data, .data, .data], laidTests := true, laidLooks := .later }
def LinearAppliesCardSaid : Prop := Claim7.holds Tryz.pinned (.plain (OpenSpec.ofChange linearAppliesSpec)) linearAppliesCard

/-- THE TIED CARD OF 'tallystonelaw23.ShareEffective'. -/
def shareEffectiveCard : Claim7 := { stood := { row := shareEffectiveRow, standIns := [], harness := (true, "c83b98de5dd024cd42e609267c57e5ce896e7b7c4279be79aef6930ec799281c"), looks := false }, kinds := [], alts := [], laidByText := true, laidKinds := [.data, .data, .data], laidTests := true, laidLooks := .later }
def ShareEffectiveCardSaid : Prop := Claim7.holds Tryz.pinned (.plain (OpenSpec.ofChange shareEffectiveSpec)) shareEffectiveCard

/-- THE TIED CARD OF 'tallystonelaw23.ShareSingle'. -/
def shareSingleCard : Claim7 := { stood := { row := shareSingleRow, standIns := [], harness := (true, "c83b98de5dd024cd42e609267c57e5ce896e7b7c4279be79aef6930ec799281c"), looks := false }, kinds := [], alts := [], laidByText := true, laidKinds := [.data, .data, .data], laidTests := true, laidLooks := .later }
def ShareSingleCardSaid : Prop := Claim7.holds Tryz.pinned (.plain (OpenSpec.ofChange shareSingleSpec)) shareSingleCard

/-- THE TIED CARD OF 'tallystonelaw23.ShareRest'. -/
def shareRestCard : Claim7 := { stood := { row := shareRestRow, standIns := [], harness := (true, "c83b98de5dd024cd42e609267c57e5ce896e7b7c4279be79aef6930ec799281c"), looks := false }, kinds := [], alts := [], laidByText := true, laidKinds := [.data, .data, .data], laidTests := true, laidLooks := .later }
def ShareRestCardSaid : Prop := Claim7.holds Tryz.pinned (.plain (OpenSpec.ofChange shareRestSpec)) shareRestCard

/-- THE TIED CARD OF 'tallystonelaw23.ShareOutside'. -/
def shareOutsideCard : Claim7 := { stood := { row := shareOutsideRow, standIns := [], harness := (true, "c83b98de5dd024cd42e609267c57e5ce896e7b7c4279be79aef6930ec799281c"), looks := false }, kinds := [], alts := [], laidByText := true, laidKinds := [.data, .data, .data], laidTests := true, laidLooks := .later }
def ShareOutsideCardSaid : Prop := Claim7.holds Tryz.pinned (.plain (OpenSpec.ofChange shareOutsideSpec)) shareOutsideCard

/-- THE TIED CARD OF 'tallystonelaw23.ShareWhole'. -/
def shareWholeCard : Claim7 := { stood := { row := shareWholeRow, standIns := [], harness := (true, "c83b98de5dd024cd42e609267c57e5ce896e7b7c4279be79aef6930ec799281c"), looks := false }, kinds := [], alts := [], laidByText := true, laidKinds := [.data, .data, .data], laidTests := true, laidLooks := .later }
def ShareWholeCardSaid : Prop := Claim7.holds Tryz.pinned (.plain (OpenSpec.ofChange shareWholeSpec)) shareWholeCard

/-- THE TIED CARD OF 'tallystonelaw23.ShareCheck'. -/
def shareCheckCard : Claim7 := { stood := { row := shareCheckRow, standIns := [], harness := (true, "c83b98de5dd024cd42e609267c57e5ce896e7b7c4279be79aef6930ec799281c"), looks := false }, kinds := [], alts := [], laidByText := true, laidKinds := [.data, .data, .data], laidTests := true, laidLooks := .later }
def ShareCheckCardSaid : Prop := Claim7.holds Tryz.pinned (.plain (OpenSpec.ofChange shareCheckSpec)) shareCheckCard

/-- THE TIED CARD OF 'tallystonelaw23.ShareChains'. -/
def shareChainsCard : Claim7 := { stood := { row := shareChainsRow, standIns := [], harness := (true, "c83b98de5dd024cd42e609267c57e5ce896e7b7c4279be79aef6930ec799281c"), looks := false }, kinds := [], alts := [], laidByText := true, laidKinds := [.data, .data, .data], laidTests := true, laidLooks := .later }
def ShareChainsCardSaid : Prop := Claim7.holds Tryz.pinned (.plain (OpenSpec.ofChange shareChainsSpec)) shareChainsCard

/-- THE SECOND FORM's CARD OF 'tallystonetop.WholeDilution'. -/
def wholeDilutionUptoCard : Claim7 := { stood := { row := wholeDilutionUptoRow, standIns := [], harness := (true, "c83b98de5dd024cd42e609267c57e5ce896e7b7c4279be79aef6930ec799281c"), looks := false }, kinds := [], alts := [], laidByText := true, laidKinds := [.data, .data, .data], laidTests := true, laidLooks := .later }
def WholeDilutionUptoCardSaid : Prop := Claim7.holds Tryz.pinned (.plain (OpenSpec.upto wholeDilutionSpec)) wholeDilutionUptoCard

/-- THE SECOND FORM's CARD OF 'tallystonetop.WholeOwnership'. -/
def wholeOwnershipUptoCard : Claim7 := { stood := { row := wholeOwnershipUptoRow, standIns := [], harness := (true, "c83b98de5dd024cd42e609267c57e5ce896e7b7c4279be79aef6930ec799281c"), looks := false }, kinds := [], alts := [], laidByText := true, laidKinds := [.data, .data, .data], laidTests := true, laidLooks := .later }
def WholeOwnershipUptoCardSaid : Prop := Claim7.holds Tryz.pinned (.plain (OpenSpec.upto wholeOwnershipSpec)) wholeOwnershipUptoCard

/-- THE SECOND FORM's CARD OF 'tallystonelaw22.LinearSolves'. -/
def linearSolvesUptoCard : Claim7 := { stood := { row := linearSolvesUptoRow, standIns := [], harness := (true, "c83b98de5dd024cd42e609267c57e5ce896e7b7c4279be79aef6930ec799281c"), looks := false }, kinds := [], alts := [], laidByText := true, laidKinds := [.data, .data, .data], laidTests := true, laidLooks := .later }
def LinearSolvesUptoCardSaid : Prop := Claim7.holds Tryz.pinned (.plain (OpenSpec.upto linearSolvesSpec)) linearSolvesUptoCard

/-- THE SECOND FORM's CARD OF 'tallystonelaw22.LinearMeasures'. -/
def linearMeasuresUptoCard : Claim7 := { stood := { row := linearMeasuresUptoRow, standIns := [], harness := (true, "c83b98de5dd024cd42e609267c57e5ce896e7b7c4279be79aef6930ec799281c"), looks := false }, kinds := [], alts := [], laidByText := true, laidKinds := [.data, .data, .data], laidTests := true, laidLooks := .later }
def LinearMeasuresUptoCardSaid : Prop := Claim7.holds Tryz.pinned (.plain (OpenSpec.upto linearMeasuresSpec)) linearMeasuresUptoCard

/-- THE SECOND FORM's CARD OF 'tallystonelaw22.LinearApplies'. -/
def linearAppliesUptoCard : Claim7 := { stood := { row := linearAppliesUptoRow, standIns := [], harness := (true, "c83b98de5dd024cd42e609267c57e5ce896e7b7c4279be79aef6930ec799281c"), looks := false }, kinds := [], alts := [], laidByText := true, laidKinds := [.data, .data, .data], laidTests := true, laidLooks := .later }
def LinearAppliesUptoCardSaid : Prop := Claim7.holds Tryz.pinned (.plain (OpenSpec.upto linearAppliesSpec)) linearAppliesUptoCard

/-- THE SECOND FORM's CARD OF 'tallystonelaw23.ShareEffective'. -/
def shareEffectiveUptoCard : Claim7 := { stood := { row := shareEffectiveUptoRow, standIns := [], harness := (true, "c83b98de5dd024cd42e609267c57e5ce896e7b7c4279be79aef6930ec799281c"), looks := false }, kinds := [], alts := [], laidByText := true, laidKinds := [.data, .data, .data], laidTests := true, laidLooks := .later }
def ShareEffectiveUptoCardSaid : Prop := Claim7.holds Tryz.pinned (.plain (OpenSpec.upto shareEffectiveSpec)) shareEffectiveUptoCard

/-- THE SECOND FORM's CARD OF 'tallystonelaw23.ShareSingle'. -/
def shareSingleUptoCard : Claim7 := { stood := { row := shareSingleUptoRow, standIns := [], harness := (true, "c83b98de5dd024cd42e609267c57e5ce896e7b7c4279be79aef6930ec799281c"), looks := false }, kinds := [], alts := [], laidByText := true, laidKinds := [.data, .data, .data], laidTests := true, laidLooks := .later }
def ShareSingleUptoCardSaid : Prop := Claim7.holds Tryz.pinned (.plain (OpenSpec.upto shareSingleSpec)) shareSingleUptoCard

/-- THE SECOND FORM's CARD OF 'tallystonelaw23.ShareRest'. -/
def shareRestUptoCard : Claim7 := { stood := { row := shareRestUptoRow, standIns := [], harness := (true, "c83b98de5dd024cd42e609267c57e5ce896e7b7c4279be79aef6930ec799281c"), looks := false }, kinds := [], alts := [], laidByText := true, laidKinds := [.data, .data, .data], laidTests := true, laidLooks := .later }
def ShareRestUptoCardSaid : Prop := Claim7.holds Tryz.pinned (.plain (OpenSpec.upto shareRestSpec)) shareRestUptoCard

/-- THE SECOND FORM's CARD OF 'tallystonelaw23.ShareOutside'. -/
def shareOutsideUptoCard : Claim7 := { stood := { row := shareOutsideUptoRow, standIns := [], harness := (true, "c83b98de5dd024cd42e609267c57e5ce896e7b7c4279be79aef6930ec799281c"), looks := false }, kinds := [], alts := [], laidByText := true, laidKinds := [.data, .data, .data], laidTests := true, laidLooks := .later }
def ShareOutsideUptoCardSaid : Prop := Claim7.holds Tryz.pinned (.plain (OpenSpec.upto shareOutsideSpec)) shareOutsideUptoCard

/-- THE SECOND FORM's CARD OF 'tallystonelaw23.ShareWhole'. -/
def shareWholeUptoCard : Claim7 := { stood := { row := shareWholeUptoRow, standIns := [], harness := (true, "c83b98de5dd024cd42e609267c57e5ce896e7b7c4279be79aef6930ec799281c"), looks := false }, kinds := [], alts := [], laidByText := true, laidKinds := [.data, .data, .data], laidTests := true, laidLooks := .later }
def ShareWholeUptoCardSaid : Prop := Claim7.holds Tryz.pinned (.plain (OpenSpec.upto shareWholeSpec)) shareWholeUptoCard

/-- THE SECOND FORM's CARD OF 'tallystonelaw23.ShareCheck'. -/
def shareCheckUptoCard : Claim7 := { stood := { row := shareCheckUptoRow, standIns := [], harness := (true, "c83b98de5dd024cd42e609267c57e5ce896e7b7c4279be79aef6930ec799281c"), looks := false }, kinds := [], alts := [], laidByText := true, laidKinds := [.data, .data, .data], laidTests := true, laidLooks := .later }
def ShareCheckUptoCardSaid : Prop := Claim7.holds Tryz.pinned (.plain (OpenSpec.upto shareCheckSpec)) shareCheckUptoCard

/-- THE SECOND FORM's CARD OF 'tallystonelaw23.ShareChains'. -/
def shareChainsUptoCard : Claim7 := { stood := { row := shareChainsUptoRow, standIns := [], harness := (true, "c83b98de5dd024cd42e609267c57e5ce896e7b7c4279be79aef6930ec799281c"), looks := false }, kinds := [], alts := [], laidByText := true, laidKinds := [.data, .data, .data], laidTests := true, laidLooks := .later }
def ShareChainsUptoCardSaid : Prop := Claim7.holds Tryz.pinned (.plain (OpenSpec.upto shareChainsSpec)) shareChainsUptoCard
end Rows
end Go.Proofs.YteionhenpehogaaGreatDoor
