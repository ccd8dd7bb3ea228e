/-
  DERIVED. GIVEN WITH THE SEED: THE CARDS: each row of YtjphfdlpcakpeaaGreatDoorRows.lean that lists a variable, with what it lists TIED to the program's text (the seventh form; the later family's looks); each row that meets fmt, with fmt's text TOLD by the authors' own Lean function (tested against real Go, not proved from fmt's source: count such statements apart). THE CARD IS WHAT COUNTS. Prove the row's statement (the work); the ties are given (YtjphfdlpcakpeaaGreatDoorTie.lean); close each card by the builder's one call (the guide's Derived/Test/ToyasCard.lean, 'card_holds'). Laid BY PROGRAM, IN A SANDBOX (cutbox-door.mjs). By AI agents, Wed Nov 11 2026. No macro, syntax, notation, axiom, sorry.
-/
import Derived.Test.YtjphfdlpcakpeaaGreatDoorRows
import GoSem.ClaimSeven
namespace Go.Proofs.YtjphfdlpcakpeaaGreatDoor
namespace Rows

/-- THE TIED CARD OF 'tallystonelaw22.LinearSolves'. -/
def linearSolvesCard : Claim7 := { stood := { row := linearSolvesRow, standIns := [], harness := (true, "5cfa6b826755a8c68475fd5425edf30eea057ad6659273f0bf2269ba11f3a50f"), looks := false }, kinds := [], alts := [], laidByText := true, laidKinds := [.data, .data, .data], laidTests := true, laidLooks := .later }
def LinearSolvesCardSaid : Prop := Claim7.holds Tryz.pinned (.plain (OpenSpec.ofChange linearSolvesSpec)) linearSolvesCard

/-- THE TIED CARD OF 'tallystonelaw22.LinearMeasures'. -/
def linearMeasuresCard : Claim7 := { stood := { row := linearMeasuresRow, standIns := [], harness := (true, "5cfa6b826755a8c68475fd5425edf30eea057ad6659273f0bf2269ba11f3a50f"), looks := false }, kinds := [], alts := [], laidByText := true, laidKinds := [.data, .data, .data], laidTests := true, laidLooks := .later }
def LinearMeasuresCardSaid : Prop := Claim7.holds Tryz.pinned (.plain (OpenSpec.ofChange linearMeasuresSpec)) linearMeasuresCard

/-- THE TIED CARD OF 'tallystonelaw22.LinearApplies'. -/
def linearAppliesCard : Claim7 := { stood := { row := linearAppliesRow, standIns := [], harness := (true, "5cfa6b826755a8c68475fd5425edf30eea057ad6659273f0bf2269ba11f3a50f"), looks := false }, kinds := [], alts := [], laidByText := true, laidKinds := [.data, .data, .data], laidTests := true, laidLooks := .later }
def LinearAppliesCardSaid : Prop := Claim7.holds Tryz.pinned (.plain (OpenSpec.ofChange linearAppliesSpec)) linearAppliesCard

/-- THE SECOND FORM's CARD OF 'tallystonelaw22.LinearSolves'. -/
def linearSolvesUptoCard : Claim7 := { stood := { row := linearSolvesUptoRow, standIns := [], harness := (true, "5cfa6b826755a8c68475fd5425edf30eea057ad6659273f0bf2269ba11f3a50f"), looks := false }, kinds := [], alts := [], laidByText := true, laidKinds := [.data, .data, .data], laidTests := true, laidLooks := .later }
def LinearSolvesUptoCardSaid : Prop := Claim7.holds Tryz.pinned (.plain (OpenSpec.upto linearSolvesSpec)) linearSolvesUptoCard

/-- THE SECOND FORM's CARD OF 'tallystonelaw22.LinearMeasures'. -/
def linearMeasuresUptoCard : Claim7 := { stood := { row := linearMeasuresUptoRow, standIns := [], harness := (true, "5cfa6b826755a8c68475fd5425edf30eea057ad6659273f0bf2269ba11f3a50f"), looks := false }, kinds := [], alts := [], laidByText := true, laidKinds := [.data, .data, .data], laidTests := true, laidLooks := .later }
def LinearMeasuresUptoCardSaid : Prop := Claim7.holds Tryz.pinned (.plain (OpenSpec.upto linearMeasuresSpec)) linearMeasuresUptoCard

/-- THE SECOND FORM's CARD OF 'tallystonelaw22.LinearApplies'. -/
def linearAppliesUptoCard : Claim7 := { stood := { row := linearAppliesUptoRow, standIns := [], harness := (true, "5cfa6b826755a8c68475fd5425edf30eea057ad6659273f0bf2269ba11f3a50f"), looks := false }, kinds := [], alts := [], laidByText := true, laidKinds := [.data, .data, .data], laidTests := true, laidLooks := .later }
def LinearAppliesUptoCardSaid : Prop := Claim7.holds Tryz.pinned (.plain (OpenSpec.upto linearAppliesSpec)) linearAppliesUptoCard
end Rows
end Go.Proofs.YtjphfdlpcakpeaaGreatDoor
