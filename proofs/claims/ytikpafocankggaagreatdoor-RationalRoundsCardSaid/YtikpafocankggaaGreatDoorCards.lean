/-
  DERIVED. GIVEN WITH THE SEED: THE CARDS: each row of YtikpafocankggaaGreatDoorRows.lean that lists a variable, with what it lists TIED to the program's text (the seventh form; the later family's looks); each row that meets fmt, with fmt's text TOLD by the authors' own Lean function (tested against real Go, not proved from fmt's source: count such statements apart). THE CARD IS WHAT COUNTS. Prove the row's statement (the work); the ties are given (YtikpafocankggaaGreatDoorTie.lean); close each card by the builder's one call (the guide's Derived/Test/ToyasCard.lean, 'card_holds'). Laid BY PROGRAM, IN A SANDBOX (cutbox-door.mjs). By AI agents, Wed Nov 11 2026. No macro, syntax, notation, axiom, sorry.
-/
import Derived.Test.YtikpafocankggaaGreatDoorRows
import GoSem.ClaimSeven
namespace Go.Proofs.YtikpafocankggaaGreatDoor
namespace Rows

/-- THE TIED CARD OF 'tallystonelaw02.RationalScale'. -/
def rationalScaleCard : Claim7 := { stood := { row := rationalScaleRow, standIns := [], harness := (true, "1151be4a83df6e8c7de02a340e999a935d90af7930d398afe32d570cb8628b72"), looks := false }, kinds := [], alts := [], laidByText := true, laidKinds := [.data, .data, .data], laidTests := true, laidLooks := .later }
def RationalScaleCardSaid : Prop := Claim7.holds Tryz.pinned (.plain (OpenSpec.ofChange rationalScaleSpec)) rationalScaleCard

/-- THE TIED CARD OF 'tallystonelaw02.RationalShares'. -/
def rationalSharesCard : Claim7 := { stood := { row := rationalSharesRow, standIns := [], harness := (true, "1151be4a83df6e8c7de02a340e999a935d90af7930d398afe32d570cb8628b72"), looks := false }, kinds := [], alts := [], laidByText := true, laidKinds := [.data, .data, .data], laidTests := true, laidLooks := .later }
def RationalSharesCardSaid : Prop := Claim7.holds Tryz.pinned (.plain (OpenSpec.ofChange rationalSharesSpec)) rationalSharesCard

/-- THE TIED CARD OF 'tallystonelaw02.RationalParse'. -/
def rationalParseCard : Claim7 := { stood := { row := rationalParseRow, standIns := [], harness := (true, "1151be4a83df6e8c7de02a340e999a935d90af7930d398afe32d570cb8628b72"), looks := false }, kinds := [], alts := [], laidByText := true, laidKinds := [.data, .data, .data], laidTests := true, laidLooks := .later }
def RationalParseCardSaid : Prop := Claim7.holds Tryz.pinned (.plain (OpenSpec.ofChange rationalParseSpec)) rationalParseCard

/-- THE TIED CARD OF 'tallystonelaw02.RationalProducts'. -/
def rationalProductsCard : Claim7 := { stood := { row := rationalProductsRow, standIns := [], harness := (true, "1151be4a83df6e8c7de02a340e999a935d90af7930d398afe32d570cb8628b72"), looks := false }, kinds := [], alts := [], laidByText := true, laidKinds := [.data, .data, .data], laidTests := true, laidLooks := .later }
def RationalProductsCardSaid : Prop := Claim7.holds Tryz.pinned (.plain (OpenSpec.ofChange rationalProductsSpec)) rationalProductsCard

/-- THE TIED CARD OF 'tallystonelaw02.RationalLowest'. -/
def rationalLowestCard : Claim7 := { stood := { row := rationalLowestRow, standIns := [], harness := (true, "1151be4a83df6e8c7de02a340e999a935d90af7930d398afe32d570cb8628b72"), looks := false }, kinds := [], alts := [], laidByText := true, laidKinds := [.data, .data, .data], laidTests := true, laidLooks := .later }
def RationalLowestCardSaid : Prop := Claim7.holds Tryz.pinned (.plain (OpenSpec.ofChange rationalLowestSpec)) rationalLowestCard

/-- THE TIED CARD OF 'tallystonelaw02.RationalSums'. -/
def rationalSumsCard : Claim7 := { stood := { row := rationalSumsRow, standIns := [], harness := (true, "1151be4a83df6e8c7de02a340e999a935d90af7930d398afe32d570cb8628b72"), looks := false }, kinds := [], alts := [], laidByText := true, laidKinds := [.data, .data, .data], laidTests := true, laidLooks := .later }
def RationalSumsCardSaid : Prop := Claim7.holds Tryz.pinned (.plain (OpenSpec.ofChange rationalSumsSpec)) rationalSumsCard

/-- THE TIED CARD OF 'tallystonelaw02.RationalRounds'. -/
def rationalRoundsCard : Claim7 := { stood := { row := rationalRoundsRow, standIns := [], harness := (true, "1151be4a83df6e8c7de02a340e999a935d90af7930d398afe32d570cb8628b72"), looks := false }, kinds := [], alts := [], laidByText := true, laidKinds := [.data, .data, .data], laidTests := true, laidLooks := .later }
def RationalRoundsCardSaid : Prop := Claim7.holds Tryz.pinned (.plain (OpenSpec.ofChange rationalRoundsSpec)) rationalRoundsCard

/-- THE TIED CARD OF 'tallystonelaw02.RationalOrder'. -/
def rationalOrderCard : Claim7 := { stood := { row := rationalOrderRow, standIns := [], harness := (true, "1151be4a83df6e8c7de02a340e999a935d90af7930d398afe32d570cb8628b72"), looks := false }, kinds := [], alts := [], laidByText := true, laidKinds := [.data, .data, .data], laidTests := true, laidLooks := .later }
def RationalOrderCardSaid : Prop := Claim7.holds Tryz.pinned (.plain (OpenSpec.ofChange rationalOrderSpec)) rationalOrderCard

/-- THE TIED CARD OF 'tallystonelaw02.RationalField'. -/
def rationalFieldCard : Claim7 := { stood := { row := rationalFieldRow, standIns := [], harness := (true, "1151be4a83df6e8c7de02a340e999a935d90af7930d398afe32d570cb8628b72"), looks := false }, kinds := [], alts := [], laidByText := true, laidKinds := [.data, .data, .data], laidTests := true, laidLooks := .later }
def RationalFieldCardSaid : Prop := Claim7.holds Tryz.pinned (.plain (OpenSpec.ofChange rationalFieldSpec)) rationalFieldCard

/-- THE SECOND FORM's CARD OF 'tallystonelaw02.RationalScale'. -/
def rationalScaleUptoCard : Claim7 := { stood := { row := rationalScaleUptoRow, standIns := [], harness := (true, "1151be4a83df6e8c7de02a340e999a935d90af7930d398afe32d570cb8628b72"), looks := false }, kinds := [], alts := [], laidByText := true, laidKinds := [.data, .data, .data], laidTests := true, laidLooks := .later }
def RationalScaleUptoCardSaid : Prop := Claim7.holds Tryz.pinned (.plain (OpenSpec.upto rationalScaleSpec)) rationalScaleUptoCard

/-- THE SECOND FORM's CARD OF 'tallystonelaw02.RationalShares'. -/
def rationalSharesUptoCard : Claim7 := { stood := { row := rationalSharesUptoRow, standIns := [], harness := (true, "1151be4a83df6e8c7de02a340e999a935d90af7930d398afe32d570cb8628b72"), looks := false }, kinds := [], alts := [], laidByText := true, laidKinds := [.data, .data, .data], laidTests := true, laidLooks := .later }
def RationalSharesUptoCardSaid : Prop := Claim7.holds Tryz.pinned (.plain (OpenSpec.upto rationalSharesSpec)) rationalSharesUptoCard

/-- THE SECOND FORM's CARD OF 'tallystonelaw02.RationalParse'. -/
def rationalParseUptoCard : Claim7 := { stood := { row := rationalParseUptoRow, standIns := [], harness := (true, "1151be4a83df6e8c7de02a340e999a935d90af7930d398afe32d570cb8628b72"), looks := false }, kinds := [], alts := [], laidByText := true, laidKinds := [.data, .data, .data], laidTests := true, laidLooks := .later }
def RationalParseUptoCardSaid : Prop := Claim7.holds Tryz.pinned (.plain (OpenSpec.upto rationalParseSpec)) rationalParseUptoCard

/-- THE SECOND FORM's CARD OF 'tallystonelaw02.RationalProducts'. -/
def rationalProductsUptoCard : Claim7 := { stood := { row := rationalProductsUptoRow, standIns := [], harness := (true, "1151be4a83df6e8c7de02a340e999a935d90af7930d398afe32d570cb8628b72"), looks := false }, kinds := [], alts := [], laidByText := true, laidKinds := [.data, .data, .data], laidTests := true, laidLooks := .later }
def RationalProductsUptoCardSaid : Prop := Claim7.holds Tryz.pinned (.plain (OpenSpec.upto rationalProductsSpec)) rationalProductsUptoCard

/-- THE SECOND FORM's CARD OF 'tallystonelaw02.RationalLowest'. -/
def rationalLowestUptoCard : Claim7 := { stood := { row := rationalLowestUptoRow, standIns := [], harness := (true, "1151be4a83df6e8c7de02a340e999a935d90af7930d398afe32d570cb8628b72"), looks := false }, kinds := [], alts := [], laidByText := true, laidKinds := [.data, .data, .data], laidTests := true, laidLooks := .later }
def RationalLowestUptoCardSaid : Prop := Claim7.holds Tryz.pinned (.plain (OpenSpec.upto rationalLowestSpec)) rationalLowestUptoCard

/-- THE SECOND FORM's CARD OF 'tallystonelaw02.RationalSums'. -/
def rationalSumsUptoCard : Claim7 := { stood := { row := rationalSumsUptoRow, standIns := [], harness := (true, "1151be4a83df6e8c7de02a340e999a935d90af7930d398afe32d570cb8628b72"), looks := false }, kinds := [], alts := [], laidByText := true, laidKinds := [.data, .data, .data], laidTests := true, laidLooks := .later }
def RationalSumsUptoCardSaid : Prop := Claim7.holds Tryz.pinned (.plain (OpenSpec.upto rationalSumsSpec)) rationalSumsUptoCard

/-- THE SECOND FORM's CARD OF 'tallystonelaw02.RationalRounds'. -/
def rationalRoundsUptoCard : Claim7 := { stood := { row := rationalRoundsUptoRow, standIns := [], harness := (true, "1151be4a83df6e8c7de02a340e999a935d90af7930d398afe32d570cb8628b72"), looks := false }, kinds := [], alts := [], laidByText := true, laidKinds := [.data, .data, .data], laidTests := true, laidLooks := .later }
def RationalRoundsUptoCardSaid : Prop := Claim7.holds Tryz.pinned (.plain (OpenSpec.upto rationalRoundsSpec)) rationalRoundsUptoCard

/-- THE SECOND FORM's CARD OF 'tallystonelaw02.RationalOrder'. -/
def rationalOrderUptoCard : Claim7 := { stood := { row := rationalOrderUptoRow, standIns := [], harness := (true, "1151be4a83df6e8c7de02a340e999a935d90af7930d398afe32d570cb8628b72"), looks := false }, kinds := [], alts := [], laidByText := true, laidKinds := [.data, .data, .data], laidTests := true, laidLooks := .later }
def RationalOrderUptoCardSaid : Prop := Claim7.holds Tryz.pinned (.plain (OpenSpec.upto rationalOrderSpec)) rationalOrderUptoCard

/-- THE SECOND FORM's CARD OF 'tallystonelaw02.RationalField'. -/
def rationalFieldUptoCard : Claim7 := { stood := { row := rationalFieldUptoRow, standIns := [], harness := (true, "1151be4a83df6e8c7de02a340e999a935d90af7930d398afe32d570cb8628b72"), looks := false }, kinds := [], alts := [], laidByText := true, laidKinds := [.data, .data, .data], laidTests := true, laidLooks := .later }
def RationalFieldUptoCardSaid : Prop := Claim7.holds Tryz.pinned (.plain (OpenSpec.upto rationalFieldSpec)) rationalFieldUptoCard
end Rows
end Go.Proofs.YtikpafocankggaaGreatDoor
