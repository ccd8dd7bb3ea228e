/-
  DERIVED. GIVEN WITH THE SEED: THE CARDS: each row of YtihjaakkpnjolaaDoorRows.lean that lists a variable, with what it lists TIED to the program's text (the seventh form; the later family's looks); each row that meets fmt, with fmt's text TOLD by the authors' own Lean function (tested against real Go, not proved from fmt's source: count such statements apart). THE CARD IS WHAT COUNTS. Prove the row's statement (the work); the ties are given (YtihjaakkpnjolaaDoorTie.lean); close each card by the builder's one call (the guide's Derived/Test/ToyasCard.lean, 'card_holds'). Laid BY PROGRAM, IN A SANDBOX (cutbox-door.mjs). By AI agents, Wed Nov 11 2026. No macro, syntax, notation, axiom, sorry.
-/
import Derived.Test.YtihjaakkpnjolaaDoorRows
import GoSem.ClaimSeven
namespace Go.Proofs.YtihjaakkpnjolaaDoor
namespace Rows

/-- THE TIED CARD OF 'tallystonelaw01.IntegerProducts'. -/
def integerProductsCard : Claim7 := { stood := { row := integerProductsRow, standIns := [], harness := (true, "043f69768caa9926501d135db367f2396d13868db834c2e59eb8939789e1b1c5"), looks := false }, kinds := [], alts := [], laidByText := true, laidKinds := [.data, .data, .data], laidTests := true, laidLooks := .later }
def IntegerProductsCardSaid : Prop := Claim7.holds Tryd.pinned (.plain (OpenSpec.ofChange integerProductsSpec)) integerProductsCard

/-- THE TIED CARD OF 'tallystonelaw01.IntegerParse'. -/
def integerParseCard : Claim7 := { stood := { row := integerParseRow, standIns := [], harness := (true, "043f69768caa9926501d135db367f2396d13868db834c2e59eb8939789e1b1c5"), looks := false }, kinds := [], alts := [], laidByText := true, laidKinds := [.data, .data, .data], laidTests := true, laidLooks := .later }
def IntegerParseCardSaid : Prop := Claim7.holds Tryd.pinned (.plain (OpenSpec.ofChange integerParseSpec)) integerParseCard

/-- THE TIED CARD OF 'tallystonelaw01.IntegerSmall'. -/
def integerSmallCard : Claim7 := { stood := { row := integerSmallRow, standIns := [], harness := (true, "043f69768caa9926501d135db367f2396d13868db834c2e59eb8939789e1b1c5"), looks := false }, kinds := [], alts := [], laidByText := true, laidKinds := [.data, .data, .data], laidTests := true, laidLooks := .later }
def IntegerSmallCardSaid : Prop := Claim7.holds Tryd.pinned (.plain (OpenSpec.ofChange integerSmallSpec)) integerSmallCard

/-- THE TIED CARD OF 'tallystonelaw01.IntegerSums'. -/
def integerSumsCard : Claim7 := { stood := { row := integerSumsRow, standIns := [], harness := (true, "043f69768caa9926501d135db367f2396d13868db834c2e59eb8939789e1b1c5"), looks := false }, kinds := [], alts := [], laidByText := true, laidKinds := [.data, .data, .data], laidTests := true, laidLooks := .later }
def IntegerSumsCardSaid : Prop := Claim7.holds Tryd.pinned (.plain (OpenSpec.ofChange integerSumsSpec)) integerSumsCard

/-- THE TIED CARD OF 'tallystonelaw01.IntegerRing'. -/
def integerRingCard : Claim7 := { stood := { row := integerRingRow, standIns := [], harness := (true, "043f69768caa9926501d135db367f2396d13868db834c2e59eb8939789e1b1c5"), looks := false }, kinds := [], alts := [], laidByText := true, laidKinds := [.data, .data, .data], laidTests := true, laidLooks := .later }
def IntegerRingCardSaid : Prop := Claim7.holds Tryd.pinned (.plain (OpenSpec.ofChange integerRingSpec)) integerRingCard

/-- THE TIED CARD OF 'tallystonelaw01.IntegerOrder'. -/
def integerOrderCard : Claim7 := { stood := { row := integerOrderRow, standIns := [], harness := (true, "043f69768caa9926501d135db367f2396d13868db834c2e59eb8939789e1b1c5"), looks := false }, kinds := [], alts := [], laidByText := true, laidKinds := [.data, .data, .data], laidTests := true, laidLooks := .later }
def IntegerOrderCardSaid : Prop := Claim7.holds Tryd.pinned (.plain (OpenSpec.ofChange integerOrderSpec)) integerOrderCard

/-- THE TIED CARD OF 'tallystonelaw01.IntegerQuotients'. -/
def integerQuotientsCard : Claim7 := { stood := { row := integerQuotientsRow, standIns := [], harness := (true, "043f69768caa9926501d135db367f2396d13868db834c2e59eb8939789e1b1c5"), looks := false }, kinds := [], alts := [], laidByText := true, laidKinds := [.data, .data, .data], laidTests := true, laidLooks := .later }
def IntegerQuotientsCardSaid : Prop := Claim7.holds Tryd.pinned (.plain (OpenSpec.ofChange integerQuotientsSpec)) integerQuotientsCard

/-- THE TIED CARD OF 'tallystonelaw01.IntegerDivides'. -/
def integerDividesCard : Claim7 := { stood := { row := integerDividesRow, standIns := [], harness := (true, "043f69768caa9926501d135db367f2396d13868db834c2e59eb8939789e1b1c5"), looks := false }, kinds := [], alts := [], laidByText := true, laidKinds := [.data, .data, .data], laidTests := true, laidLooks := .later }
def IntegerDividesCardSaid : Prop := Claim7.holds Tryd.pinned (.plain (OpenSpec.ofChange integerDividesSpec)) integerDividesCard

/-- THE TIED CARD OF 'tallystonelaw01.IntegerDivisors'. -/
def integerDivisorsCard : Claim7 := { stood := { row := integerDivisorsRow, standIns := [], harness := (true, "043f69768caa9926501d135db367f2396d13868db834c2e59eb8939789e1b1c5"), looks := false }, kinds := [], alts := [], laidByText := true, laidKinds := [.data, .data, .data], laidTests := true, laidLooks := .later }
def IntegerDivisorsCardSaid : Prop := Claim7.holds Tryd.pinned (.plain (OpenSpec.ofChange integerDivisorsSpec)) integerDivisorsCard

/-- THE TIED CARD OF 'tallystonelaw02.RationalOf'. -/
def rationalOfCard : Claim7 := { stood := { row := rationalOfRow, standIns := [], harness := (true, "043f69768caa9926501d135db367f2396d13868db834c2e59eb8939789e1b1c5"), looks := false }, kinds := [], alts := [], laidByText := true, laidKinds := [.data, .data, .data], laidTests := true, laidLooks := .later }
def RationalOfCardSaid : Prop := Claim7.holds Tryd.pinned (.plain (OpenSpec.ofChange rationalOfSpec)) rationalOfCard

/-- THE TIED CARD OF 'tallystonelaw22.LinearAdds'. -/
def linearAddsCard : Claim7 := { stood := { row := linearAddsRow, standIns := [], harness := (true, "043f69768caa9926501d135db367f2396d13868db834c2e59eb8939789e1b1c5"), looks := false }, kinds := [], alts := [], laidByText := true, laidKinds := [.data, .data, .data], laidTests := true, laidLooks := .later }
def LinearAddsCardSaid : Prop := Claim7.holds Tryd.pinned (.plain (OpenSpec.ofChange linearAddsSpec)) linearAddsCard

/-- THE TIED CARD OF 'tallystonelaw22.LinearCramer'. -/
def linearCramerCard : Claim7 := { stood := { row := linearCramerRow, standIns := [], harness := (true, "043f69768caa9926501d135db367f2396d13868db834c2e59eb8939789e1b1c5"), looks := false }, kinds := [], alts := [], laidByText := true, laidKinds := [.data, .data, .data], laidTests := true, laidLooks := .later }
def LinearCramerCardSaid : Prop := Claim7.holds Tryd.pinned (.plain (OpenSpec.ofChange linearCramerSpec)) linearCramerCard

/-- THE TIED CARD OF 'tallystonelaw22.LinearInverts'. -/
def linearInvertsCard : Claim7 := { stood := { row := linearInvertsRow, standIns := [], harness := (true, "043f69768caa9926501d135db367f2396d13868db834c2e59eb8939789e1b1c5"), looks := false }, kinds := [], alts := [], laidByText := true, laidKinds := [.data, .data, .data], laidTests := true, laidLooks := .later }
def LinearInvertsCardSaid : Prop := Claim7.holds Tryd.pinned (.plain (OpenSpec.ofChange linearInvertsSpec)) linearInvertsCard

/-- THE SECOND FORM's CARD OF 'tallystonelaw01.IntegerProducts'. -/
def integerProductsUptoCard : Claim7 := { stood := { row := integerProductsUptoRow, standIns := [], harness := (true, "043f69768caa9926501d135db367f2396d13868db834c2e59eb8939789e1b1c5"), looks := false }, kinds := [], alts := [], laidByText := true, laidKinds := [.data, .data, .data], laidTests := true, laidLooks := .later }
def IntegerProductsUptoCardSaid : Prop := Claim7.holds Tryd.pinned (.plain (OpenSpec.upto integerProductsSpec)) integerProductsUptoCard

/-- THE SECOND FORM's CARD OF 'tallystonelaw01.IntegerParse'. -/
def integerParseUptoCard : Claim7 := { stood := { row := integerParseUptoRow, standIns := [], harness := (true, "043f69768caa9926501d135db367f2396d13868db834c2e59eb8939789e1b1c5"), looks := false }, kinds := [], alts := [], laidByText := true, laidKinds := [.data, .data, .data], laidTests := true, laidLooks := .later }
def IntegerParseUptoCardSaid : Prop := Claim7.holds Tryd.pinned (.plain (OpenSpec.upto integerParseSpec)) integerParseUptoCard

/-- THE SECOND FORM's CARD OF 'tallystonelaw01.IntegerSmall'. -/
def integerSmallUptoCard : Claim7 := { stood := { row := integerSmallUptoRow, standIns := [], harness := (true, "043f69768caa9926501d135db367f2396d13868db834c2e59eb8939789e1b1c5"), looks := false }, kinds := [], alts := [], laidByText := true, laidKinds := [.data, .data, .data], laidTests := true, laidLooks := .later }
def IntegerSmallUptoCardSaid : Prop := Claim7.holds Tryd.pinned (.plain (OpenSpec.upto integerSmallSpec)) integerSmallUptoCard

/-- THE SECOND FORM's CARD OF 'tallystonelaw01.IntegerSums'. -/
def integerSumsUptoCard : Claim7 := { stood := { row := integerSumsUptoRow, standIns := [], harness := (true, "043f69768caa9926501d135db367f2396d13868db834c2e59eb8939789e1b1c5"), looks := false }, kinds := [], alts := [], laidByText := true, laidKinds := [.data, .data, .data], laidTests := true, laidLooks := .later }
def IntegerSumsUptoCardSaid : Prop := Claim7.holds Tryd.pinned (.plain (OpenSpec.upto integerSumsSpec)) integerSumsUptoCard

/-- THE SECOND FORM's CARD OF 'tallystonelaw01.IntegerRing'. -/
def integerRingUptoCard : Claim7 := { stood := { row := integerRingUptoRow, standIns := [], harness := (true, "043f69768caa9926501d135db367f2396d13868db834c2e59eb8939789e1b1c5"), looks := false }, kinds := [], alts := [], laidByText := true, laidKinds := [.data, .data, .data], laidTests := true, laidLooks := .later }
def IntegerRingUptoCardSaid : Prop := Claim7.holds Tryd.pinned (.plain (OpenSpec.upto integerRingSpec)) integerRingUptoCard

/-- THE SECOND FORM's CARD OF 'tallystonelaw01.IntegerOrder'. -/
def integerOrderUptoCard : Claim7 := { stood := { row := integerOrderUptoRow, standIns := [], harness := (true, "043f69768caa9926501d135db367f2396d13868db834c2e59eb8939789e1b1c5"), looks := false }, kinds := [], alts := [], laidByText := true, laidKinds := [.data, .data, .data], laidTests := true, laidLooks := .later }
def IntegerOrderUptoCardSaid : Prop := Claim7.holds Tryd.pinned (.plain (OpenSpec.upto integerOrderSpec)) integerOrderUptoCard

/-- THE SECOND FORM's CARD OF 'tallystonelaw01.IntegerQuotients'. -/
def integerQuotientsUptoCard : Claim7 := { stood := { row := integerQuotientsUptoRow, standIns := [], harness := (true, "043f69768caa9926501d135db367f2396d13868db834c2e59eb8939789e1b1c5"), looks := false }, kinds := [], alts := [], laidByText := true, laidKinds := [.data, .data, .data], laidTests := true, laidLooks := .later }
def IntegerQuotientsUptoCardSaid : Prop := Claim7.holds Tryd.pinned (.plain (OpenSpec.upto integerQuotientsSpec)) integerQuotientsUptoCard

/-- THE SECOND FORM's CARD OF 'tallystonelaw01.IntegerDivides'. -/
def integerDividesUptoCard : Claim7 := { stood := { row := integerDividesUptoRow, standIns := [], harness := (true, "043f69768caa9926501d135db367f2396d13868db834c2e59eb8939789e1b1c5"), looks := false }, kinds := [], alts := [], laidByText := true, laidKinds := [.data, .data, .data], laidTests := true, laidLooks := .later }
def IntegerDividesUptoCardSaid : Prop := Claim7.holds Tryd.pinned (.plain (OpenSpec.upto integerDividesSpec)) integerDividesUptoCard

/-- THE SECOND FORM's CARD OF 'tallystonelaw01.IntegerDivisors'. -/
def integerDivisorsUptoCard : Claim7 := { stood := { row := integerDivisorsUptoRow, standIns := [], harness := (true, "043f69768caa9926501d135db367f2396d13868db834c2e59eb8939789e1b1c5"), looks := false }, kinds := [], alts := [], laidByText := true, laidKinds := [.data, .data, .data], laidTests := true, laidLooks := .later }
def IntegerDivisorsUptoCardSaid : Prop := Claim7.holds Tryd.pinned (.plain (OpenSpec.upto integerDivisorsSpec)) integerDivisorsUptoCard

/-- THE SECOND FORM's CARD OF 'tallystonelaw02.RationalOf'. -/
def rationalOfUptoCard : Claim7 := { stood := { row := rationalOfUptoRow, standIns := [], harness := (true, "043f69768caa9926501d135db367f2396d13868db834c2e59eb8939789e1b1c5"), looks := false }, kinds := [], alts := [], laidByText := true, laidKinds := [.data, .data, .data], laidTests := true, laidLooks := .later }
def RationalOfUptoCardSaid : Prop := Claim7.holds Tryd.pinned (.plain (OpenSpec.upto rationalOfSpec)) rationalOfUptoCard

/-- THE SECOND FORM's CARD OF 'tallystonelaw22.LinearAdds'. -/
def linearAddsUptoCard : Claim7 := { stood := { row := linearAddsUptoRow, standIns := [], harness := (true, "043f69768caa9926501d135db367f2396d13868db834c2e59eb8939789e1b1c5"), looks := false }, kinds := [], alts := [], laidByText := true, laidKinds := [.data, .data, .data], laidTests := true, laidLooks := .later }
def LinearAddsUptoCardSaid : Prop := Claim7.holds Tryd.pinned (.plain (OpenSpec.upto linearAddsSpec)) linearAddsUptoCard

/-- THE SECOND FORM's CARD OF 'tallystonelaw22.LinearCramer'. -/
def linearCramerUptoCard : Claim7 := { stood := { row := linearCramerUptoRow, standIns := [], harness := (true, "043f69768caa9926501d135db367f2396d13868db834c2e59eb8939789e1b1c5"), looks := false }, kinds := [], alts := [], laidByText := true, laidKinds := [.data, .data, .data], laidTests := true, laidLooks := .later }
def LinearCramerUptoCardSaid : Prop := Claim7.holds Tryd.pinned (.plain (OpenSpec.upto linearCramerSpec)) linearCramerUptoCard

/-- THE SECOND FORM's CARD OF 'tallystonelaw22.LinearInverts'. -/
def linearInvertsUptoCard : Claim7 := { stood := { row := linearInvertsUptoRow, standIns := [], harness := (true, "043f69768caa9926501d135db367f2396d13868db834c2e59eb8939789e1b1c5"), looks := false }, kinds := [], alts := [], laidByText := true, laidKinds := [.data, .data, .data], laidTests := true, laidLooks := .later }
def LinearInvertsUptoCardSaid : Prop := Claim7.holds Tryd.pinned (.plain (OpenSpec.upto linearInvertsSpec)) linearInvertsUptoCard
end Rows
end Go.Proofs.YtihjaakkpnjolaaDoor
