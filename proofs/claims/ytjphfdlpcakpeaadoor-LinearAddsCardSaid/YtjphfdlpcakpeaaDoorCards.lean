/-
  DERIVED. GIVEN WITH THE SEED: THE CARDS: each row of YtjphfdlpcakpeaaDoorRows.lean that lists a variable, with what it lists TIED to the program's text (the seventh form; the later family's looks); each row that meets fmt, with fmt's text TOLD by the authors' own Lean function (tested against real Go, not proved from fmt's source: count such statements apart). THE CARD IS WHAT COUNTS. Prove the row's statement (the work); the ties are given (YtjphfdlpcakpeaaDoorTie.lean); close each card by the builder's one call (the guide's Derived/Test/ToyasCard.lean, 'card_holds'). Laid BY PROGRAM, IN A SANDBOX (cutbox-door.mjs). By AI agents, Wed Nov 11 2026. No macro, syntax, notation, axiom, sorry.
-/
import Derived.Test.YtjphfdlpcakpeaaDoorRows
import GoSem.ClaimSeven
namespace Go.Proofs.YtjphfdlpcakpeaaDoor
namespace Rows

/-- THE TIED CARD OF 'tallystonelaw22.LinearAdds'. -/
def linearAddsCard : Claim7 := { stood := { row := linearAddsRow, standIns := [], harness := (true, "f6ca305173c4f5267b7398653edf34a7f40916889787d185bcd2d142c3d625b5"), looks := false }, kinds := [], alts := [], laidByText := true, laidKinds := [.data, .data, .data], laidTests := true, laidLooks := .later }
def LinearAddsCardSaid : Prop := Claim7.holds Tryd.pinned (.plain (OpenSpec.ofChange linearAddsSpec)) linearAddsCard

/-- THE TIED CARD OF 'tallystonelaw22.LinearCramer'. -/
def linearCramerCard : Claim7 := { stood := { row := linearCramerRow, standIns := [], harness := (true, "f6ca305173c4f5267b7398653edf34a7f40916889787d185bcd2d142c3d625b5"), looks := false }, kinds := [], alts := [], laidByText := true, laidKinds := [.data, .data, .data], laidTests := true, laidLooks := .later }
def LinearCramerCardSaid : Prop := Claim7.holds Tryd.pinned (.plain (OpenSpec.ofChange linearCramerSpec)) linearCramerCard

/-- THE TIED CARD OF 'tallystonelaw22.LinearInverts'. -/
def linearInvertsCard : Claim7 := { stood := { row := linearInvertsRow, standIns := [], harness := (true, "f6ca305173c4f5267b7398653edf34a7f40916889787d185bcd2d142c3d625b5"), looks := false }, kinds := [], alts := [], laidByText := true, laidKinds := [.data, .data, .data], laidTests := true, laidLooks := .later }
def LinearInvertsCardSaid : Prop := Claim7.holds Tryd.pinned (.plain (OpenSpec.ofChange linearInvertsSpec)) linearInvertsCard

/-- THE SECOND FORM's CARD OF 'tallystonelaw22.LinearAdds'. -/
def linearAddsUptoCard : Claim7 := { stood := { row := linearAddsUptoRow, standIns := [], harness := (true, "f6ca305173c4f5267b7398653edf34a7f40916889787d185bcd2d142c3d625b5"), looks := false }, kinds := [], alts := [], laidByText := true, laidKinds := [.data, .data, .data], laidTests := true, laidLooks := .later }
def LinearAddsUptoCardSaid : Prop := Claim7.holds Tryd.pinned (.plain (OpenSpec.upto linearAddsSpec)) linearAddsUptoCard

/-- THE SECOND FORM's CARD OF 'tallystonelaw22.LinearCramer'. -/
def linearCramerUptoCard : Claim7 := { stood := { row := linearCramerUptoRow, standIns := [], harness := (true, "f6ca305173c4f5267b7398653edf34a7f40916889787d185bcd2d142c3d625b5"), looks := false }, kinds := [], alts := [], laidByText := true, laidKinds := [.data, .data, .data], laidTests := true, laidLooks := .later }
def LinearCramerUptoCardSaid : Prop := Claim7.holds Tryd.pinned (.plain (OpenSpec.upto linearCramerSpec)) linearCramerUptoCard

/-- THE SECOND FORM's CARD OF 'tallystonelaw22.LinearInverts'. -/
def linearInvertsUptoCard : Claim7 := { stood := { row := linearInvertsUptoRow, standIns := [], harness := (true, "f6ca305173c4f5267b7398653edf34a7f40916889787d185bcd2d142c3d625b5"), looks := false }, kinds := [], alts := [], laidByText := true, laidKinds := [.data, .data, .data], laidTests := true, laidLooks := .later }
def LinearInvertsUptoCardSaid : Prop := Claim7.holds Tryd.pinned (.plain (OpenSpec.upto linearInvertsSpec)) linearInvertsUptoCard
end Rows
end Go.Proofs.YtjphfdlpcakpeaaDoor
