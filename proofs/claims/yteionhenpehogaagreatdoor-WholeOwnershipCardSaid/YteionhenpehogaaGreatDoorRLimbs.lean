import Derived.Test.YteionhenpehogaaGreatDoorLimbs
import Derived.Test.YteionhenpehogaaGreatDoorInts
import Derived.Lib.Builder
import Derived.Lib.SmallJoins
import Derived.IntWalk
namespace Go.Proofs.YteionhenpehogaaGreatDoor
open Go.RowKit Tally
end Go.Proofs.YteionhenpehogaaGreatDoor
namespace Go.Proofs.YteionhenpehogaaGreatDoor
open Go.RowKit Tally
end Go.Proofs.YteionhenpehogaaGreatDoor
namespace Go.Proofs.YteionhenpehogaaGreatDoor
open Go.RowKit Tally
def GivesQC (w : World) (n : Nat) (e : Ending) (w' : World) : Prop :=
 ∃ u l, e = .returned u ∧ QR w' u l ∧ Canon 10000 l ∧ val 10000 l = n ∧ Below w.heap.size w w'
theorem GivesQC.plain {w w' : World} {n : Nat} {e : Ending} (h : GivesQC w n e w') : GivesQ w n e w' := by
 obtain ⟨u, l, h1, h2, h3, h4, h5⟩ := h
 exact ⟨u, l, h1, h2, h3.1, h4, h5⟩
section
variable {w : World} {g len T P c x y i k q : Nat} {L b : List Nat}
end
end Go.Proofs.YteionhenpehogaaGreatDoor
namespace Go.Proofs.YteionhenpehogaaGreatDoor
open Go.RowKit Tally
end Go.Proofs.YteionhenpehogaaGreatDoor
namespace Go.Proofs.YteionhenpehogaaGreatDoor
open Go.RowKit Tally
end Go.Proofs.YteionhenpehogaaGreatDoor
namespace Go.Proofs.YteionhenpehogaaGreatDoor
open Go.RowKit Tally
end Go.Proofs.YteionhenpehogaaGreatDoor
namespace Go.Proofs.YteionhenpehogaaGreatDoor
open Go.RowKit Tally
end Go.Proofs.YteionhenpehogaaGreatDoor
namespace Go.Proofs.YteionhenpehogaaGreatDoor
open Go.RowKit Tally
end Go.Proofs.YteionhenpehogaaGreatDoor
