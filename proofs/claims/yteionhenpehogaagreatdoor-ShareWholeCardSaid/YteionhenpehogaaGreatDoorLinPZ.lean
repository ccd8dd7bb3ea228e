import Derived.Test.YteionhenpehogaaGreatDoorMat
import Derived.Test.YteionhenpehogaaGreatDoorRatC
import Derived.Test.YteionhenpehogaaGreatDoorPlainR
import Derived.Test.YteionhenpehogaaGreatDoorLinG
namespace Go.Proofs.YteionhenpehogaaGreatDoor
open Go.RowKit Tally
theorem Four.at {B : Nat} {w w' : World} {b o : Nat} {x : Num} (h : Four w b o x) (hb : Below B w w') (hB : B = w.heap.size := by rfl) : Four w' b o x := by subst hB; exact h.below hb
end Go.Proofs.YteionhenpehogaaGreatDoor
namespace Go.Proofs.YteionhenpehogaaGreatDoor
open Go.RowKit Tally
end Go.Proofs.YteionhenpehogaaGreatDoor
namespace Go.Proofs.YteionhenpehogaaGreatDoor
open Go.RowKit Tally
end Go.Proofs.YteionhenpehogaaGreatDoor
