import Derived.Test.YteionhenpehogaaGreatDoorLinF
import Derived.Test.YteionhenpehogaaGreatDoorLinA
namespace Go.Proofs.YteionhenpehogaaGreatDoor
open Go.RowKit Tally
theorem MatsR.even {w : World} {v : Value} {m : Nat} {L : Nat → Nat} {A : Mx} (h : MatsR w v m L A) (hv : IsMat m L) : MatsR w v m (fun _ => colsN m L) A := h.congr (fun i hi => hv.1 i hi) (fun _ _ _ _ => rfl)
end Go.Proofs.YteionhenpehogaaGreatDoor
