import Derived.Test.YteionhenpehogaaGreatDoorRRat
import Derived.Test.YteionhenpehogaaGreatDoorRatD
namespace Go.Proofs.YteionhenpehogaaGreatDoor
open Go.RowKit Tally Go.Lib
end Go.Proofs.YteionhenpehogaaGreatDoor
