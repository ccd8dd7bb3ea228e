/- The law package's equal (layer 22). -/
import Derived.Test.YtjphfdlpcakpeaaGreatDoorMat
import Derived.Test.YtjphfdlpcakpeaaGreatDoorRatC
import Derived.Test.YtjphfdlpcakpeaaGreatDoorPlainR
namespace Go.Proofs.YtjphfdlpcakpeaaGreatDoor
open Go.RowKit Tally

theorem Four.at {B : Nat} {w w' : World} {b o : Nat} {x : Num} (h : Four w b o x) (hb : Below B w w') (hB : B = w.heap.size := by rfl) : Four w' b o x := by subst hB; exact h.below hb

end Go.Proofs.YtjphfdlpcakpeaaGreatDoor
