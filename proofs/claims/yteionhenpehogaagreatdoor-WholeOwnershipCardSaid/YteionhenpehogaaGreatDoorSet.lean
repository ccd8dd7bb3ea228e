import Derived.Test.YteionhenpehogaaGreatDoorRHold
import Derived.Test.YteionhenpehogaaGreatDoorPlainDil
namespace Go.Proofs.YteionhenpehogaaGreatDoor
open Go.RowKit Go.Maps Tally
def hcell (H : Hds) (j : Nat) : Value := if j % 4 = 0 then .int .i64 (H.ho (j / 4)) else if j % 4 = 1 then .int .i64 (H.en (j / 4)) else if j % 4 = 2 then .int .i64 (H.da (j / 4)) else .int .i64 (H.sh (j / 4))
theorem add_pl (b o i : Nat) : (⟨b, o, none⟩ : Addr).add i = ⟨b, o + i, none⟩ := by simp [Addr.add]
end Go.Proofs.YteionhenpehogaaGreatDoor
