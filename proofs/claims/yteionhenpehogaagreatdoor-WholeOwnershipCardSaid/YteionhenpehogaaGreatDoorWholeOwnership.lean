import Derived.Test.YteionhenpehogaaGreatDoorWholeOwnershipL
import Derived.Test.YteionhenpehogaaGreatDoorWholeOwnershipC
import Derived.Test.YteionhenpehogaaGreatDoorCards
import Derived.Test.YteionhenpehogaaGreatDoorTie
import Derived.SevenTiedAt
namespace Go.Proofs.YteionhenpehogaaGreatDoor.wholeOwnership
open Go.ChangeShapes Go.WideShapes Go.ChangeAt Go.RowKit Go.ChangeMaps
theorem over : Rows.WholeOwnershipSaid :=
 OpenClaim.holds_of_wide 4 Tryz.f4 rfl rfl rfl rfl rfl rfl rfl ⟨rfl, rfl, rfl, rfl, rfl⟩ rfl rfl rfl rfl rfl (by kernel_rfl) Tryz.func4 closed
  (of_decide_eq_true (by kernel_rfl)) (by unfold Func.isWrapper; first | (rw [if_pos (by decide +kernel)]; kernel_rfl) | (rw [if_neg (by decide +kernel)]; exact ⟨rfl, rfl⟩))
  (fun os started H enc _ => lifted os started H enc)
theorem proved : Rows.WholeOwnershipCardSaid :=
 Claim7.holds_tied_plain_at .later [] [.data, .data, .data] true Rows.wholeOwnershipCard.stood.harness false
  over (fun _ h => by cases h) (by kernel_rfl) (fun _ h => by cases h) wholeOwnership_row_tie rfl ⟨rfl, rfl⟩ (by kernel_rfl) rfl
  (fun f fn hf hfn => by
   obtain rfl : f = 4 := Option.some.inj ((show Tryz.prog.funcNamed "tallystone/tallystonetop.WholeOwnership" = some 4 by kernel_rfl).symm.trans hf) |>.symm
   obtain rfl : fn = Tryz.f4 := (Option.some.inj (Tryz.func4.symm.trans hfn)).symm
   exact ⟨by kernel_rfl, fun j t ht => by
    rw [Tryz.params4] at ht
    have hm : t ∈ [41, 22, 3] := by simpa using Array.mem_of_getElem? ht
    have hall : ([41, 22, 3].all fun u => !Tryz.prog.wantsStandIn u) = true := by kernel_rfl
    exact (show Tryz.prog.wantsStandIn t = false by simpa using List.all_eq_true.1 hall t hm)⟩)
  (by kernel_rfl)
#print axioms proved
end Go.Proofs.YteionhenpehogaaGreatDoor.wholeOwnership
