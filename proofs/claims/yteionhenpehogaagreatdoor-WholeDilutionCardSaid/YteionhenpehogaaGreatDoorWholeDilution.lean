import Derived.Test.YteionhenpehogaaGreatDoorWholeDilutionL
import Derived.Test.YteionhenpehogaaGreatDoorWholeDilutionC
import Derived.Test.YteionhenpehogaaGreatDoorCards
import Derived.Test.YteionhenpehogaaGreatDoorTie
import Derived.SevenTiedAt
namespace Go.Proofs.YteionhenpehogaaGreatDoor.wholeDilution
open Go.ChangeShapes Go.WideShapes Go.ChangeAt Go.RowKit Go.ChangeMaps
theorem over : Rows.WholeDilutionSaid :=
 OpenClaim.holds_of_wide 3 Tryz.f3 rfl rfl rfl rfl rfl rfl rfl ⟨rfl, rfl, rfl, rfl, rfl⟩ rfl rfl rfl rfl rfl (by kernel_rfl) Tryz.func3 closed
  (of_decide_eq_true (by kernel_rfl)) (by unfold Func.isWrapper; first | (rw [if_pos (by decide +kernel)]; kernel_rfl) | (rw [if_neg (by decide +kernel)]; exact ⟨rfl, rfl⟩))
  (fun os started H enc _ => lifted os started H enc)
theorem proved : Rows.WholeDilutionCardSaid :=
 Claim7.holds_tied_plain_at .later [] [.data, .data, .data] true Rows.wholeDilutionCard.stood.harness false
  over (fun _ h => by cases h) (by kernel_rfl) (fun _ h => by cases h) wholeDilution_row_tie rfl ⟨rfl, rfl⟩ (by kernel_rfl) rfl
  (fun f fn hf hfn => by
   obtain rfl : f = 3 := Option.some.inj ((show Tryz.prog.funcNamed "tallystone/tallystonetop.WholeDilution" = some 3 by kernel_rfl).symm.trans hf) |>.symm
   obtain rfl : fn = Tryz.f3 := (Option.some.inj (Tryz.func3.symm.trans hfn)).symm
   exact ⟨by kernel_rfl, fun j t ht => by
    rw [Tryz.params3] at ht
    have hm : t ∈ [3, 22, 24] := by simpa using Array.mem_of_getElem? ht
    have hall : ([3, 22, 24].all fun u => !Tryz.prog.wantsStandIn u) = true := by kernel_rfl
    exact (show Tryz.prog.wantsStandIn t = false by simpa using List.all_eq_true.1 hall t hm)⟩)
  (by kernel_rfl)
#print axioms proved
end Go.Proofs.YteionhenpehogaaGreatDoor.wholeDilution
