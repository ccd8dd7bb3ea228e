import Derived.Test.YteionhenpehogaaGreatDoorShareEffectiveL
import Derived.Test.YteionhenpehogaaGreatDoorShareEffectiveC
import Derived.Test.YteionhenpehogaaGreatDoorCards
import Derived.Test.YteionhenpehogaaGreatDoorTie
import Derived.SevenTiedAt
namespace Go.Proofs.YteionhenpehogaaGreatDoor.shareEffective
open Go.ChangeShapes Go.WideShapes Go.ChangeAt Go.RowKit Go.ChangeMaps
theorem over : Rows.ShareEffectiveSaid :=
 OpenClaim.holds_of_wide 8 Tryz.f8 rfl rfl rfl rfl rfl rfl rfl ⟨rfl, rfl, rfl, rfl, rfl⟩ rfl rfl rfl rfl rfl (by kernel_rfl) Tryz.func8 closed
  (of_decide_eq_true (by kernel_rfl)) (by unfold Func.isWrapper; first | (rw [if_pos (by decide +kernel)]; kernel_rfl) | (rw [if_neg (by decide +kernel)]; exact ⟨rfl, rfl⟩))
  (fun os started H enc _ => lifted os started H enc)
theorem proved : Rows.ShareEffectiveCardSaid :=
 Claim7.holds_tied_plain_at .later [] [.data, .data, .data] true Rows.shareEffectiveCard.stood.harness false
  over (fun _ h => by cases h) (by kernel_rfl) (fun _ h => by cases h) shareEffective_row_tie rfl ⟨rfl, rfl⟩ (by kernel_rfl) rfl
  (fun f fn hf hfn => by
   obtain rfl : f = 8 := Option.some.inj ((show Tryz.prog.funcNamed "tallystone/tallystonelaw23.ShareEffective" = some 8 by kernel_rfl).symm.trans hf) |>.symm
   obtain rfl : fn = Tryz.f8 := (Option.some.inj (Tryz.func8.symm.trans hfn)).symm
   exact ⟨by kernel_rfl, fun j t ht => by
    rw [Tryz.params8] at ht
    have hm : t ∈ [3, 22, 3] := by simpa using Array.mem_of_getElem? ht
    have hall : ([3, 22, 3].all fun u => !Tryz.prog.wantsStandIn u) = true := by kernel_rfl
    exact (show Tryz.prog.wantsStandIn t = false by simpa using List.all_eq_true.1 hall t hm)⟩)
  (by kernel_rfl)
#print axioms proved
end Go.Proofs.YteionhenpehogaaGreatDoor.shareEffective
