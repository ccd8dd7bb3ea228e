/- The law GraphComponents. -/
import Derived.Test.YtnkdcmloehandaaComps
import Derived.Test.YtnkdcmloehandaaLawClosed
namespace Go.Proofs.Ytnkdcmloehandaa
open Go.RowKit Plain

theorem nil_mat (w : World) : MatR w (.slice none 0 0) 0 (fun _ => 0) (fun _ _ => 0) := ⟨none, 0, 0, 0, fun _ => none, fun _ => 0, fun _ => 0, fun _ => 0, rfl, Nat.le_refl _, by omega, (fun h => absurd h (Nat.not_lt_zero _)), fun _ hr => absurd hr (Nat.not_lt_zero _)⟩

set_option maxHeartbeats 1000000 in
theorem lawComps_any {w : World} {v : Value} {G : Nat} {L : Nat → Nat} {Z : Nat → Nat → Int} (h : MatR w v G L Z) : Calls Try.prog 5 #[v] w (True1 w) := by
  obtain ⟨a, c, rfl, hG⟩ := h.shape
  have HM := Lib.hid h
  clear h
  go_enter Try.func5, Try.ntmps5
  go_wp2_with fail
  refine (awake_any w).mono ?_
  rintro e w1 ⟨rfl, hb1⟩
  have hm1 := Lib.hid (HM.out.below hb1)
  go_wp2_with fail
  refine (few_any hm1.out).mono ?_
  rintro e w2 ⟨fb, rfl, rfl⟩
  cases fb
  · go_wp2
    go_ret
    exact ⟨rfl, hb1⟩
  · have HB := Lib.hid hb1
    clear hb1
    by_cases hv : Vld G L Z
    · have HV := Lib.hid hv
      clear hv
      go_wp2_with fail
      refine (comps_yes HV.out hm1.out).mono ?_
      rintro e w2 ⟨v1, rfl, hr1, hb2⟩
      have HR1 := Lib.hid hr1
      have HB2 := Lib.hid hb2
      have hm2 := Lib.hid (hm1.out.below hb2)
      clear hr1 hb2
      go_wp2_with fail
      refine (refComps_yes HV.out hm2.out).mono ?_
      rintro e w3 ⟨v2, rfl, hr2, hb3⟩
      have HR2 := Lib.hid hr2
      have HB3 := Lib.hid hb3
      have hm3 := Lib.hid (hm2.out.below hb3)
      clear hr2 hb3
      go_wp2_with fail
      refine (sameMatrix_any (HR1.out.below HB3.out) HR2.out).mono ?_
      rintro e w4 ⟨rfl, hb4⟩
      have HB4 := Lib.hid (bt (bt (bt HB.out HB2.out) HB3.out) hb4)
      have hm4 := Lib.hid (hm3.out.below hb4)
      clear hb4
      go_wp2_with fail
      refine (cyclic_yes HV.out hm4.out).mono ?_
      rintro e w5 ⟨bk, _, rfl, hrow, hb5⟩
      have HW := Lib.hid hrow
      have HB5 := Lib.hid hb5
      have hm5 := Lib.hid (hm4.out.below hb5)
      clear hrow hb5
      go_wp2_with fail
      refine (refCyclic_yes HV.out hm5.out).mono ?_
      rintro e w6 ⟨v6, rfl, hr6, hb6⟩
      have HR6 := Lib.hid hr6
      have HB6 := Lib.hid hb6
      clear hr6 hb6
      go_wp2_with fail
      refine (sameBools_any ((RowR.of_rowIs HW.out hG).below HB6.out) HR6.out).mono ?_
      rintro e w7 ⟨rfl, hb7⟩
      go_wp2
      go_ret
      exact ⟨rfl, bt (bt (bt HB4.out HB5.out) HB6.out) hb7⟩
    · have HV := Lib.hid hv
      clear hv
      go_wp2_with fail
      refine (comps_no HV.out hm1.out).mono ?_
      rintro e w2 ⟨rfl, hb2⟩
      have HB2 := Lib.hid hb2
      have hm2 := Lib.hid (hm1.out.below hb2)
      clear hb2
      go_wp2_with fail
      refine (refComps_no HV.out hm2.out).mono ?_
      rintro e w3 ⟨rfl, hb3⟩
      have HB3 := Lib.hid hb3
      have hm3 := Lib.hid (hm2.out.below hb3)
      clear hb3
      go_wp2_with fail
      refine (sameMatrix_any (nil_mat _) (nil_mat _)).mono ?_
      rintro e w4 ⟨rfl, hb4⟩
      have HB4 := Lib.hid (bt (bt (bt HB.out HB2.out) HB3.out) hb4)
      have hm4 := Lib.hid (hm3.out.below hb4)
      clear hb4
      go_wp2_with fail
      refine (cyclic_no HV.out hm4.out).mono ?_
      rintro e w5 ⟨rfl, hb5⟩
      have HB5 := Lib.hid hb5
      have hm5 := Lib.hid (hm4.out.below hb5)
      clear hb5
      go_wp2_with fail
      refine (refCyclic_no HV.out hm5.out).mono ?_
      rintro e w6 ⟨rfl, hb6⟩
      have HB6 := Lib.hid hb6
      clear hb6
      go_wp2_with fail
      refine (sameBools_any (f := fun _ => false) (nil_row _) (nil_row _)).mono ?_
      rintro e w7 ⟨rfl, hb7⟩
      go_wp2
      go_ret
      exact ⟨rfl, bt (bt (bt HB4.out HB5.out) HB6.out) hb7⟩
end Go.Proofs.Ytnkdcmloehandaa
