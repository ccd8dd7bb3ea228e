/- The law GraphReach: it answers true for every matrix and every entity. -/
import Derived.Test.YtnkdcmloehandaaAwake
namespace Go.Proofs.Ytnkdcmloehandaa
open Go.RowKit Plain

set_option maxHeartbeats 1000000 in
theorem lawReach_any {w : World} {v : Value} {G : Nat} {L : Nat → Nat} {Z : Nat → Nat → Int} {x : Int} (h : MatR w v G L Z) : Calls Try.prog 3 #[v, .int .i64 x] w (True1 w) := by
  obtain ⟨a, c, rfl, hG⟩ := h.shape
  have HM := Lib.hid h
  clear h
  go_enter Try.func3, Try.ntmps3
  go_wp2_with fail
  refine (awake_any w).mono ?_
  rintro e w1 ⟨rfl, hb1⟩
  have hm1 := Lib.hid (HM.out.below hb1)
  go_wp2_with fail
  refine (few_any hm1.out).mono ?_
  rintro e w2 ⟨fb, rfl, rfl⟩
  cases fb
  · go_wp2
    go_ret
    exact ⟨rfl, hb1⟩
  · by_cases hv : Vld G L Z
    · have HV := Lib.hid hv
      clear hv
      go_wp2_with fail
      refine (valid_any (vb_true HV.out) hm1.out).mono ?_
      rintro e w2 ⟨rfl, hb2⟩
      have hm2 := Lib.hid (hm1.out.below hb2)
      go_wp2_with fail
      refine (refValid_any (vb_true HV.out) hm2.out).mono ?_
      rintro e w3 ⟨rfl, hb3⟩
      have hm3 := Lib.hid (hm2.out.below hb3)
      have HB := Lib.hid ((hb1.trans (hb2.mono hb1.size)).trans (hb3.mono (Nat.le_trans hb1.size hb2.size)))
      clear hb1 hb2 hb3
      by_cases hx : 0 ≤ x ∧ x < (G : Int)
      · obtain ⟨f, rfl⟩ := Int.eq_ofNat_of_zero_le hx.1
        have hf : f < G := by omega
        clear hx
        go_wp2_with fail
        refine (reach_yes HV.out hm3.out hf).mono ?_
        rintro e w4 ⟨bk, hbk, rfl, hrow, hb4⟩
        have HW := Lib.hid hrow
        have HB4 := Lib.hid hb4
        have hm4 := Lib.hid (hm3.out.below hb4)
        clear hrow hb4 hbk
        go_wp2_with fail
        refine (refReach_yes HV.out hm4.out hf).mono ?_
        rintro e w5 ⟨bk2, hbk2, rfl, hrow2, hb5⟩
        have HW2 := Lib.hid hrow2
        have HB5 := Lib.hid hb5
        clear hrow2 hb5 hbk2
        go_wp2_with fail
        refine (sameBools_any ((RowR.of_rowIs HW.out hG).below HB5.out) (RowR.of_rowIs HW2.out hG)).mono ?_
        rintro e w6 ⟨rfl, hb6⟩
        go_wp2
        go_ret
        exact ⟨rfl, ((HB.out.trans (HB4.out.mono HB.out.size)).trans (HB5.out.mono (Nat.le_trans HB.out.size HB4.out.size))).trans (hb6.mono (Nat.le_trans HB.out.size (Nat.le_trans HB4.out.size HB5.out.size)))⟩
      · have hno : ¬ Vld G L Z ∨ x < 0 ∨ (G : Int) ≤ x := by
          by_cases h0 : x < 0
          · exact .inr (.inl h0)
          · exact .inr (.inr (by omega))
        have HN := Lib.hid hno
        clear hno hx
        go_wp2_with fail
        refine (reach_no HN.out hm3.out).mono ?_
        rintro e w4 ⟨rfl, hb4⟩
        have HB4 := Lib.hid hb4
        have hm4 := Lib.hid (hm3.out.below hb4)
        clear hb4
        go_wp2_with fail
        refine (refReach_no HN.out hm4.out).mono ?_
        rintro e w5 ⟨rfl, hb5⟩
        have HB5 := Lib.hid hb5
        clear hb5
        go_wp2_with fail
        refine (sameBools_any (n := 0) (f := fun _ => false) ⟨_, 0, 0, 0, rfl, Nat.le_refl _, by omega, fun h => absurd h (Nat.not_lt_zero _), fun i hi => absurd hi (Nat.not_lt_zero _)⟩ ⟨_, 0, 0, 0, rfl, Nat.le_refl _, by omega, fun h => absurd h (Nat.not_lt_zero _), fun i hi => absurd hi (Nat.not_lt_zero _)⟩).mono ?_
        rintro e w6 ⟨rfl, hb6⟩
        go_wp2
        go_ret
        exact ⟨rfl, ((HB.out.trans (HB4.out.mono HB.out.size)).trans (HB5.out.mono (Nat.le_trans HB.out.size HB4.out.size))).trans (hb6.mono (Nat.le_trans HB.out.size (Nat.le_trans HB4.out.size HB5.out.size)))⟩
    · have HV := Lib.hid hv
      have hno : ¬ Vld G L Z ∨ x < 0 ∨ (G : Int) ≤ x := .inl hv
      have HN := Lib.hid hno
      clear hv hno
      go_wp2_with fail
      refine (valid_any (vb_false HV.out) hm1.out).mono ?_
      rintro e w2 ⟨rfl, hb2⟩
      have hm2 := Lib.hid (hm1.out.below hb2)
      go_wp2_with fail
      refine (refValid_any (vb_false HV.out) hm2.out).mono ?_
      rintro e w3 ⟨rfl, hb3⟩
      have hm3 := Lib.hid (hm2.out.below hb3)
      have HB := Lib.hid ((hb1.trans (hb2.mono hb1.size)).trans (hb3.mono (Nat.le_trans hb1.size hb2.size)))
      clear hb1 hb2 hb3
      go_wp2_with fail
      refine (reach_no HN.out hm3.out).mono ?_
      rintro e w4 ⟨rfl, hb4⟩
      have HB4 := Lib.hid hb4
      have hm4 := Lib.hid (hm3.out.below hb4)
      clear hb4
      go_wp2_with fail
      refine (refReach_no HN.out hm4.out).mono ?_
      rintro e w5 ⟨rfl, hb5⟩
      have HB5 := Lib.hid hb5
      clear hb5
      go_wp2_with fail
      refine (sameBools_any (n := 0) (f := fun _ => false) ⟨_, 0, 0, 0, rfl, Nat.le_refl _, by omega, fun h => absurd h (Nat.not_lt_zero _), fun i hi => absurd hi (Nat.not_lt_zero _)⟩ ⟨_, 0, 0, 0, rfl, Nat.le_refl _, by omega, fun h => absurd h (Nat.not_lt_zero _), fun i hi => absurd hi (Nat.not_lt_zero _)⟩).mono ?_
      rintro e w6 ⟨rfl, hb6⟩
      go_wp2
      go_ret
      exact ⟨rfl, ((HB.out.trans (HB4.out.mono HB.out.size)).trans (HB5.out.mono (Nat.le_trans HB.out.size HB4.out.size))).trans (hb6.mono (Nat.le_trans HB.out.size (Nat.le_trans HB4.out.size HB5.out.size)))⟩
end Go.Proofs.Ytnkdcmloehandaa
