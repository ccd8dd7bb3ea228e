/- The law GraphClosed: it answers true for every matrix. -/
import Derived.Test.YtnkdcmloehandaaClosed
namespace Go.Proofs.Ytnkdcmloehandaa
open Go.RowKit Plain

theorem nil_row (w : World) : RowR w (.slice none 0 0) 0 (fun _ => .bool false) := ⟨_, 0, 0, 0, rfl, Nat.le_refl _, by omega, fun h => absurd h (Nat.not_lt_zero _), fun i hi => absurd hi (Nat.not_lt_zero _)⟩

set_option maxHeartbeats 1000000 in
theorem lawClosed_any {w : World} {v : Value} {G : Nat} {L : Nat → Nat} {Z : Nat → Nat → Int} (h : MatR w v G L Z) : Calls Try.prog 4 #[v] w (True1 w) := by
  obtain ⟨a, c, rfl, hG⟩ := h.shape
  have HM := Lib.hid h
  clear h
  go_enter Try.func4, Try.ntmps4
  go_wp2_with fail
  refine (awake_any w).mono ?_
  rintro e w1 ⟨rfl, hb1⟩
  have hm1 := Lib.hid (HM.out.below hb1)
  go_wp2_with fail
  refine (few_any hm1.out).mono ?_
  rintro e w2 ⟨fb, rfl, rfl⟩
  cases fb
  · go_wp2
    go_ret
    exact ⟨rfl, hb1⟩
  · have HB := Lib.hid hb1
    clear hb1
    by_cases hv : Vld G L Z
    · have HV := Lib.hid hv
      clear hv
      go_wp2_with fail
      refine (closed_yes HV.out hm1.out).mono ?_
      rintro e w4 ⟨bk, o1, hbk, rfl, hrow, hgr, hb4⟩
      have HW := Lib.hid hrow
      have HG := Lib.hid hgr
      have HB4 := Lib.hid hb4
      have hm4 := Lib.hid (hm1.out.below hb4)
      clear hrow hb4 hbk hgr
      go_wp2_with fail
      refine (refClosed_yes HV.out hm4.out).mono ?_
      rintro e w5 ⟨bk2, o2, hbk2, rfl, hrow2, hgr2, hb5⟩
      have HW2 := Lib.hid (hrow2.congr (g := fun i => .bool (o1 i)) fun i hi => by rw [hgr2.unique HG.out i hi])
      have HB5 := Lib.hid hb5
      clear hrow2 hb5 hbk2 hgr2
      go_wp2_with fail
      refine (sameBools_any ((RowR.of_rowIs HW.out hG).below HB5.out) (RowR.of_rowIs HW2.out hG)).mono ?_
      rintro e w6 ⟨rfl, hb6⟩
      go_wp2
      go_ret
      exact ⟨rfl, bt (bt (bt HB.out HB4.out) HB5.out) hb6⟩
    · have HV := Lib.hid hv
      clear hv
      go_wp2_with fail
      refine (closed_no HV.out hm1.out).mono ?_
      rintro e w4 ⟨rfl, hb4⟩
      have HB4 := Lib.hid hb4
      have hm4 := Lib.hid (hm1.out.below hb4)
      clear hb4
      go_wp2_with fail
      refine (refClosed_no HV.out hm4.out).mono ?_
      rintro e w5 ⟨rfl, hb5⟩
      have HB5 := Lib.hid hb5
      clear hb5
      go_wp2_with fail
      refine (sameBools_any (f := fun _ => false) (nil_row _) (nil_row _)).mono ?_
      rintro e w6 ⟨rfl, hb6⟩
      go_wp2
      go_ret
      exact ⟨rfl, bt (bt (bt HB.out HB4.out) HB5.out) hb6⟩
end Go.Proofs.Ytnkdcmloehandaa
