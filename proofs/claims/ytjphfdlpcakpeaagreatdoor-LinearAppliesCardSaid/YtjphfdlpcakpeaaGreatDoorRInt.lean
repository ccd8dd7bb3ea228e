/- The reference's Int (a copy of the one for the rationals' laws). -/
import Derived.Test.YtjphfdlpcakpeaaGreatDoorRRatC
import Derived.Test.YtjphfdlpcakpeaaGreatDoorAllocRat
namespace Go.Proofs.YtjphfdlpcakpeaaGreatDoor
open Go.RowKit Tally Go.Lib

theorem divInt_one (n : Int) : Rat.divInt n 1 = (n : Rat) := by
  rw [Rat.divInt_eq_div]
  show (n : Rat) / 1 = _
  grind

set_option maxHeartbeats 2000000 in
set_option maxRecDepth 100000 in
theorem rint_any {w : World} {n : Int} (h1 : -9223372036854775808 ≤ n) (h2 : n ≤ 9223372036854775807) :
    Calls Tryz.prog 34 #[.int .i64 n] w (rGivesP w (n : Rat)) := by
  have HDI := Lib.hid (divInt_one n)
  have d1 := dg_int h1 h2
  have d2 : Dg 19 (1 : Int) := by unfold Dg; decide
  have HN0 := Lib.hid (show (1 : Int) ≠ 0 by decide)
  go_enter Tryz.func34, Tryz.ntmps34
  go_wp2_with fail
  obtain ⟨W1, hW, hs, hb, b0⟩ := alloc1 w (.cells #[.bool false, .slice none 0 0, .bool false, .slice none 0 0] 54)
  rw [← hW]
  have HB := Lib.hid hb
  have BR := Lib.hid b0
  clear hW hs hb b0
  (with_reducible refine (rof_any h1 h2).mono ?_)
  rintro e w2 ⟨n_2, a_2, k_2, c_2, rfl, hu_2, hb⟩
  replace HB := Lib.hid (bt HB.out hb)
  replace BR := Lib.hid (blk_next BR.out hb)
  have HA := Lib.hid hu_2
  clear hu_2
  clear hb
  go_wp2_with fail
  (with_reducible refine (rof_any (n := 1) (by decide) (by decide)).mono ?_)
  rintro e w3 ⟨n_3, a_3, k_3, c_3, rfl, hu_3, hb⟩
  replace HB := Lib.hid (bt HB.out hb)
  replace HA := Lib.hid (HA.out.below hb)
  replace BR := Lib.hid (blk_next BR.out hb)
  have HB1 := Lib.hid hu_3
  clear hu_3
  clear hb
  go_wp2_with fail
  (with_reducible refine (rreduced_any HA.out HB1.out HN0.out d1 d2 (by omega)).mono ?_)
  rintro e w4 ⟨n_4, a_4, k_4, c_4, n2_4, a2_4, k2_4, c2_4, rfl, hu_4, hv_4, hb⟩
  replace HB := Lib.hid (bt HB.out hb)
  replace HA := Lib.hid (HA.out.below hb)
  replace HB1 := Lib.hid (HB1.out.below hb)
  replace BR := Lib.hid (blk_next BR.out hb)
  have HC := Lib.hid hu_4
  have HE := Lib.hid hv_4
  clear hu_4 hv_4
  clear hb
  have lt1_R : w.heap.size < w4.heap.size := (Array.getElem?_eq_some_iff.1 BR.out).1
  obtain ⟨⟨cR0, cR1, cR2, cR3⟩, fR0, fR1, fR2, fR3⟩ := res4_facts BR.out
  go_wp2
  try simp only [Exit.inBlock, Exit.then]
  refine bodyPost_ret (results_cell_row rfl _ _ (w.heap.size) 54 _ (0, 0) _ rfl (res4_set BR.out) Tryz.underlying54 rfl (by kernel_rfl)) rfl ?_
  exact ⟨_, _, _, _, _, _, _, _, rfl, ((HC.out.stay set4_stay (noInt_one (noInt4 BR.out))).as (by rw [HDI.out])), ((HE.out.stay set4_stay (noInt_one (noInt4 BR.out))).as (by rw [HDI.out])), (fin4 HB.out (by omega))⟩
end Go.Proofs.YtjphfdlpcakpeaaGreatDoor
