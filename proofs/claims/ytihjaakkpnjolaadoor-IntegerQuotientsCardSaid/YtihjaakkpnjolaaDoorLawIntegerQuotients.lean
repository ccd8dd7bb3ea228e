/- The law IntegerQuotients answers true. -/
import Derived.Test.YtihjaakkpnjolaaDoorEqual
import Derived.Test.YtihjaakkpnjolaaDoorRat
import Derived.Test.YtihjaakkpnjolaaDoorRParse
namespace Go.Proofs.YtihjaakkpnjolaaDoor
open Go.RowKit Tally

set_option maxHeartbeats 8000000 in
set_option maxRecDepth 100000 in
theorem lawIntegerQuotients {w : World} (s : ByteArray) (t : ByteArray) (hs_s : s.size ≤ 9223372036854775807) (hs_t : t.size ≤ 9223372036854775807) (htab : Tab w) :
    Calls Tryd.prog 9 #[.string s, .string t] w (True1 w) := by
  have HT := Lib.hid htab
  clear htab
  go_enter Tryd.func9, Tryd.ntmps9
  go_wp2_with fail
  (with_reducible refine (awake_any HT.out).mono ?_)
  rintro e w1 ⟨rfl, hb⟩
  have HB := Lib.hid hb
  replace HT := Lib.hid (HT.out.below hb)
  clear hb
  go_wp2_with fail
  (with_reducible refine (both_any s t hs_s hs_t).mono ?_)
  rintro e w2 ⟨n0_2, a0_2, k0_2, c0_2, n1_2, a1_2, k1_2, c1_2, n2_2, a2_2, k2_2, c2_2, n3_2, a3_2, k3_2, c3_2, ok2, rfl, hok2, hb⟩
  have HOK2 := Lib.hid hok2
  clear hok2
  replace HB := Lib.hid (bt HB.out hb)
  replace HT := Lib.hid (HT.out.below hb)
  clear hb
  cases ok2
  · go_wp2
    go_ret
    exact ⟨rfl, bt HB.out (allocs_below4 _ _ _ _ _)⟩
  · obtain ⟨s6, t6, cs, ct, hx, hy, ha, hb⟩ := HOK2.out (by simp)
    have HX := Lib.hid hx
    have HY := Lib.hid hy
    have HA := Lib.hid ha
    have HBB := Lib.hid hb
    have dgx := dg_of s6
    have dgy := dg_of t6
    clear HOK2 cs ct hx hy ha hb
    generalize pval s.data.toList = x at *
    generalize pval t.data.toList = y at *
    go_wp2_with fail
    obtain ⟨W3, hW, hs, hb, b0, b1, b2, b3⟩ := alloc4 w2 (.cells #[.bool n0_2, .slice a0_2 k0_2 c0_2] 25) (.cells #[.bool n1_2, .slice a1_2 k1_2 c1_2] 25) (.cells #[.bool n2_2, .slice a2_2 k2_2 c2_2] 28) (.cells #[.bool n3_2, .slice a3_2 k3_2 c3_2] 28)
    rw [← hW]
    replace HB := Lib.hid (bt HB.out hb)
    replace HT := Lib.hid (HT.out.below hb)
    replace HX := Lib.hid (HX.out.below hb)
    replace HY := Lib.hid (HY.out.below hb)
    replace HA := Lib.hid (HA.out.below hb)
    replace HBB := Lib.hid (HBB.out.below hb)
    have Bx := Lib.hid b0
    have By := Lib.hid b1
    have Ba := Lib.hid b2
    have Bb := Lib.hid b3
    clear hW hs hb b0 b1 b2 b3
    by_cases hy0 : y = 0
    · subst hy0
      have dgq : Dg 600 (0 : Int) := dg_zero 600
      have dgr : Dg 600 (0 : Int) := dgq
      (with_reducible refine (quorem_zero HX.out HY.out).mono ?_)
      rintro e w4 ⟨n_4, a_4, k_4, c_4, n2_4, a2_4, k2_4, c2_4, rfl, hu_4, hv_4, hb⟩
      replace HB := Lib.hid (bt HB.out hb)
      replace HT := Lib.hid (HT.out.below hb)
      replace HX := Lib.hid (HX.out.below hb)
      replace HY := Lib.hid (HY.out.below hb)
      replace HA := Lib.hid (HA.out.below hb)
      replace HBB := Lib.hid (HBB.out.below hb)
      replace Bx := Lib.hid (blk_next Bx.out hb)
      replace By := Lib.hid (blk_next By.out hb)
      replace Ba := Lib.hid (blk_next Ba.out hb)
      replace Bb := Lib.hid (blk_next Bb.out hb)
      have HQ := Lib.hid hu_4
      have HM := Lib.hid hv_4
      clear hu_4 hv_4
      clear hb
      have lt1_x : w2.heap.size < w4.heap.size := (Array.getElem?_eq_some_iff.1 Bx.out).1
      have lt2_y : w2.heap.size + 1 < w4.heap.size := (Array.getElem?_eq_some_iff.1 By.out).1
      have lt3_a : w2.heap.size + 1 + 1 < w4.heap.size := (Array.getElem?_eq_some_iff.1 Ba.out).1
      have lt4_b : w2.heap.size + 1 + 1 + 1 < w4.heap.size := (Array.getElem?_eq_some_iff.1 Bb.out).1
      obtain ⟨cx0, cx1, fx0, fx1⟩ := res_facts Bx.out
      obtain ⟨cy0, cy1, fy0, fy1⟩ := res_facts By.out
      obtain ⟨ca0, ca1, fa0, fa1⟩ := res_facts Ba.out
      obtain ⟨cb0, cb1, fb0, fb1⟩ := res_facts Bb.out
      go_wp2_with fail
      clear cx0 cx1 fx0 fx1 cy0 cy1 fy0 fy1 ca0 ca1 fa0 fa1 cb0 cb1 fb0 fb1
      obtain ⟨W5, hW, hs, hb, b0, b1⟩ := alloc2 w4 (.cells #[.bool n_4, .slice a_4 k_4 c_4] 25) (.cells #[.bool n2_4, .slice a2_4 k2_4 c2_4] 25)
      rw [← hW]
      replace HB := Lib.hid (bt HB.out hb)
      replace HT := Lib.hid (HT.out.below hb)
      replace HX := Lib.hid (HX.out.below hb)
      replace HY := Lib.hid (HY.out.below hb)
      replace HA := Lib.hid (HA.out.below hb)
      replace HBB := Lib.hid (HBB.out.below hb)
      replace HQ := Lib.hid (HQ.out.below hb)
      replace HM := Lib.hid (HM.out.below hb)
      replace Bx := Lib.hid (blk_next Bx.out hb)
      replace By := Lib.hid (blk_next By.out hb)
      replace Ba := Lib.hid (blk_next Ba.out hb)
      replace Bb := Lib.hid (blk_next Bb.out hb)
      have Bq := Lib.hid b0
      have Br := Lib.hid b1
      clear hW hs hb b0 b1
      (with_reducible refine (rquorem_zero HA.out HBB.out).mono ?_)
      rintro e w6 ⟨n_6, a_6, k_6, c_6, n2_6, a2_6, k2_6, c2_6, rfl, hu_6, hv_6, hb⟩
      replace HB := Lib.hid (bt HB.out hb)
      replace HT := Lib.hid (HT.out.below hb)
      replace HX := Lib.hid (HX.out.below hb)
      replace HY := Lib.hid (HY.out.below hb)
      replace HA := Lib.hid (HA.out.below hb)
      replace HBB := Lib.hid (HBB.out.below hb)
      replace HQ := Lib.hid (HQ.out.below hb)
      replace HM := Lib.hid (HM.out.below hb)
      replace Bx := Lib.hid (blk_next Bx.out hb)
      replace By := Lib.hid (blk_next By.out hb)
      replace Ba := Lib.hid (blk_next Ba.out hb)
      replace Bb := Lib.hid (blk_next Bb.out hb)
      replace Bq := Lib.hid (blk_next Bq.out hb)
      replace Br := Lib.hid (blk_next Br.out hb)
      have HP := Lib.hid hu_6
      have HN := Lib.hid hv_6
      clear hu_6 hv_6
      clear hb
      have lt5_x : w2.heap.size < w6.heap.size := (Array.getElem?_eq_some_iff.1 Bx.out).1
      have lt6_y : w2.heap.size + 1 < w6.heap.size := (Array.getElem?_eq_some_iff.1 By.out).1
      have lt7_a : w2.heap.size + 1 + 1 < w6.heap.size := (Array.getElem?_eq_some_iff.1 Ba.out).1
      have lt8_b : w2.heap.size + 1 + 1 + 1 < w6.heap.size := (Array.getElem?_eq_some_iff.1 Bb.out).1
      have lt9_q : w4.heap.size < w6.heap.size := (Array.getElem?_eq_some_iff.1 Bq.out).1
      have lt10_r : w4.heap.size + 1 < w6.heap.size := (Array.getElem?_eq_some_iff.1 Br.out).1
      obtain ⟨cx0, cx1, fx0, fx1⟩ := res_facts Bx.out
      obtain ⟨cy0, cy1, fy0, fy1⟩ := res_facts By.out
      obtain ⟨ca0, ca1, fa0, fa1⟩ := res_facts Ba.out
      obtain ⟨cb0, cb1, fb0, fb1⟩ := res_facts Bb.out
      obtain ⟨cq0, cq1, fq0, fq1⟩ := res_facts Bq.out
      obtain ⟨cr0, cr1, fr0, fr1⟩ := res_facts Br.out
      go_wp2_with fail
      clear cx0 cx1 fx0 fx1 cy0 cy1 fy0 fy1 ca0 ca1 fa0 fa1 cb0 cb1 fb0 fb1 cq0 cq1 fq0 fq1 cr0 cr1 fr0 fr1
      obtain ⟨W7, hW, hs, hb, b0, b1⟩ := alloc2 w6 (.cells #[.bool n_6, .slice a_6 k_6 c_6] 28) (.cells #[.bool n2_6, .slice a2_6 k2_6 c2_6] 28)
      rw [← hW]
      replace HB := Lib.hid (bt HB.out hb)
      replace HT := Lib.hid (HT.out.below hb)
      replace HX := Lib.hid (HX.out.below hb)
      replace HY := Lib.hid (HY.out.below hb)
      replace HA := Lib.hid (HA.out.below hb)
      replace HBB := Lib.hid (HBB.out.below hb)
      replace HQ := Lib.hid (HQ.out.below hb)
      replace HM := Lib.hid (HM.out.below hb)
      replace HP := Lib.hid (HP.out.below hb)
      replace HN := Lib.hid (HN.out.below hb)
      replace Bx := Lib.hid (blk_next Bx.out hb)
      replace By := Lib.hid (blk_next By.out hb)
      replace Ba := Lib.hid (blk_next Ba.out hb)
      replace Bb := Lib.hid (blk_next Bb.out hb)
      replace Bq := Lib.hid (blk_next Bq.out hb)
      replace Br := Lib.hid (blk_next Br.out hb)
      have Bp := Lib.hid b0
      have Bm := Lib.hid b1
      clear hW hs hb b0 b1
      (with_reducible refine (same_any HQ.out HP.out HT.out dgq (by omega)).mono ?_)
      rintro e w8 ⟨rfl, hb⟩
      replace HB := Lib.hid (bt HB.out hb)
      replace HT := Lib.hid (HT.out.below hb)
      replace HX := Lib.hid (HX.out.below hb)
      replace HY := Lib.hid (HY.out.below hb)
      replace HA := Lib.hid (HA.out.below hb)
      replace HBB := Lib.hid (HBB.out.below hb)
      replace HQ := Lib.hid (HQ.out.below hb)
      replace HM := Lib.hid (HM.out.below hb)
      replace HP := Lib.hid (HP.out.below hb)
      replace HN := Lib.hid (HN.out.below hb)
      replace Bx := Lib.hid (blk_next Bx.out hb)
      replace By := Lib.hid (blk_next By.out hb)
      replace Ba := Lib.hid (blk_next Ba.out hb)
      replace Bb := Lib.hid (blk_next Bb.out hb)
      replace Bq := Lib.hid (blk_next Bq.out hb)
      replace Br := Lib.hid (blk_next Br.out hb)
      replace Bp := Lib.hid (blk_next Bp.out hb)
      replace Bm := Lib.hid (blk_next Bm.out hb)
      clear hb
      have lt11_x : w2.heap.size < w8.heap.size := (Array.getElem?_eq_some_iff.1 Bx.out).1
      have lt12_y : w2.heap.size + 1 < w8.heap.size := (Array.getElem?_eq_some_iff.1 By.out).1
      have lt13_a : w2.heap.size + 1 + 1 < w8.heap.size := (Array.getElem?_eq_some_iff.1 Ba.out).1
      have lt14_b : w2.heap.size + 1 + 1 + 1 < w8.heap.size := (Array.getElem?_eq_some_iff.1 Bb.out).1
      have lt15_q : w4.heap.size < w8.heap.size := (Array.getElem?_eq_some_iff.1 Bq.out).1
      have lt16_r : w4.heap.size + 1 < w8.heap.size := (Array.getElem?_eq_some_iff.1 Br.out).1
      have lt17_p : w6.heap.size < w8.heap.size := (Array.getElem?_eq_some_iff.1 Bp.out).1
      have lt18_m : w6.heap.size + 1 < w8.heap.size := (Array.getElem?_eq_some_iff.1 Bm.out).1
      obtain ⟨cq0, cq1, fq0, fq1⟩ := res_facts Bq.out
      obtain ⟨cr0, cr1, fr0, fr1⟩ := res_facts Br.out
      obtain ⟨cp0, cp1, fp0, fp1⟩ := res_facts Bp.out
      obtain ⟨cm0, cm1, fm0, fm1⟩ := res_facts Bm.out
      go_wp2_with fail
      clear cq0 cq1 fq0 fq1 cr0 cr1 fr0 fr1 cp0 cp1 fp0 fp1 cm0 cm1 fm0 fm1
      (with_reducible refine (same_any HM.out HN.out HT.out dgr (by omega)).mono ?_)
      rintro e w9 ⟨rfl, hb⟩
      replace HB := Lib.hid (bt HB.out hb)
      replace HT := Lib.hid (HT.out.below hb)
      replace HX := Lib.hid (HX.out.below hb)
      replace HY := Lib.hid (HY.out.below hb)
      replace HA := Lib.hid (HA.out.below hb)
      replace HBB := Lib.hid (HBB.out.below hb)
      replace HQ := Lib.hid (HQ.out.below hb)
      replace HM := Lib.hid (HM.out.below hb)
      replace HP := Lib.hid (HP.out.below hb)
      replace HN := Lib.hid (HN.out.below hb)
      replace Bx := Lib.hid (blk_next Bx.out hb)
      replace By := Lib.hid (blk_next By.out hb)
      replace Ba := Lib.hid (blk_next Ba.out hb)
      replace Bb := Lib.hid (blk_next Bb.out hb)
      replace Bq := Lib.hid (blk_next Bq.out hb)
      replace Br := Lib.hid (blk_next Br.out hb)
      replace Bp := Lib.hid (blk_next Bp.out hb)
      replace Bm := Lib.hid (blk_next Bm.out hb)
      clear hb
      have lt19_x : w2.heap.size < w9.heap.size := (Array.getElem?_eq_some_iff.1 Bx.out).1
      have lt20_y : w2.heap.size + 1 < w9.heap.size := (Array.getElem?_eq_some_iff.1 By.out).1
      have lt21_a : w2.heap.size + 1 + 1 < w9.heap.size := (Array.getElem?_eq_some_iff.1 Ba.out).1
      have lt22_b : w2.heap.size + 1 + 1 + 1 < w9.heap.size := (Array.getElem?_eq_some_iff.1 Bb.out).1
      have lt23_q : w4.heap.size < w9.heap.size := (Array.getElem?_eq_some_iff.1 Bq.out).1
      have lt24_r : w4.heap.size + 1 < w9.heap.size := (Array.getElem?_eq_some_iff.1 Br.out).1
      have lt25_p : w6.heap.size < w9.heap.size := (Array.getElem?_eq_some_iff.1 Bp.out).1
      have lt26_m : w6.heap.size + 1 < w9.heap.size := (Array.getElem?_eq_some_iff.1 Bm.out).1
      obtain ⟨cq0, cq1, fq0, fq1⟩ := res_facts Bq.out
      obtain ⟨cr0, cr1, fr0, fr1⟩ := res_facts Br.out
      obtain ⟨cp0, cp1, fp0, fp1⟩ := res_facts Bp.out
      obtain ⟨cm0, cm1, fm0, fm1⟩ := res_facts Bm.out
      go_wp2
      go_ret
      exact ⟨rfl, HB.out⟩
    · have dgq : Dg 600 (x.tdiv y) := dgx.le (Int.natAbs_tdiv_le_natAbs _ _)
      have dgr : Dg 600 (x.tmod y) := dgy.le (Nat.le_of_lt (divides_lt hy0))
      have HY0 := Lib.hid hy0
      clear hy0
      (with_reducible refine (quorem_any HX.out HY.out HY0.out dgx (by omega)).mono ?_)
      rintro e w4 ⟨n_4, a_4, k_4, c_4, n2_4, a2_4, k2_4, c2_4, rfl, hu_4, hv_4, hb⟩
      replace HB := Lib.hid (bt HB.out hb)
      replace HT := Lib.hid (HT.out.below hb)
      replace HX := Lib.hid (HX.out.below hb)
      replace HY := Lib.hid (HY.out.below hb)
      replace HA := Lib.hid (HA.out.below hb)
      replace HBB := Lib.hid (HBB.out.below hb)
      replace Bx := Lib.hid (blk_next Bx.out hb)
      replace By := Lib.hid (blk_next By.out hb)
      replace Ba := Lib.hid (blk_next Ba.out hb)
      replace Bb := Lib.hid (blk_next Bb.out hb)
      have HQ := Lib.hid hu_4
      have HM := Lib.hid hv_4
      clear hu_4 hv_4
      clear hb
      have lt1_x : w2.heap.size < w4.heap.size := (Array.getElem?_eq_some_iff.1 Bx.out).1
      have lt2_y : w2.heap.size + 1 < w4.heap.size := (Array.getElem?_eq_some_iff.1 By.out).1
      have lt3_a : w2.heap.size + 1 + 1 < w4.heap.size := (Array.getElem?_eq_some_iff.1 Ba.out).1
      have lt4_b : w2.heap.size + 1 + 1 + 1 < w4.heap.size := (Array.getElem?_eq_some_iff.1 Bb.out).1
      obtain ⟨cx0, cx1, fx0, fx1⟩ := res_facts Bx.out
      obtain ⟨cy0, cy1, fy0, fy1⟩ := res_facts By.out
      obtain ⟨ca0, ca1, fa0, fa1⟩ := res_facts Ba.out
      obtain ⟨cb0, cb1, fb0, fb1⟩ := res_facts Bb.out
      go_wp2_with fail
      clear cx0 cx1 fx0 fx1 cy0 cy1 fy0 fy1 ca0 ca1 fa0 fa1 cb0 cb1 fb0 fb1
      obtain ⟨W5, hW, hs, hb, b0, b1⟩ := alloc2 w4 (.cells #[.bool n_4, .slice a_4 k_4 c_4] 25) (.cells #[.bool n2_4, .slice a2_4 k2_4 c2_4] 25)
      rw [← hW]
      replace HB := Lib.hid (bt HB.out hb)
      replace HT := Lib.hid (HT.out.below hb)
      replace HX := Lib.hid (HX.out.below hb)
      replace HY := Lib.hid (HY.out.below hb)
      replace HA := Lib.hid (HA.out.below hb)
      replace HBB := Lib.hid (HBB.out.below hb)
      replace HQ := Lib.hid (HQ.out.below hb)
      replace HM := Lib.hid (HM.out.below hb)
      replace Bx := Lib.hid (blk_next Bx.out hb)
      replace By := Lib.hid (blk_next By.out hb)
      replace Ba := Lib.hid (blk_next Ba.out hb)
      replace Bb := Lib.hid (blk_next Bb.out hb)
      have Bq := Lib.hid b0
      have Br := Lib.hid b1
      clear hW hs hb b0 b1
      (with_reducible refine (rquorem_any HA.out HBB.out HY0.out dgx (by omega)).mono ?_)
      rintro e w6 ⟨n_6, a_6, k_6, c_6, n2_6, a2_6, k2_6, c2_6, rfl, hu_6, hv_6, hb⟩
      replace HB := Lib.hid (bt HB.out hb)
      replace HT := Lib.hid (HT.out.below hb)
      replace HX := Lib.hid (HX.out.below hb)
      replace HY := Lib.hid (HY.out.below hb)
      replace HA := Lib.hid (HA.out.below hb)
      replace HBB := Lib.hid (HBB.out.below hb)
      replace HQ := Lib.hid (HQ.out.below hb)
      replace HM := Lib.hid (HM.out.below hb)
      replace Bx := Lib.hid (blk_next Bx.out hb)
      replace By := Lib.hid (blk_next By.out hb)
      replace Ba := Lib.hid (blk_next Ba.out hb)
      replace Bb := Lib.hid (blk_next Bb.out hb)
      replace Bq := Lib.hid (blk_next Bq.out hb)
      replace Br := Lib.hid (blk_next Br.out hb)
      have HP := Lib.hid hu_6
      have HN := Lib.hid hv_6
      clear hu_6 hv_6
      clear hb
      have lt5_x : w2.heap.size < w6.heap.size := (Array.getElem?_eq_some_iff.1 Bx.out).1
      have lt6_y : w2.heap.size + 1 < w6.heap.size := (Array.getElem?_eq_some_iff.1 By.out).1
      have lt7_a : w2.heap.size + 1 + 1 < w6.heap.size := (Array.getElem?_eq_some_iff.1 Ba.out).1
      have lt8_b : w2.heap.size + 1 + 1 + 1 < w6.heap.size := (Array.getElem?_eq_some_iff.1 Bb.out).1
      have lt9_q : w4.heap.size < w6.heap.size := (Array.getElem?_eq_some_iff.1 Bq.out).1
      have lt10_r : w4.heap.size + 1 < w6.heap.size := (Array.getElem?_eq_some_iff.1 Br.out).1
      obtain ⟨cx0, cx1, fx0, fx1⟩ := res_facts Bx.out
      obtain ⟨cy0, cy1, fy0, fy1⟩ := res_facts By.out
      obtain ⟨ca0, ca1, fa0, fa1⟩ := res_facts Ba.out
      obtain ⟨cb0, cb1, fb0, fb1⟩ := res_facts Bb.out
      obtain ⟨cq0, cq1, fq0, fq1⟩ := res_facts Bq.out
      obtain ⟨cr0, cr1, fr0, fr1⟩ := res_facts Br.out
      go_wp2_with fail
      clear cx0 cx1 fx0 fx1 cy0 cy1 fy0 fy1 ca0 ca1 fa0 fa1 cb0 cb1 fb0 fb1 cq0 cq1 fq0 fq1 cr0 cr1 fr0 fr1
      obtain ⟨W7, hW, hs, hb, b0, b1⟩ := alloc2 w6 (.cells #[.bool n_6, .slice a_6 k_6 c_6] 28) (.cells #[.bool n2_6, .slice a2_6 k2_6 c2_6] 28)
      rw [← hW]
      replace HB := Lib.hid (bt HB.out hb)
      replace HT := Lib.hid (HT.out.below hb)
      replace HX := Lib.hid (HX.out.below hb)
      replace HY := Lib.hid (HY.out.below hb)
      replace HA := Lib.hid (HA.out.below hb)
      replace HBB := Lib.hid (HBB.out.below hb)
      replace HQ := Lib.hid (HQ.out.below hb)
      replace HM := Lib.hid (HM.out.below hb)
      replace HP := Lib.hid (HP.out.below hb)
      replace HN := Lib.hid (HN.out.below hb)
      replace Bx := Lib.hid (blk_next Bx.out hb)
      replace By := Lib.hid (blk_next By.out hb)
      replace Ba := Lib.hid (blk_next Ba.out hb)
      replace Bb := Lib.hid (blk_next Bb.out hb)
      replace Bq := Lib.hid (blk_next Bq.out hb)
      replace Br := Lib.hid (blk_next Br.out hb)
      have Bp := Lib.hid b0
      have Bm := Lib.hid b1
      clear hW hs hb b0 b1
      (with_reducible refine (same_any HQ.out HP.out HT.out dgq (by omega)).mono ?_)
      rintro e w8 ⟨rfl, hb⟩
      replace HB := Lib.hid (bt HB.out hb)
      replace HT := Lib.hid (HT.out.below hb)
      replace HX := Lib.hid (HX.out.below hb)
      replace HY := Lib.hid (HY.out.below hb)
      replace HA := Lib.hid (HA.out.below hb)
      replace HBB := Lib.hid (HBB.out.below hb)
      replace HQ := Lib.hid (HQ.out.below hb)
      replace HM := Lib.hid (HM.out.below hb)
      replace HP := Lib.hid (HP.out.below hb)
      replace HN := Lib.hid (HN.out.below hb)
      replace Bx := Lib.hid (blk_next Bx.out hb)
      replace By := Lib.hid (blk_next By.out hb)
      replace Ba := Lib.hid (blk_next Ba.out hb)
      replace Bb := Lib.hid (blk_next Bb.out hb)
      replace Bq := Lib.hid (blk_next Bq.out hb)
      replace Br := Lib.hid (blk_next Br.out hb)
      replace Bp := Lib.hid (blk_next Bp.out hb)
      replace Bm := Lib.hid (blk_next Bm.out hb)
      clear hb
      have lt11_x : w2.heap.size < w8.heap.size := (Array.getElem?_eq_some_iff.1 Bx.out).1
      have lt12_y : w2.heap.size + 1 < w8.heap.size := (Array.getElem?_eq_some_iff.1 By.out).1
      have lt13_a : w2.heap.size + 1 + 1 < w8.heap.size := (Array.getElem?_eq_some_iff.1 Ba.out).1
      have lt14_b : w2.heap.size + 1 + 1 + 1 < w8.heap.size := (Array.getElem?_eq_some_iff.1 Bb.out).1
      have lt15_q : w4.heap.size < w8.heap.size := (Array.getElem?_eq_some_iff.1 Bq.out).1
      have lt16_r : w4.heap.size + 1 < w8.heap.size := (Array.getElem?_eq_some_iff.1 Br.out).1
      have lt17_p : w6.heap.size < w8.heap.size := (Array.getElem?_eq_some_iff.1 Bp.out).1
      have lt18_m : w6.heap.size + 1 < w8.heap.size := (Array.getElem?_eq_some_iff.1 Bm.out).1
      obtain ⟨cq0, cq1, fq0, fq1⟩ := res_facts Bq.out
      obtain ⟨cr0, cr1, fr0, fr1⟩ := res_facts Br.out
      obtain ⟨cp0, cp1, fp0, fp1⟩ := res_facts Bp.out
      obtain ⟨cm0, cm1, fm0, fm1⟩ := res_facts Bm.out
      go_wp2_with fail
      clear cq0 cq1 fq0 fq1 cr0 cr1 fr0 fr1 cp0 cp1 fp0 fp1 cm0 cm1 fm0 fm1
      (with_reducible refine (same_any HM.out HN.out HT.out dgr (by omega)).mono ?_)
      rintro e w9 ⟨rfl, hb⟩
      replace HB := Lib.hid (bt HB.out hb)
      replace HT := Lib.hid (HT.out.below hb)
      replace HX := Lib.hid (HX.out.below hb)
      replace HY := Lib.hid (HY.out.below hb)
      replace HA := Lib.hid (HA.out.below hb)
      replace HBB := Lib.hid (HBB.out.below hb)
      replace HQ := Lib.hid (HQ.out.below hb)
      replace HM := Lib.hid (HM.out.below hb)
      replace HP := Lib.hid (HP.out.below hb)
      replace HN := Lib.hid (HN.out.below hb)
      replace Bx := Lib.hid (blk_next Bx.out hb)
      replace By := Lib.hid (blk_next By.out hb)
      replace Ba := Lib.hid (blk_next Ba.out hb)
      replace Bb := Lib.hid (blk_next Bb.out hb)
      replace Bq := Lib.hid (blk_next Bq.out hb)
      replace Br := Lib.hid (blk_next Br.out hb)
      replace Bp := Lib.hid (blk_next Bp.out hb)
      replace Bm := Lib.hid (blk_next Bm.out hb)
      clear hb
      have lt19_x : w2.heap.size < w9.heap.size := (Array.getElem?_eq_some_iff.1 Bx.out).1
      have lt20_y : w2.heap.size + 1 < w9.heap.size := (Array.getElem?_eq_some_iff.1 By.out).1
      have lt21_a : w2.heap.size + 1 + 1 < w9.heap.size := (Array.getElem?_eq_some_iff.1 Ba.out).1
      have lt22_b : w2.heap.size + 1 + 1 + 1 < w9.heap.size := (Array.getElem?_eq_some_iff.1 Bb.out).1
      have lt23_q : w4.heap.size < w9.heap.size := (Array.getElem?_eq_some_iff.1 Bq.out).1
      have lt24_r : w4.heap.size + 1 < w9.heap.size := (Array.getElem?_eq_some_iff.1 Br.out).1
      have lt25_p : w6.heap.size < w9.heap.size := (Array.getElem?_eq_some_iff.1 Bp.out).1
      have lt26_m : w6.heap.size + 1 < w9.heap.size := (Array.getElem?_eq_some_iff.1 Bm.out).1
      obtain ⟨cq0, cq1, fq0, fq1⟩ := res_facts Bq.out
      obtain ⟨cr0, cr1, fr0, fr1⟩ := res_facts Br.out
      obtain ⟨cp0, cp1, fp0, fp1⟩ := res_facts Bp.out
      obtain ⟨cm0, cm1, fm0, fm1⟩ := res_facts Bm.out
      go_wp2
      go_ret
      exact ⟨rfl, HB.out⟩

end Go.Proofs.YtihjaakkpnjolaaDoor
