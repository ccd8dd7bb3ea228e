/- The law RationalProducts answers true. -/
import Derived.Test.YtikpafocankggaaGreatDoorRatOps
namespace Go.Proofs.YtikpafocankggaaGreatDoor
open Go.RowKit Tally Go.Lib

set_option maxHeartbeats 8000000 in
set_option maxRecDepth 100000 in
theorem lawRationalProducts {w : World} (s : ByteArray) (t : ByteArray) (hs_s : s.size ≤ 9223372036854775807) (hs_t : t.size ≤ 9223372036854775807) (htab : Tab w) (hlen : Mlen w) :
    Calls Tryz.prog 6 #[.string s, .string t] w (True1 w) := by
  have HT := Lib.hid htab
  have HML := Lib.hid hlen
  clear htab hlen
  go_enter Tryz.func6, Tryz.ntmps6
  go_wp2_with fail
  (with_reducible refine (ratawake_any HT.out).mono ?_)
  rintro e w1 ⟨rfl, hb⟩
  have HB := Lib.hid hb
  replace HT := Lib.hid (HT.out.below hb)
  replace HML := Lib.hid (HML.out.below hb)
  clear hb
  go_wp2_with fail
  (with_reducible refine (ratboth_any s t hs_s hs_t HML.out).mono ?_)
  rintro e w2 ⟨n0_2, a0_2, k0_2, c0_2, n1_2, a1_2, k1_2, c1_2, n2_2, a2_2, k2_2, c2_2, n3_2, a3_2, k3_2, c3_2, n4_2, a4_2, k4_2, c4_2, n5_2, a5_2, k5_2, c5_2, n6_2, a6_2, k6_2, c6_2, n7_2, a7_2, k7_2, c7_2, ok2, rfl, hok2, hb⟩
  have HOK2 := Lib.hid hok2
  clear hok2
  replace HB := Lib.hid (bt HB.out hb)
  replace HT := Lib.hid (HT.out.below hb)
  replace HML := Lib.hid (HML.out.below hb)
  clear hb
  cases ok2
  · go_wp2
    go_ret
    exact ⟨rfl, bt HB.out (allocs_below4 _ _ _ _ _ )⟩
  · skip
    obtain ⟨s4_2, t4_2, -, -, h0_2, h1_2, h2_2, h3_2⟩ := HOK2.out rfl
    clear HOK2
    have HX := Lib.hid h0_2
    clear h0_2
    have HY := Lib.hid h1_2
    clear h1_2
    have HA := Lib.hid h2_2
    clear h2_2
    have HBB := Lib.hid h3_2
    clear h3_2
    have rx : Rg 400 (qval s.data.toList) := rg_qval s4_2 (by decide)
    generalize qval s.data.toList = x at *
    clear s4_2
    have ry : Rg 400 (qval t.data.toList) := rg_qval t4_2 (by decide)
    generalize qval t.data.toList = y at *
    clear t4_2
    obtain ⟨c, hc⟩ : ∃ c, (if y = 0 then (10 : Int) else 0) = c := ⟨_, rfl⟩
    have HC := Lib.hid hc
    clear hc
    go_wp2_with fail
    obtain ⟨W3, hW, hs, hb, b0, b1, b2, b3⟩ := alloc4 w2 (.cells #[.bool n0_2, .slice a0_2 k0_2 c0_2, .bool n1_2, .slice a1_2 k1_2 c1_2] 27) (.cells #[.bool n2_2, .slice a2_2 k2_2 c2_2, .bool n3_2, .slice a3_2 k3_2 c3_2] 27) (.cells #[.bool n4_2, .slice a4_2 k4_2 c4_2, .bool n5_2, .slice a5_2 k5_2 c5_2] 32) (.cells #[.bool n6_2, .slice a6_2 k6_2 c6_2, .bool n7_2, .slice a7_2 k7_2 c7_2] 32)
    rw [← hW]
    replace HB := Lib.hid (bt HB.out hb)
    replace HT := Lib.hid (HT.out.below hb)
    replace HML := Lib.hid (HML.out.below hb)
    replace HX := Lib.hid (HX.out.below hb)
    replace HY := Lib.hid (HY.out.below hb)
    replace HA := Lib.hid (HA.out.below hb)
    replace HBB := Lib.hid (HBB.out.below hb)
    have Bx := Lib.hid b0
    have By := Lib.hid b1
    have Ba := Lib.hid b2
    have Bb := Lib.hid b3
    clear hW hs hb b0 b1 b2 b3
    have lt1_x : w2.heap.size < W3.heap.size := (Array.getElem?_eq_some_iff.1 Bx.out).1
    have lt2_y : w2.heap.size + 1 < W3.heap.size := (Array.getElem?_eq_some_iff.1 By.out).1
    have lt3_a : w2.heap.size + 1 + 1 < W3.heap.size := (Array.getElem?_eq_some_iff.1 Ba.out).1
    have lt4_b : w2.heap.size + 1 + 1 + 1 < W3.heap.size := (Array.getElem?_eq_some_iff.1 Bb.out).1
    obtain ⟨⟨cx0, cx1, cx2, cx3⟩, fx0, fx1, fx2, fx3⟩ := res4_facts Bx.out
    obtain ⟨⟨cy0, cy1, cy2, cy3⟩, fy0, fy1, fy2, fy3⟩ := res4_facts By.out
    go_wp2_with fail
    clear cx0 cx1 cx2 cx3 fx0 fx1 fx2 fx3 cy0 cy1 cy2 cy3 fy0 fy1 fy2 fy3
    (with_reducible refine (div_r HX.out HY.out rx ry (by decide)).mono ?_)
    rintro e w4 ⟨n_4, a_4, k_4, c_4, n2_4, a2_4, k2_4, c2_4, rfl, hu_4, hb⟩
    replace HB := Lib.hid (bt HB.out hb)
    replace HT := Lib.hid (HT.out.below hb)
    replace HML := Lib.hid (HML.out.below hb)
    replace HX := Lib.hid (HX.out.below hb)
    replace HY := Lib.hid (HY.out.below hb)
    replace HA := Lib.hid (HA.out.below hb)
    replace HBB := Lib.hid (HBB.out.below hb)
    replace Bx := Lib.hid (blk_next Bx.out hb)
    replace By := Lib.hid (blk_next By.out hb)
    replace Ba := Lib.hid (blk_next Ba.out hb)
    replace Bb := Lib.hid (blk_next Bb.out hb)
    have HQ := Lib.hid hu_4
    clear hu_4
    clear hb
    rw [HC.out]
    have lt5_x : w2.heap.size < w4.heap.size := (Array.getElem?_eq_some_iff.1 Bx.out).1
    have lt6_y : w2.heap.size + 1 < w4.heap.size := (Array.getElem?_eq_some_iff.1 By.out).1
    have lt7_a : w2.heap.size + 1 + 1 < w4.heap.size := (Array.getElem?_eq_some_iff.1 Ba.out).1
    have lt8_b : w2.heap.size + 1 + 1 + 1 < w4.heap.size := (Array.getElem?_eq_some_iff.1 Bb.out).1
    obtain ⟨⟨ca0, ca1, ca2, ca3⟩, fa0, fa1, fa2, fa3⟩ := res4_facts Ba.out
    obtain ⟨⟨cb0, cb1, cb2, cb3⟩, fb0, fb1, fb2, fb3⟩ := res4_facts Bb.out
    go_wp2_with fail
    clear ca0 ca1 ca2 ca3 fa0 fa1 fa2 fa3 cb0 cb1 cb2 cb3 fb0 fb1 fb2 fb3
    obtain ⟨W5, hW, hs, hb, b0⟩ := alloc1 w4 (.cells #[.bool n_4, .slice a_4 k_4 c_4, .bool n2_4, .slice a2_4 k2_4 c2_4] 27)
    rw [← hW]
    replace HB := Lib.hid (bt HB.out hb)
    replace HT := Lib.hid (HT.out.below hb)
    replace HML := Lib.hid (HML.out.below hb)
    replace HX := Lib.hid (HX.out.below hb)
    replace HY := Lib.hid (HY.out.below hb)
    replace HA := Lib.hid (HA.out.below hb)
    replace HBB := Lib.hid (HBB.out.below hb)
    replace HQ := Lib.hid (HQ.out.below hb)
    replace Bx := Lib.hid (blk_next Bx.out hb)
    replace By := Lib.hid (blk_next By.out hb)
    replace Ba := Lib.hid (blk_next Ba.out hb)
    replace Bb := Lib.hid (blk_next Bb.out hb)
    have Bq := Lib.hid b0
    clear hW hs hb b0
    (with_reducible refine (rdiv_r HA.out HBB.out rx ry (by decide)).mono ?_)
    rintro e w6 ⟨n_6, a_6, k_6, c_6, n2_6, a2_6, k2_6, c2_6, rfl, hu_6, hb⟩
    replace HB := Lib.hid (bt HB.out hb)
    replace HT := Lib.hid (HT.out.below hb)
    replace HML := Lib.hid (HML.out.below hb)
    replace HX := Lib.hid (HX.out.below hb)
    replace HY := Lib.hid (HY.out.below hb)
    replace HA := Lib.hid (HA.out.below hb)
    replace HBB := Lib.hid (HBB.out.below hb)
    replace HQ := Lib.hid (HQ.out.below hb)
    replace Bx := Lib.hid (blk_next Bx.out hb)
    replace By := Lib.hid (blk_next By.out hb)
    replace Ba := Lib.hid (blk_next Ba.out hb)
    replace Bb := Lib.hid (blk_next Bb.out hb)
    replace Bq := Lib.hid (blk_next Bq.out hb)
    have HP := Lib.hid hu_6
    clear hu_6
    clear hb
    rw [HC.out]
    go_wp2_with fail
    have lt9_x : w2.heap.size < w6.heap.size := (Array.getElem?_eq_some_iff.1 Bx.out).1
    have lt10_y : w2.heap.size + 1 < w6.heap.size := (Array.getElem?_eq_some_iff.1 By.out).1
    have lt11_a : w2.heap.size + 1 + 1 < w6.heap.size := (Array.getElem?_eq_some_iff.1 Ba.out).1
    have lt12_b : w2.heap.size + 1 + 1 + 1 < w6.heap.size := (Array.getElem?_eq_some_iff.1 Bb.out).1
    have lt13_q : w4.heap.size < w6.heap.size := (Array.getElem?_eq_some_iff.1 Bq.out).1
    obtain ⟨W7, hW, hs, hb, b0⟩ := alloc1 w6 (.cells #[.bool n_6, .slice a_6 k_6 c_6, .bool n2_6, .slice a2_6 k2_6 c2_6] 32)
    rw [← hW]
    replace HB := Lib.hid (bt HB.out hb)
    replace HT := Lib.hid (HT.out.below hb)
    replace HML := Lib.hid (HML.out.below hb)
    replace HX := Lib.hid (HX.out.below hb)
    replace HY := Lib.hid (HY.out.below hb)
    replace HA := Lib.hid (HA.out.below hb)
    replace HBB := Lib.hid (HBB.out.below hb)
    replace HQ := Lib.hid (HQ.out.below hb)
    replace HP := Lib.hid (HP.out.below hb)
    replace Bx := Lib.hid (blk_next Bx.out hb)
    replace By := Lib.hid (blk_next By.out hb)
    replace Ba := Lib.hid (blk_next Ba.out hb)
    replace Bb := Lib.hid (blk_next Bb.out hb)
    replace Bq := Lib.hid (blk_next Bq.out hb)
    have Bp := Lib.hid b0
    clear hW hs hb b0
    have lt14_x : w2.heap.size < W7.heap.size := (Array.getElem?_eq_some_iff.1 Bx.out).1
    have lt15_y : w2.heap.size + 1 < W7.heap.size := (Array.getElem?_eq_some_iff.1 By.out).1
    have lt16_a : w2.heap.size + 1 + 1 < W7.heap.size := (Array.getElem?_eq_some_iff.1 Ba.out).1
    have lt17_b : w2.heap.size + 1 + 1 + 1 < W7.heap.size := (Array.getElem?_eq_some_iff.1 Bb.out).1
    have lt18_q : w4.heap.size < W7.heap.size := (Array.getElem?_eq_some_iff.1 Bq.out).1
    have lt19_p : w6.heap.size < W7.heap.size := (Array.getElem?_eq_some_iff.1 Bp.out).1
    obtain ⟨⟨cx0, cx1, cx2, cx3⟩, fx0, fx1, fx2, fx3⟩ := res4_facts Bx.out
    obtain ⟨⟨cy0, cy1, cy2, cy3⟩, fy0, fy1, fy2, fy3⟩ := res4_facts By.out
    obtain ⟨⟨ca0, ca1, ca2, ca3⟩, fa0, fa1, fa2, fa3⟩ := res4_facts Ba.out
    obtain ⟨⟨cb0, cb1, cb2, cb3⟩, fb0, fb1, fb2, fb3⟩ := res4_facts Bb.out
    obtain ⟨⟨cq0, cq1, cq2, cq3⟩, fq0, fq1, fq2, fq3⟩ := res4_facts Bq.out
    obtain ⟨⟨cp0, cp1, cp2, cp3⟩, fp0, fp1, fp2, fp3⟩ := res4_facts Bp.out
    have HL8 := Lib.hid (fun (w' : World) (hb : Below W7.heap.size W7 w') => (⟨hb, keepc hb cx0, keepc hb cx1, keepc hb cx2, keepc hb cx3, keepc hb cy0, keepc hb cy1, keepc hb cy2, keepc hb cy3, keepc hb ca0, keepc hb ca1, keepc hb ca2, keepc hb ca3, keepc hb cb0, keepc hb cb1, keepc hb cb2, keepc hb cb3, keepc hb cq0, keepc hb cq1, keepc hb cq2, keepc hb cq3, keepc hb cp0, keepc hb cp1, keepc hb cp2, keepc hb cp3⟩ : Below W7.heap.size W7 w' ∧ w'.cell? ⟨w2.heap.size, 0, none⟩ = some (.bool n0_2) ∧ w'.cell? ⟨w2.heap.size, 1, none⟩ = some (.slice a0_2 k0_2 c0_2) ∧ w'.cell? ⟨w2.heap.size, 2, none⟩ = some (.bool n1_2) ∧ w'.cell? ⟨w2.heap.size, 3, none⟩ = some (.slice a1_2 k1_2 c1_2) ∧ w'.cell? ⟨w2.heap.size + 1, 0, none⟩ = some (.bool n2_2) ∧ w'.cell? ⟨w2.heap.size + 1, 1, none⟩ = some (.slice a2_2 k2_2 c2_2) ∧ w'.cell? ⟨w2.heap.size + 1, 2, none⟩ = some (.bool n3_2) ∧ w'.cell? ⟨w2.heap.size + 1, 3, none⟩ = some (.slice a3_2 k3_2 c3_2) ∧ w'.cell? ⟨w2.heap.size + 1 + 1, 0, none⟩ = some (.bool n4_2) ∧ w'.cell? ⟨w2.heap.size + 1 + 1, 1, none⟩ = some (.slice a4_2 k4_2 c4_2) ∧ w'.cell? ⟨w2.heap.size + 1 + 1, 2, none⟩ = some (.bool n5_2) ∧ w'.cell? ⟨w2.heap.size + 1 + 1, 3, none⟩ = some (.slice a5_2 k5_2 c5_2) ∧ w'.cell? ⟨w2.heap.size + 1 + 1 + 1, 0, none⟩ = some (.bool n6_2) ∧ w'.cell? ⟨w2.heap.size + 1 + 1 + 1, 1, none⟩ = some (.slice a6_2 k6_2 c6_2) ∧ w'.cell? ⟨w2.heap.size + 1 + 1 + 1, 2, none⟩ = some (.bool n7_2) ∧ w'.cell? ⟨w2.heap.size + 1 + 1 + 1, 3, none⟩ = some (.slice a7_2 k7_2 c7_2) ∧ w'.cell? ⟨w4.heap.size, 0, none⟩ = some (.bool n_4) ∧ w'.cell? ⟨w4.heap.size, 1, none⟩ = some (.slice a_4 k_4 c_4) ∧ w'.cell? ⟨w4.heap.size, 2, none⟩ = some (.bool n2_4) ∧ w'.cell? ⟨w4.heap.size, 3, none⟩ = some (.slice a2_4 k2_4 c2_4) ∧ w'.cell? ⟨w6.heap.size, 0, none⟩ = some (.bool n_6) ∧ w'.cell? ⟨w6.heap.size, 1, none⟩ = some (.slice a_6 k_6 c_6) ∧ w'.cell? ⟨w6.heap.size, 2, none⟩ = some (.bool n2_6) ∧ w'.cell? ⟨w6.heap.size, 3, none⟩ = some (.slice a2_6 k2_6 c2_6)))
    have HI8 := Lib.hid (fun (w' : World) (hs : Below W7.heap.size W7 w' ∧ w'.cell? ⟨w2.heap.size, 0, none⟩ = some (.bool n0_2) ∧ w'.cell? ⟨w2.heap.size, 1, none⟩ = some (.slice a0_2 k0_2 c0_2) ∧ w'.cell? ⟨w2.heap.size, 2, none⟩ = some (.bool n1_2) ∧ w'.cell? ⟨w2.heap.size, 3, none⟩ = some (.slice a1_2 k1_2 c1_2) ∧ w'.cell? ⟨w2.heap.size + 1, 0, none⟩ = some (.bool n2_2) ∧ w'.cell? ⟨w2.heap.size + 1, 1, none⟩ = some (.slice a2_2 k2_2 c2_2) ∧ w'.cell? ⟨w2.heap.size + 1, 2, none⟩ = some (.bool n3_2) ∧ w'.cell? ⟨w2.heap.size + 1, 3, none⟩ = some (.slice a3_2 k3_2 c3_2) ∧ w'.cell? ⟨w2.heap.size + 1 + 1, 0, none⟩ = some (.bool n4_2) ∧ w'.cell? ⟨w2.heap.size + 1 + 1, 1, none⟩ = some (.slice a4_2 k4_2 c4_2) ∧ w'.cell? ⟨w2.heap.size + 1 + 1, 2, none⟩ = some (.bool n5_2) ∧ w'.cell? ⟨w2.heap.size + 1 + 1, 3, none⟩ = some (.slice a5_2 k5_2 c5_2) ∧ w'.cell? ⟨w2.heap.size + 1 + 1 + 1, 0, none⟩ = some (.bool n6_2) ∧ w'.cell? ⟨w2.heap.size + 1 + 1 + 1, 1, none⟩ = some (.slice a6_2 k6_2 c6_2) ∧ w'.cell? ⟨w2.heap.size + 1 + 1 + 1, 2, none⟩ = some (.bool n7_2) ∧ w'.cell? ⟨w2.heap.size + 1 + 1 + 1, 3, none⟩ = some (.slice a7_2 k7_2 c7_2) ∧ w'.cell? ⟨w4.heap.size, 0, none⟩ = some (.bool n_4) ∧ w'.cell? ⟨w4.heap.size, 1, none⟩ = some (.slice a_4 k_4 c_4) ∧ w'.cell? ⟨w4.heap.size, 2, none⟩ = some (.bool n2_4) ∧ w'.cell? ⟨w4.heap.size, 3, none⟩ = some (.slice a2_4 k2_4 c2_4) ∧ w'.cell? ⟨w6.heap.size, 0, none⟩ = some (.bool n_6) ∧ w'.cell? ⟨w6.heap.size, 1, none⟩ = some (.slice a_6 k_6 c_6) ∧ w'.cell? ⟨w6.heap.size, 2, none⟩ = some (.bool n2_6) ∧ w'.cell? ⟨w6.heap.size, 3, none⟩ = some (.slice a2_6 k2_6 c2_6)) => hs.1)
    have HS8 := Lib.hid (Below.refl W7.heap.size W7)
    have HC8 := Lib.hid (Below.drew (Below.refl W7.heap.size W7))
    go_region_held3 (fun w' => Below W7.heap.size W7 w' ∧ w'.cell? ⟨w2.heap.size, 0, none⟩ = some (.bool n0_2) ∧ w'.cell? ⟨w2.heap.size, 1, none⟩ = some (.slice a0_2 k0_2 c0_2) ∧ w'.cell? ⟨w2.heap.size, 2, none⟩ = some (.bool n1_2) ∧ w'.cell? ⟨w2.heap.size, 3, none⟩ = some (.slice a1_2 k1_2 c1_2) ∧ w'.cell? ⟨w2.heap.size + 1, 0, none⟩ = some (.bool n2_2) ∧ w'.cell? ⟨w2.heap.size + 1, 1, none⟩ = some (.slice a2_2 k2_2 c2_2) ∧ w'.cell? ⟨w2.heap.size + 1, 2, none⟩ = some (.bool n3_2) ∧ w'.cell? ⟨w2.heap.size + 1, 3, none⟩ = some (.slice a3_2 k3_2 c3_2) ∧ w'.cell? ⟨w2.heap.size + 1 + 1, 0, none⟩ = some (.bool n4_2) ∧ w'.cell? ⟨w2.heap.size + 1 + 1, 1, none⟩ = some (.slice a4_2 k4_2 c4_2) ∧ w'.cell? ⟨w2.heap.size + 1 + 1, 2, none⟩ = some (.bool n5_2) ∧ w'.cell? ⟨w2.heap.size + 1 + 1, 3, none⟩ = some (.slice a5_2 k5_2 c5_2) ∧ w'.cell? ⟨w2.heap.size + 1 + 1 + 1, 0, none⟩ = some (.bool n6_2) ∧ w'.cell? ⟨w2.heap.size + 1 + 1 + 1, 1, none⟩ = some (.slice a6_2 k6_2 c6_2) ∧ w'.cell? ⟨w2.heap.size + 1 + 1 + 1, 2, none⟩ = some (.bool n7_2) ∧ w'.cell? ⟨w2.heap.size + 1 + 1 + 1, 3, none⟩ = some (.slice a7_2 k7_2 c7_2) ∧ w'.cell? ⟨w4.heap.size, 0, none⟩ = some (.bool n_4) ∧ w'.cell? ⟨w4.heap.size, 1, none⟩ = some (.slice a_4 k_4 c_4) ∧ w'.cell? ⟨w4.heap.size, 2, none⟩ = some (.bool n2_4) ∧ w'.cell? ⟨w4.heap.size, 3, none⟩ = some (.slice a2_4 k2_4 c2_4) ∧ w'.cell? ⟨w6.heap.size, 0, none⟩ = some (.bool n_6) ∧ w'.cell? ⟨w6.heap.size, 1, none⟩ = some (.slice a_6 k_6 c_6) ∧ w'.cell? ⟨w6.heap.size, 2, none⟩ = some (.bool n2_6) ∧ w'.cell? ⟨w6.heap.size, 3, none⟩ = some (.slice a2_6 k2_6 c2_6))
      (first | exact HL8.out _ (Below.drew HS8.out) | exact HL8.out _ (bt (HI8.out _ (by assumption)) (by assumption)))
      (first | (go_at_call 24; (with_reducible refine (mul_r (HX.out.below (HI8.out _ (by assumption))) (HY.out.below (HI8.out _ (by assumption))) rx ry (by decide)).mono ?_); rintro e w9 ⟨n_9, a_9, k_9, c_9, n2_9, a2_9, k2_9, c2_9, rfl, hu_9, hbr9⟩; have HP1 := Lib.hid hu_9; clear hu_9) | (go_at_call 25; (with_reducible refine (rmul_r (HA.out.below (HI8.out _ (by assumption))) (HBB.out.below (HI8.out _ (by assumption))) rx ry (by decide)).mono ?_); rintro e w10 ⟨n_10, a_10, k_10, c_10, n2_10, a2_10, k2_10, c2_10, rfl, hu_10, hbr10⟩; have HP2 := Lib.hid hu_10; clear hu_10) | (go_at_call 21; (with_reducible refine (ratsame_any (HP1.out.below hbr10) HP2.out (HT.out.below (HI8.out _ (by assumption))) (rx.mul ry) (by decide)).mono ?_); rintro e w11 ⟨rfl, hbr11⟩) | (go_at_call 21; (with_reducible refine (ratsame_any (HQ.out.below (HI8.out _ (by assumption))) (HP.out.below (HI8.out _ (by assumption))) (HT.out.below (HI8.out _ (by assumption))) (rx.div ry) (by decide)).mono ?_); rintro e w12 ⟨rfl, hbr12⟩))
    clear cx0 cx1 cx2 cx3 fx0 fx1 fx2 fx3 cy0 cy1 cy2 cy3 fy0 fy1 fy2 fy3 ca0 ca1 ca2 ca3 fa0 fa1 fa2 fa3 cb0 cb1 cb2 cb3 fb0 fb1 fb2 fb3 cq0 cq1 cq2 cq3 fq0 fq1 fq2 fq3 cp0 cp1 cp2 cp3 fp0 fp1 fp2 fp3
    have hbR := (bt (bt (bt (bt HC8.out hbr9) hbr10) hbr11) hbr12)
    replace HT := Lib.hid (HT.out.below hbR)
    replace HML := Lib.hid (HML.out.below hbR)
    replace HX := Lib.hid (HX.out.below hbR)
    replace HY := Lib.hid (HY.out.below hbR)
    replace HA := Lib.hid (HA.out.below hbR)
    replace HBB := Lib.hid (HBB.out.below hbR)
    replace HQ := Lib.hid (HQ.out.below hbR)
    replace HP := Lib.hid (HP.out.below hbR)
    replace HP1 := Lib.hid (((HP1.out.below hbr10).below hbr11).below hbr12)
    replace HP2 := Lib.hid ((HP2.out.below hbr11).below hbr12)
    replace HB := Lib.hid (bt HB.out hbR)
    replace Bx := Lib.hid (blk_next Bx.out hbR)
    replace By := Lib.hid (blk_next By.out hbR)
    replace Ba := Lib.hid (blk_next Ba.out hbR)
    replace Bb := Lib.hid (blk_next Bb.out hbR)
    replace Bq := Lib.hid (blk_next Bq.out hbR)
    replace Bp := Lib.hid (blk_next Bp.out hbR)
    clear hbR hbr9 hbr10 hbr11 hbr12
    go_wp2
    go_ret
    exact ⟨by simp, HB.out⟩

end Go.Proofs.YtikpafocankggaaGreatDoor
