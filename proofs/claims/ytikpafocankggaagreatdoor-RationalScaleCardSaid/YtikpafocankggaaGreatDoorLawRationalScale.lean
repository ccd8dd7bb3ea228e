/- The law RationalScale answers true. -/
import Derived.Test.YtikpafocankggaaGreatDoorRatOps
import Derived.Test.YtikpafocankggaaGreatDoorRScale
namespace Go.Proofs.YtikpafocankggaaGreatDoor
open Go.RowKit Tally Go.Lib
set_option maxHeartbeats 8000000 in
set_option maxRecDepth 100000 in
theorem lawRationalScale {w : World} (n : Int) (s : ByteArray) (hs_n : -9223372036854775808 ≤ n ∧ n ≤ 9223372036854775807) (hs_s : s.size ≤ 9223372036854775807) (htab : Tab w) (hlen : Mlen w) :
  Calls Tryz.prog 3 #[.int .i64 n, .string s] w (True1 w) := by
 have HT := hid htab
 have HML := hid hlen
 clear htab hlen
 go_enter Tryz.func3, Tryz.ntmps3
 go_wp2_with fail
 (with_reducible refine (ratawake_any HT.out).mono ?_)
 rintro e w1 ⟨rfl, hb⟩
 have HB := hid hb
 replace HT := hid (HT.out.below hb)
 replace HML := hid (HML.out.below hb)
 clear hb
 go_wp2_with fail
 (with_reducible refine (ratboth_any s ⟨#[48]⟩ hs_s (by decide) HML.out).mono ?_)
 rintro e w2 ⟨n0_2, a0_2, k0_2, c0_2, n1_2, a1_2, k1_2, c1_2, n2_2, a2_2, k2_2, c2_2, n3_2, a3_2, k3_2, c3_2, n4_2, a4_2, k4_2, c4_2, n5_2, a5_2, k5_2, c5_2, n6_2, a6_2, k6_2, c6_2, n7_2, a7_2, k7_2, c7_2, ok2, rfl, hok2, hb⟩
 have HOK2 := hid hok2
 clear hok2
 replace HB := hid (bt HB.out hb)
 replace HT := hid (HT.out.below hb)
 replace HML := hid (HML.out.below hb)
 clear hb
 cases ok2
 ·go_wp2
  go_ret
  exact ⟨rfl, bt HB.out (allocs_below4 _ _ _ _ _ )⟩
 ·skip
  obtain ⟨s4_2, -, -, -, h0_2, -, h2_2, -⟩ := HOK2.out rfl
  clear HOK2
  have HX := hid h0_2
  clear h0_2
  have HA := hid h2_2
  clear h2_2
  have rx : Rg 400 (qval s.data.toList) := rg_qval s4_2 (by decide)
  generalize qval s.data.toList = x at *
  clear s4_2
  go_wp2_with fail
  obtain ⟨W3, hW, hs, hb, b0, b1, b2, b3⟩ := alloc4 w2 (.cells #[.bool n0_2, .slice a0_2 k0_2 c0_2, .bool n1_2, .slice a1_2 k1_2 c1_2] 27) (.cells #[.bool n2_2, .slice a2_2 k2_2 c2_2, .bool n3_2, .slice a3_2 k3_2 c3_2] 27) (.cells #[.bool n4_2, .slice a4_2 k4_2 c4_2, .bool n5_2, .slice a5_2 k5_2 c5_2] 32) (.cells #[.bool n6_2, .slice a6_2 k6_2 c6_2, .bool n7_2, .slice a7_2 k7_2 c7_2] 32)
  rw [← hW]
  replace HB := hid (bt HB.out hb)
  replace HT := hid (HT.out.below hb)
  replace HML := hid (HML.out.below hb)
  replace HX := hid (HX.out.below hb)
  replace HA := hid (HA.out.below hb)
  have Bx := hid b0
  have Bzz1 := hid b1
  have Ba := hid b2
  have Bzz3 := hid b3
  clear hW hs hb b0 b1 b2 b3
  clear Bzz1
  clear Bzz3
  obtain ⟨k, hk⟩ : ∃ k, scaleV n x = k := ⟨_, rfl⟩
  obtain ⟨c, hc⟩ : ∃ c, scaleC n x = c := ⟨_, rfl⟩
  have HK := hid hk
  have HC := hid hc
  clear hk hc
  have lt1_x : w2.heap.size < W3.heap.size := (Array.getElem?_eq_some_iff.1 Bx.out).1
  have lt2_a : w2.heap.size + 1 + 1 < W3.heap.size := (Array.getElem?_eq_some_iff.1 Ba.out).1
  obtain ⟨⟨cx0, cx1, cx2, cx3⟩, fx0, fx1, fx2, fx3⟩ := res4_facts Bx.out
  go_wp2_with fail
  clear cx0 cx1 cx2 cx3 fx0 fx1 fx2 fx3
  (with_reducible refine (ratscale_any HX.out rx hs_n.1 hs_n.2 (by decide)).mono ?_)
  rintro e w4 ⟨rfl, hb⟩
  replace HB := hid (bt HB.out hb)
  replace HT := hid (HT.out.below hb)
  replace HML := hid (HML.out.below hb)
  replace HX := hid (HX.out.below hb)
  replace HA := hid (HA.out.below hb)
  replace Bx := hid (blk_next Bx.out hb)
  replace Ba := hid (blk_next Ba.out hb)
  clear hb
  rw [HK.out, HC.out]
  have lt3_x : w2.heap.size < w4.heap.size := (Array.getElem?_eq_some_iff.1 Bx.out).1
  have lt4_a : w2.heap.size + 1 + 1 < w4.heap.size := (Array.getElem?_eq_some_iff.1 Ba.out).1
  obtain ⟨⟨ca0, ca1, ca2, ca3⟩, fa0, fa1, fa2, fa3⟩ := res4_facts Ba.out
  go_wp2_with fail
  clear ca0 ca1 ca2 ca3 fa0 fa1 fa2 fa3
  (with_reducible refine (rratscale_any HA.out rx hs_n.1 hs_n.2 (by decide)).mono ?_)
  rintro e w5 ⟨rfl, hb⟩
  replace HB := hid (bt HB.out hb)
  replace HT := hid (HT.out.below hb)
  replace HML := hid (HML.out.below hb)
  replace HX := hid (HX.out.below hb)
  replace HA := hid (HA.out.below hb)
  replace Bx := hid (blk_next Bx.out hb)
  replace Ba := hid (blk_next Ba.out hb)
  clear hb
  rw [HK.out, HC.out]
  go_wp2
  go_ret
  exact ⟨by simp, HB.out⟩
end Go.Proofs.YtikpafocankggaaGreatDoor
