/- The law RationalSums answers true. -/
import Derived.Test.YtikpafocankggaaGreatDoorRatOps
namespace Go.Proofs.YtikpafocankggaaGreatDoor
open Go.RowKit Tally Go.Lib

set_option maxHeartbeats 8000000 in
set_option maxRecDepth 100000 in
theorem lawRationalSums {w : World} (s : ByteArray) (t : ByteArray) (hs_s : s.size ≤ 9223372036854775807) (hs_t : t.size ≤ 9223372036854775807) (htab : Tab w) (hlen : Mlen w) :
    Calls Tryz.prog 8 #[.string s, .string t] w (True1 w) := by
  have HT := Lib.hid htab
  have HML := Lib.hid hlen
  clear htab hlen
  go_enter Tryz.func8, Tryz.ntmps8
  go_wp2_with fail
  (with_reducible refine (ratawake_any HT.out).mono ?_)
  rintro e w1 ⟨rfl, hb⟩
  have HB := Lib.hid hb
  replace HT := Lib.hid (HT.out.below hb)
  replace HML := Lib.hid (HML.out.below hb)
  clear hb
  go_wp2_with fail
  (with_reducible refine (ratboth_any s t hs_s hs_t HML.out).mono ?_)
  rintro e w2 ⟨n0_2, a0_2, k0_2, c0_2, n1_2, a1_2, k1_2, c1_2, n2_2, a2_2, k2_2, c2_2, n3_2, a3_2, k3_2, c3_2, n4_2, a4_2, k4_2, c4_2, n5_2, a5_2, k5_2, c5_2, n6_2, a6_2, k6_2, c6_2, n7_2, a7_2, k7_2, c7_2, ok2, rfl, hok2, hb⟩
  have HOK2 := Lib.hid hok2
  clear hok2
  replace HB := Lib.hid (bt HB.out hb)
  replace HT := Lib.hid (HT.out.below hb)
  replace HML := Lib.hid (HML.out.below hb)
  clear hb
  cases ok2
  · go_wp2
    go_ret
    exact ⟨rfl, bt HB.out (allocs_below4 _ _ _ _ _ )⟩
  · skip
    obtain ⟨s4_2, t4_2, -, -, h0_2, h1_2, h2_2, h3_2⟩ := HOK2.out rfl
    clear HOK2
    have HX := Lib.hid h0_2
    clear h0_2
    have HY := Lib.hid h1_2
    clear h1_2
    have HA := Lib.hid h2_2
    clear h2_2
    have HBB := Lib.hid h3_2
    clear h3_2
    have rx : Rg 400 (qval s.data.toList) := rg_qval s4_2 (by decide)
    generalize qval s.data.toList = x at *
    clear s4_2
    have ry : Rg 400 (qval t.data.toList) := rg_qval t4_2 (by decide)
    generalize qval t.data.toList = y at *
    clear t4_2
    go_wp2_with fail
    obtain ⟨W3, hW, hs, hb, b0, b1, b2, b3⟩ := alloc4 w2 (.cells #[.bool n0_2, .slice a0_2 k0_2 c0_2, .bool n1_2, .slice a1_2 k1_2 c1_2] 27) (.cells #[.bool n2_2, .slice a2_2 k2_2 c2_2, .bool n3_2, .slice a3_2 k3_2 c3_2] 27) (.cells #[.bool n4_2, .slice a4_2 k4_2 c4_2, .bool n5_2, .slice a5_2 k5_2 c5_2] 32) (.cells #[.bool n6_2, .slice a6_2 k6_2 c6_2, .bool n7_2, .slice a7_2 k7_2 c7_2] 32)
    rw [← hW]
    replace HB := Lib.hid (bt HB.out hb)
    replace HT := Lib.hid (HT.out.below hb)
    replace HML := Lib.hid (HML.out.below hb)
    replace HX := Lib.hid (HX.out.below hb)
    replace HY := Lib.hid (HY.out.below hb)
    replace HA := Lib.hid (HA.out.below hb)
    replace HBB := Lib.hid (HBB.out.below hb)
    have Bx := Lib.hid b0
    have By := Lib.hid b1
    have Ba := Lib.hid b2
    have Bb := Lib.hid b3
    clear hW hs hb b0 b1 b2 b3
    have lt1_x : w2.heap.size < W3.heap.size := (Array.getElem?_eq_some_iff.1 Bx.out).1
    have lt2_y : w2.heap.size + 1 < W3.heap.size := (Array.getElem?_eq_some_iff.1 By.out).1
    have lt3_a : w2.heap.size + 1 + 1 < W3.heap.size := (Array.getElem?_eq_some_iff.1 Ba.out).1
    have lt4_b : w2.heap.size + 1 + 1 + 1 < W3.heap.size := (Array.getElem?_eq_some_iff.1 Bb.out).1
    obtain ⟨⟨cx0, cx1, cx2, cx3⟩, fx0, fx1, fx2, fx3⟩ := res4_facts Bx.out
    obtain ⟨⟨cy0, cy1, cy2, cy3⟩, fy0, fy1, fy2, fy3⟩ := res4_facts By.out
    obtain ⟨⟨ca0, ca1, ca2, ca3⟩, fa0, fa1, fa2, fa3⟩ := res4_facts Ba.out
    obtain ⟨⟨cb0, cb1, cb2, cb3⟩, fb0, fb1, fb2, fb3⟩ := res4_facts Bb.out
    have HL4 := Lib.hid (fun (w' : World) (hb : Below W3.heap.size W3 w') => (⟨hb, keepc hb cx0, keepc hb cx1, keepc hb cx2, keepc hb cx3, keepc hb cy0, keepc hb cy1, keepc hb cy2, keepc hb cy3, keepc hb ca0, keepc hb ca1, keepc hb ca2, keepc hb ca3, keepc hb cb0, keepc hb cb1, keepc hb cb2, keepc hb cb3⟩ : Below W3.heap.size W3 w' ∧ w'.cell? ⟨w2.heap.size, 0, none⟩ = some (.bool n0_2) ∧ w'.cell? ⟨w2.heap.size, 1, none⟩ = some (.slice a0_2 k0_2 c0_2) ∧ w'.cell? ⟨w2.heap.size, 2, none⟩ = some (.bool n1_2) ∧ w'.cell? ⟨w2.heap.size, 3, none⟩ = some (.slice a1_2 k1_2 c1_2) ∧ w'.cell? ⟨w2.heap.size + 1, 0, none⟩ = some (.bool n2_2) ∧ w'.cell? ⟨w2.heap.size + 1, 1, none⟩ = some (.slice a2_2 k2_2 c2_2) ∧ w'.cell? ⟨w2.heap.size + 1, 2, none⟩ = some (.bool n3_2) ∧ w'.cell? ⟨w2.heap.size + 1, 3, none⟩ = some (.slice a3_2 k3_2 c3_2) ∧ w'.cell? ⟨w2.heap.size + 1 + 1, 0, none⟩ = some (.bool n4_2) ∧ w'.cell? ⟨w2.heap.size + 1 + 1, 1, none⟩ = some (.slice a4_2 k4_2 c4_2) ∧ w'.cell? ⟨w2.heap.size + 1 + 1, 2, none⟩ = some (.bool n5_2) ∧ w'.cell? ⟨w2.heap.size + 1 + 1, 3, none⟩ = some (.slice a5_2 k5_2 c5_2) ∧ w'.cell? ⟨w2.heap.size + 1 + 1 + 1, 0, none⟩ = some (.bool n6_2) ∧ w'.cell? ⟨w2.heap.size + 1 + 1 + 1, 1, none⟩ = some (.slice a6_2 k6_2 c6_2) ∧ w'.cell? ⟨w2.heap.size + 1 + 1 + 1, 2, none⟩ = some (.bool n7_2) ∧ w'.cell? ⟨w2.heap.size + 1 + 1 + 1, 3, none⟩ = some (.slice a7_2 k7_2 c7_2)))
    have HI4 := Lib.hid (fun (w' : World) (hs : Below W3.heap.size W3 w' ∧ w'.cell? ⟨w2.heap.size, 0, none⟩ = some (.bool n0_2) ∧ w'.cell? ⟨w2.heap.size, 1, none⟩ = some (.slice a0_2 k0_2 c0_2) ∧ w'.cell? ⟨w2.heap.size, 2, none⟩ = some (.bool n1_2) ∧ w'.cell? ⟨w2.heap.size, 3, none⟩ = some (.slice a1_2 k1_2 c1_2) ∧ w'.cell? ⟨w2.heap.size + 1, 0, none⟩ = some (.bool n2_2) ∧ w'.cell? ⟨w2.heap.size + 1, 1, none⟩ = some (.slice a2_2 k2_2 c2_2) ∧ w'.cell? ⟨w2.heap.size + 1, 2, none⟩ = some (.bool n3_2) ∧ w'.cell? ⟨w2.heap.size + 1, 3, none⟩ = some (.slice a3_2 k3_2 c3_2) ∧ w'.cell? ⟨w2.heap.size + 1 + 1, 0, none⟩ = some (.bool n4_2) ∧ w'.cell? ⟨w2.heap.size + 1 + 1, 1, none⟩ = some (.slice a4_2 k4_2 c4_2) ∧ w'.cell? ⟨w2.heap.size + 1 + 1, 2, none⟩ = some (.bool n5_2) ∧ w'.cell? ⟨w2.heap.size + 1 + 1, 3, none⟩ = some (.slice a5_2 k5_2 c5_2) ∧ w'.cell? ⟨w2.heap.size + 1 + 1 + 1, 0, none⟩ = some (.bool n6_2) ∧ w'.cell? ⟨w2.heap.size + 1 + 1 + 1, 1, none⟩ = some (.slice a6_2 k6_2 c6_2) ∧ w'.cell? ⟨w2.heap.size + 1 + 1 + 1, 2, none⟩ = some (.bool n7_2) ∧ w'.cell? ⟨w2.heap.size + 1 + 1 + 1, 3, none⟩ = some (.slice a7_2 k7_2 c7_2)) => hs.1)
    have HS4 := Lib.hid (Below.refl W3.heap.size W3)
    have HC4 := Lib.hid (Below.drew (Below.refl W3.heap.size W3))
    go_region_held3 (fun w' => Below W3.heap.size W3 w' ∧ w'.cell? ⟨w2.heap.size, 0, none⟩ = some (.bool n0_2) ∧ w'.cell? ⟨w2.heap.size, 1, none⟩ = some (.slice a0_2 k0_2 c0_2) ∧ w'.cell? ⟨w2.heap.size, 2, none⟩ = some (.bool n1_2) ∧ w'.cell? ⟨w2.heap.size, 3, none⟩ = some (.slice a1_2 k1_2 c1_2) ∧ w'.cell? ⟨w2.heap.size + 1, 0, none⟩ = some (.bool n2_2) ∧ w'.cell? ⟨w2.heap.size + 1, 1, none⟩ = some (.slice a2_2 k2_2 c2_2) ∧ w'.cell? ⟨w2.heap.size + 1, 2, none⟩ = some (.bool n3_2) ∧ w'.cell? ⟨w2.heap.size + 1, 3, none⟩ = some (.slice a3_2 k3_2 c3_2) ∧ w'.cell? ⟨w2.heap.size + 1 + 1, 0, none⟩ = some (.bool n4_2) ∧ w'.cell? ⟨w2.heap.size + 1 + 1, 1, none⟩ = some (.slice a4_2 k4_2 c4_2) ∧ w'.cell? ⟨w2.heap.size + 1 + 1, 2, none⟩ = some (.bool n5_2) ∧ w'.cell? ⟨w2.heap.size + 1 + 1, 3, none⟩ = some (.slice a5_2 k5_2 c5_2) ∧ w'.cell? ⟨w2.heap.size + 1 + 1 + 1, 0, none⟩ = some (.bool n6_2) ∧ w'.cell? ⟨w2.heap.size + 1 + 1 + 1, 1, none⟩ = some (.slice a6_2 k6_2 c6_2) ∧ w'.cell? ⟨w2.heap.size + 1 + 1 + 1, 2, none⟩ = some (.bool n7_2) ∧ w'.cell? ⟨w2.heap.size + 1 + 1 + 1, 3, none⟩ = some (.slice a7_2 k7_2 c7_2))
      (first | exact HL4.out _ (Below.drew HS4.out) | exact HL4.out _ (bt (HI4.out _ (by assumption)) (by assumption)))
      (first | (go_at_call 34; (with_reducible refine (add_r (HX.out.below (HI4.out _ (by assumption))) (HY.out.below (HI4.out _ (by assumption))) rx ry (by decide)).mono ?_); rintro e w5 ⟨n_5, a_5, k_5, c_5, n2_5, a2_5, k2_5, c2_5, rfl, hu_5, hbr5⟩; have HP1 := Lib.hid hu_5; clear hu_5) | (go_at_call 35; (with_reducible refine (radd_r (HA.out.below (HI4.out _ (by assumption))) (HBB.out.below (HI4.out _ (by assumption))) rx ry (by decide)).mono ?_); rintro e w6 ⟨n_6, a_6, k_6, c_6, n2_6, a2_6, k2_6, c2_6, rfl, hu_6, hbr6⟩; have HP2 := Lib.hid hu_6; clear hu_6) | (go_at_call 21; (with_reducible refine (ratsame_any (HP1.out.below hbr6) HP2.out (HT.out.below (HI4.out _ (by assumption))) (rx.add ry) (by decide)).mono ?_); rintro e w7 ⟨rfl, hbr7⟩) | (go_at_call 36; (with_reducible refine (sub_r (HX.out.below (HI4.out _ (by assumption))) (HY.out.below (HI4.out _ (by assumption))) rx ry (by decide)).mono ?_); rintro e w8 ⟨n_8, a_8, k_8, c_8, n2_8, a2_8, k2_8, c2_8, rfl, hu_8, hbr8⟩; have HP3 := Lib.hid hu_8; clear hu_8) | (go_at_call 37; (with_reducible refine (rsub_r (HA.out.below (HI4.out _ (by assumption))) (HBB.out.below (HI4.out _ (by assumption))) rx ry (by decide)).mono ?_); rintro e w9 ⟨n_9, a_9, k_9, c_9, n2_9, a2_9, k2_9, c2_9, rfl, hu_9, hbr9⟩; have HP4 := Lib.hid hu_9; clear hu_9) | (go_at_call 21; (with_reducible refine (ratsame_any (HP3.out.below hbr9) HP4.out (HT.out.below (HI4.out _ (by assumption))) (rx.sub ry) (by decide)).mono ?_); rintro e w10 ⟨rfl, hbr10⟩) | (go_at_call 38; (with_reducible refine (ratneg_any (HX.out.below (HI4.out _ (by assumption)))).mono ?_); rintro e w11 ⟨n_11, a_11, k_11, c_11, n2_11, a2_11, k2_11, c2_11, rfl, hu_11, hbr11⟩; have HP5 := Lib.hid hu_11; clear hu_11) | (go_at_call 39; (with_reducible refine (rratneg_any (HA.out.below (HI4.out _ (by assumption)))).mono ?_); rintro e w12 ⟨n_12, a_12, k_12, c_12, n2_12, a2_12, k2_12, c2_12, rfl, hu_12, hbr12⟩; have HP6 := Lib.hid hu_12; clear hu_12) | (go_at_call 21; (with_reducible refine (ratsame_any (HP5.out.below hbr12) HP6.out (HT.out.below (HI4.out _ (by assumption))) rx.neg (by decide)).mono ?_); rintro e w13 ⟨rfl, hbr13⟩) | (go_at_call 40; (with_reducible refine (cmp_r (HX.out.below (HI4.out _ (by assumption))) (HY.out.below (HI4.out _ (by assumption))) rx ry (by decide)).mono ?_); rintro e w14 ⟨rfl, hbr14⟩) | (go_at_call 41; (with_reducible refine (rcmp_r (HA.out.below (HI4.out _ (by assumption))) (HBB.out.below (HI4.out _ (by assumption))) rx ry (by decide)).mono ?_); rintro e w15 ⟨rfl, hbr15⟩))
    clear cx0 cx1 cx2 cx3 fx0 fx1 fx2 fx3 cy0 cy1 cy2 cy3 fy0 fy1 fy2 fy3 ca0 ca1 ca2 ca3 fa0 fa1 fa2 fa3 cb0 cb1 cb2 cb3 fb0 fb1 fb2 fb3
    have hbR := (bt (bt (bt (bt (bt (bt (bt (bt (bt (bt (bt HC4.out hbr5) hbr6) hbr7) hbr8) hbr9) hbr10) hbr11) hbr12) hbr13) hbr14) hbr15)
    replace HT := Lib.hid (HT.out.below hbR)
    replace HML := Lib.hid (HML.out.below hbR)
    replace HX := Lib.hid (HX.out.below hbR)
    replace HY := Lib.hid (HY.out.below hbR)
    replace HA := Lib.hid (HA.out.below hbR)
    replace HBB := Lib.hid (HBB.out.below hbR)
    replace HP1 := Lib.hid ((((((((((HP1.out.below hbr6).below hbr7).below hbr8).below hbr9).below hbr10).below hbr11).below hbr12).below hbr13).below hbr14).below hbr15)
    replace HP2 := Lib.hid (((((((((HP2.out.below hbr7).below hbr8).below hbr9).below hbr10).below hbr11).below hbr12).below hbr13).below hbr14).below hbr15)
    replace HP3 := Lib.hid (((((((HP3.out.below hbr9).below hbr10).below hbr11).below hbr12).below hbr13).below hbr14).below hbr15)
    replace HP4 := Lib.hid ((((((HP4.out.below hbr10).below hbr11).below hbr12).below hbr13).below hbr14).below hbr15)
    replace HP5 := Lib.hid ((((HP5.out.below hbr12).below hbr13).below hbr14).below hbr15)
    replace HP6 := Lib.hid (((HP6.out.below hbr13).below hbr14).below hbr15)
    replace HB := Lib.hid (bt HB.out hbR)
    replace Bx := Lib.hid (blk_next Bx.out hbR)
    replace By := Lib.hid (blk_next By.out hbR)
    replace Ba := Lib.hid (blk_next Ba.out hbR)
    replace Bb := Lib.hid (blk_next Bb.out hbR)
    clear hbR hbr5 hbr6 hbr7 hbr8 hbr9 hbr10 hbr11 hbr12 hbr13 hbr14 hbr15
    go_wp2
    go_ret
    exact ⟨by simp, HB.out⟩

end Go.Proofs.YtikpafocankggaaGreatDoor
