/- The law RationalField answers true. -/
import Derived.Test.YtikpafocankggaaGreatDoorRatEqual
namespace Go.Proofs.YtikpafocankggaaGreatDoor
open Go.RowKit Tally Go.Lib

set_option maxHeartbeats 8000000 in
set_option maxRecDepth 100000 in
theorem lawRationalField {w : World} (s : ByteArray) (t : ByteArray) (u : ByteArray) (hs_s : s.size ≤ 9223372036854775807) (hs_t : t.size ≤ 9223372036854775807) (hs_u : u.size ≤ 9223372036854775807) (htab : Tab w) (hlen : Mlen w) :
    Calls Tryz.prog 11 #[.string s, .string t, .string u] w (True1 w) := by
  have HT := Lib.hid htab
  have HML := Lib.hid hlen
  clear htab hlen
  go_enter Tryz.func11, Tryz.ntmps11
  go_wp2_with fail
  (with_reducible refine (ratawake_any HT.out).mono ?_)
  rintro e w1 ⟨rfl, hb⟩
  have HB := Lib.hid hb
  replace HT := Lib.hid (HT.out.below hb)
  replace HML := Lib.hid (HML.out.below hb)
  clear hb
  go_wp2_with fail
  (with_reducible refine (ratboth_any s t hs_s hs_t HML.out).mono ?_)
  rintro e w2 ⟨n0_2, a0_2, k0_2, c0_2, n1_2, a1_2, k1_2, c1_2, n2_2, a2_2, k2_2, c2_2, n3_2, a3_2, k3_2, c3_2, n4_2, a4_2, k4_2, c4_2, n5_2, a5_2, k5_2, c5_2, n6_2, a6_2, k6_2, c6_2, n7_2, a7_2, k7_2, c7_2, ok2, rfl, hok2, hb⟩
  have HOK2 := Lib.hid hok2
  clear hok2
  replace HB := Lib.hid (bt HB.out hb)
  replace HT := Lib.hid (HT.out.below hb)
  replace HML := Lib.hid (HML.out.below hb)
  clear hb
  cases ok2
  · go_wp2_with fail
    obtain ⟨W3, hW, hs, hb, b0, b1, b2, b3⟩ := alloc4 w2 (.cells #[.bool n0_2, .slice a0_2 k0_2 c0_2, .bool n1_2, .slice a1_2 k1_2 c1_2] 27) (.cells #[.bool n2_2, .slice a2_2 k2_2 c2_2, .bool n3_2, .slice a3_2 k3_2 c3_2] 27) (.cells #[.bool n4_2, .slice a4_2 k4_2 c4_2, .bool n5_2, .slice a5_2 k5_2 c5_2] 32) (.cells #[.bool n6_2, .slice a6_2 k6_2 c6_2, .bool n7_2, .slice a7_2 k7_2 c7_2] 32)
    rw [← hW]
    replace HB := Lib.hid (bt HB.out hb)
    replace HT := Lib.hid (HT.out.below hb)
    replace HML := Lib.hid (HML.out.below hb)
    have Bzz0 := Lib.hid b0
    have Bzz1 := Lib.hid b1
    have Bzz2 := Lib.hid b2
    have Bzz3 := Lib.hid b3
    clear hW hs hb b0 b1 b2 b3
    clear Bzz0
    clear Bzz1
    clear Bzz2
    clear Bzz3
    (with_reducible refine (ratboth_any u ⟨#[48]⟩ hs_u (by decide) HML.out).mono ?_)
    rintro e w4 ⟨n0_4, a0_4, k0_4, c0_4, n1_4, a1_4, k1_4, c1_4, n2_4, a2_4, k2_4, c2_4, n3_4, a3_4, k3_4, c3_4, n4_4, a4_4, k4_4, c4_4, n5_4, a5_4, k5_4, c5_4, n6_4, a6_4, k6_4, c6_4, n7_4, a7_4, k7_4, c7_4, ok4, rfl, hok4, hb⟩
    have HOK4 := Lib.hid hok4
    clear hok4
    replace HB := Lib.hid (bt HB.out hb)
    replace HT := Lib.hid (HT.out.below hb)
    replace HML := Lib.hid (HML.out.below hb)
    clear hb
    cases ok4
    all_goals
      go_wp2
      go_ret
      exact ⟨rfl, bt HB.out (allocs_below4 _ _ _ _ _)⟩
  · skip
    obtain ⟨s4_2, t4_2, -, -, h0_2, h1_2, -, -⟩ := HOK2.out rfl
    clear HOK2
    have HX := Lib.hid h0_2
    clear h0_2
    have HY := Lib.hid h1_2
    clear h1_2
    have rx : Rg 400 (qval s.data.toList) := rg_qval s4_2 (by decide)
    generalize qval s.data.toList = x at *
    clear s4_2
    have ry : Rg 400 (qval t.data.toList) := rg_qval t4_2 (by decide)
    generalize qval t.data.toList = y at *
    clear t4_2
    go_wp2_with fail
    obtain ⟨W3, hW, hs, hb, b0, b1, b2, b3⟩ := alloc4 w2 (.cells #[.bool n0_2, .slice a0_2 k0_2 c0_2, .bool n1_2, .slice a1_2 k1_2 c1_2] 27) (.cells #[.bool n2_2, .slice a2_2 k2_2 c2_2, .bool n3_2, .slice a3_2 k3_2 c3_2] 27) (.cells #[.bool n4_2, .slice a4_2 k4_2 c4_2, .bool n5_2, .slice a5_2 k5_2 c5_2] 32) (.cells #[.bool n6_2, .slice a6_2 k6_2 c6_2, .bool n7_2, .slice a7_2 k7_2 c7_2] 32)
    rw [← hW]
    replace HB := Lib.hid (bt HB.out hb)
    replace HT := Lib.hid (HT.out.below hb)
    replace HML := Lib.hid (HML.out.below hb)
    replace HX := Lib.hid (HX.out.below hb)
    replace HY := Lib.hid (HY.out.below hb)
    have Bx := Lib.hid b0
    have By := Lib.hid b1
    have Bzz2 := Lib.hid b2
    have Bzz3 := Lib.hid b3
    clear hW hs hb b0 b1 b2 b3
    clear Bzz2
    clear Bzz3
    (with_reducible refine (ratboth_any u ⟨#[48]⟩ hs_u (by decide) HML.out).mono ?_)
    rintro e w4 ⟨n0_4, a0_4, k0_4, c0_4, n1_4, a1_4, k1_4, c1_4, n2_4, a2_4, k2_4, c2_4, n3_4, a3_4, k3_4, c3_4, n4_4, a4_4, k4_4, c4_4, n5_4, a5_4, k5_4, c5_4, n6_4, a6_4, k6_4, c6_4, n7_4, a7_4, k7_4, c7_4, ok4, rfl, hok4, hb⟩
    have HOK4 := Lib.hid hok4
    clear hok4
    replace HB := Lib.hid (bt HB.out hb)
    replace HT := Lib.hid (HT.out.below hb)
    replace HML := Lib.hid (HML.out.below hb)
    replace HX := Lib.hid (HX.out.below hb)
    replace HY := Lib.hid (HY.out.below hb)
    replace Bx := Lib.hid (blk_next Bx.out hb)
    replace By := Lib.hid (blk_next By.out hb)
    clear hb
    cases ok4
    · go_wp2
      go_ret
      exact ⟨rfl, bt HB.out (allocs_below4 _ _ _ _ _ )⟩
    · skip
      obtain ⟨s4_4, -, -, -, h0_4, -, -, -⟩ := HOK4.out rfl
      clear HOK4
      have HZ := Lib.hid h0_4
      clear h0_4
      have rz : Rg 400 (qval u.data.toList) := rg_qval s4_4 (by decide)
      generalize qval u.data.toList = z at *
      clear s4_4
      go_wp2_with fail
      have lt1_x : w2.heap.size < w4.heap.size := (Array.getElem?_eq_some_iff.1 Bx.out).1
      have lt2_y : w2.heap.size + 1 < w4.heap.size := (Array.getElem?_eq_some_iff.1 By.out).1
      obtain ⟨W5, hW, hs, hb, b0, b1, b2, b3⟩ := alloc4 w4 (.cells #[.bool n0_4, .slice a0_4 k0_4 c0_4, .bool n1_4, .slice a1_4 k1_4 c1_4] 27) (.cells #[.bool n2_4, .slice a2_4 k2_4 c2_4, .bool n3_4, .slice a3_4 k3_4 c3_4] 27) (.cells #[.bool n4_4, .slice a4_4 k4_4 c4_4, .bool n5_4, .slice a5_4 k5_4 c5_4] 32) (.cells #[.bool n6_4, .slice a6_4 k6_4 c6_4, .bool n7_4, .slice a7_4 k7_4 c7_4] 32)
      rw [← hW]
      replace HB := Lib.hid (bt HB.out hb)
      replace HT := Lib.hid (HT.out.below hb)
      replace HML := Lib.hid (HML.out.below hb)
      replace HX := Lib.hid (HX.out.below hb)
      replace HY := Lib.hid (HY.out.below hb)
      replace HZ := Lib.hid (HZ.out.below hb)
      replace Bx := Lib.hid (blk_next Bx.out hb)
      replace By := Lib.hid (blk_next By.out hb)
      have Bz := Lib.hid b0
      have Bzz1 := Lib.hid b1
      have Bzz2 := Lib.hid b2
      have Bzz3 := Lib.hid b3
      clear hW hs hb b0 b1 b2 b3
      clear Bzz1
      clear Bzz2
      clear Bzz3
      have lt3_x : w2.heap.size < W5.heap.size := (Array.getElem?_eq_some_iff.1 Bx.out).1
      have lt4_y : w2.heap.size + 1 < W5.heap.size := (Array.getElem?_eq_some_iff.1 By.out).1
      have lt5_z : w4.heap.size < W5.heap.size := (Array.getElem?_eq_some_iff.1 Bz.out).1
      obtain ⟨⟨cx0, cx1, cx2, cx3⟩, fx0, fx1, fx2, fx3⟩ := res4_facts Bx.out
      obtain ⟨⟨cy0, cy1, cy2, cy3⟩, fy0, fy1, fy2, fy3⟩ := res4_facts By.out
      have HL6 := Lib.hid (fun (w' : World) (hb : Below W5.heap.size W5 w') => (⟨hb, keepc hb cx0, keepc hb cx1, keepc hb cx2, keepc hb cx3, keepc hb cy0, keepc hb cy1, keepc hb cy2, keepc hb cy3⟩ : Below W5.heap.size W5 w' ∧ w'.cell? ⟨w2.heap.size, 0, none⟩ = some (.bool n0_2) ∧ w'.cell? ⟨w2.heap.size, 1, none⟩ = some (.slice a0_2 k0_2 c0_2) ∧ w'.cell? ⟨w2.heap.size, 2, none⟩ = some (.bool n1_2) ∧ w'.cell? ⟨w2.heap.size, 3, none⟩ = some (.slice a1_2 k1_2 c1_2) ∧ w'.cell? ⟨w2.heap.size + 1, 0, none⟩ = some (.bool n2_2) ∧ w'.cell? ⟨w2.heap.size + 1, 1, none⟩ = some (.slice a2_2 k2_2 c2_2) ∧ w'.cell? ⟨w2.heap.size + 1, 2, none⟩ = some (.bool n3_2) ∧ w'.cell? ⟨w2.heap.size + 1, 3, none⟩ = some (.slice a3_2 k3_2 c3_2)))
      have HI6 := Lib.hid (fun (w' : World) (hs : Below W5.heap.size W5 w' ∧ w'.cell? ⟨w2.heap.size, 0, none⟩ = some (.bool n0_2) ∧ w'.cell? ⟨w2.heap.size, 1, none⟩ = some (.slice a0_2 k0_2 c0_2) ∧ w'.cell? ⟨w2.heap.size, 2, none⟩ = some (.bool n1_2) ∧ w'.cell? ⟨w2.heap.size, 3, none⟩ = some (.slice a1_2 k1_2 c1_2) ∧ w'.cell? ⟨w2.heap.size + 1, 0, none⟩ = some (.bool n2_2) ∧ w'.cell? ⟨w2.heap.size + 1, 1, none⟩ = some (.slice a2_2 k2_2 c2_2) ∧ w'.cell? ⟨w2.heap.size + 1, 2, none⟩ = some (.bool n3_2) ∧ w'.cell? ⟨w2.heap.size + 1, 3, none⟩ = some (.slice a3_2 k3_2 c3_2)) => hs.1)
      have HS6 := Lib.hid (Below.refl W5.heap.size W5)
      have HC6 := Lib.hid (Below.drew (Below.refl W5.heap.size W5))
      go_region_held3 (fun w' => Below W5.heap.size W5 w' ∧ w'.cell? ⟨w2.heap.size, 0, none⟩ = some (.bool n0_2) ∧ w'.cell? ⟨w2.heap.size, 1, none⟩ = some (.slice a0_2 k0_2 c0_2) ∧ w'.cell? ⟨w2.heap.size, 2, none⟩ = some (.bool n1_2) ∧ w'.cell? ⟨w2.heap.size, 3, none⟩ = some (.slice a1_2 k1_2 c1_2) ∧ w'.cell? ⟨w2.heap.size + 1, 0, none⟩ = some (.bool n2_2) ∧ w'.cell? ⟨w2.heap.size + 1, 1, none⟩ = some (.slice a2_2 k2_2 c2_2) ∧ w'.cell? ⟨w2.heap.size + 1, 2, none⟩ = some (.bool n3_2) ∧ w'.cell? ⟨w2.heap.size + 1, 3, none⟩ = some (.slice a3_2 k3_2 c3_2))
        (first | exact HL6.out _ (Below.drew HS6.out) | exact HL6.out _ (bt (HI6.out _ (by assumption)) (by assumption)))
        (first | (go_at_call 34; (with_reducible refine (add_r (HX.out.below (HI6.out _ (by assumption))) (HY.out.below (HI6.out _ (by assumption))) rx ry (by decide)).mono ?_); rintro e w7 ⟨n_7, a_7, k_7, c_7, n2_7, a2_7, k2_7, c2_7, rfl, hu_7, hbr7⟩; have HP1 := Lib.hid hu_7; clear hu_7) | (go_at_call 34; (with_reducible refine (add_r (HY.out.below (HI6.out _ (by assumption))) (HX.out.below (HI6.out _ (by assumption))) ry rx (by decide)).mono ?_); rintro e w8 ⟨n_8, a_8, k_8, c_8, n2_8, a2_8, k2_8, c2_8, rfl, hu_8, hbr8⟩; have HP2 := Lib.hid hu_8; clear hu_8) | (go_at_call 33; (with_reducible refine (ratequal_any (HP1.out.below hbr8) (HP2.out.as (Rat.add_comm y x)) (HT.out.below (HI6.out _ (by assumption))) (rx.add ry) (by decide)).mono ?_); rintro e w9 ⟨rfl, hbr9⟩) | (go_at_call 24; (with_reducible refine (mul_r (HX.out.below (HI6.out _ (by assumption))) (HY.out.below (HI6.out _ (by assumption))) rx ry (by decide)).mono ?_); rintro e w10 ⟨n_10, a_10, k_10, c_10, n2_10, a2_10, k2_10, c2_10, rfl, hu_10, hbr10⟩; have HP3 := Lib.hid hu_10; clear hu_10) | (go_at_call 24; (with_reducible refine (mul_r (HY.out.below (HI6.out _ (by assumption))) (HX.out.below (HI6.out _ (by assumption))) ry rx (by decide)).mono ?_); rintro e w11 ⟨n_11, a_11, k_11, c_11, n2_11, a2_11, k2_11, c2_11, rfl, hu_11, hbr11⟩; have HP4 := Lib.hid hu_11; clear hu_11) | (go_at_call 33; (with_reducible refine (ratequal_any (HP3.out.below hbr11) (HP4.out.as (Rat.mul_comm y x)) (HT.out.below (HI6.out _ (by assumption))) (rx.mul ry) (by decide)).mono ?_); rintro e w12 ⟨rfl, hbr12⟩))
      clear cx0 cx1 cx2 cx3 fx0 fx1 fx2 fx3 cy0 cy1 cy2 cy3 fy0 fy1 fy2 fy3
      have hbR := (bt (bt (bt (bt (bt (bt HC6.out hbr7) hbr8) hbr9) hbr10) hbr11) hbr12)
      replace HT := Lib.hid (HT.out.below hbR)
      replace HML := Lib.hid (HML.out.below hbR)
      replace HX := Lib.hid (HX.out.below hbR)
      replace HY := Lib.hid (HY.out.below hbR)
      replace HZ := Lib.hid (HZ.out.below hbR)
      replace HP1 := Lib.hid (((((HP1.out.below hbr8).below hbr9).below hbr10).below hbr11).below hbr12)
      replace HP2 := Lib.hid ((((HP2.out.below hbr9).below hbr10).below hbr11).below hbr12)
      replace HP3 := Lib.hid ((HP3.out.below hbr11).below hbr12)
      replace HP4 := Lib.hid (HP4.out.below hbr12)
      replace HB := Lib.hid (bt HB.out hbR)
      replace Bx := Lib.hid (blk_next Bx.out hbR)
      replace By := Lib.hid (blk_next By.out hbR)
      replace Bz := Lib.hid (blk_next Bz.out hbR)
      clear hbR hbr7 hbr8 hbr9 hbr10 hbr11 hbr12
      clear HP1
      clear HP2
      clear HP3
      clear HP4
      go_wp2_with fail
      have lt6_x : w2.heap.size < w12.heap.size := (Array.getElem?_eq_some_iff.1 Bx.out).1
      have lt7_y : w2.heap.size + 1 < w12.heap.size := (Array.getElem?_eq_some_iff.1 By.out).1
      have lt8_z : w4.heap.size < w12.heap.size := (Array.getElem?_eq_some_iff.1 Bz.out).1
      obtain ⟨⟨cx0, cx1, cx2, cx3⟩, fx0, fx1, fx2, fx3⟩ := res4_facts Bx.out
      obtain ⟨⟨cy0, cy1, cy2, cy3⟩, fy0, fy1, fy2, fy3⟩ := res4_facts By.out
      obtain ⟨⟨cz0, cz1, cz2, cz3⟩, fz0, fz1, fz2, fz3⟩ := res4_facts Bz.out
      have HL13 := Lib.hid (fun (w' : World) (hb : Below w12.heap.size w12 w') => (⟨hb, keepc hb cx0, keepc hb cx1, keepc hb cx2, keepc hb cx3, keepc hb cy0, keepc hb cy1, keepc hb cy2, keepc hb cy3, keepc hb cz0, keepc hb cz1, keepc hb cz2, keepc hb cz3⟩ : Below w12.heap.size w12 w' ∧ w'.cell? ⟨w2.heap.size, 0, none⟩ = some (.bool n0_2) ∧ w'.cell? ⟨w2.heap.size, 1, none⟩ = some (.slice a0_2 k0_2 c0_2) ∧ w'.cell? ⟨w2.heap.size, 2, none⟩ = some (.bool n1_2) ∧ w'.cell? ⟨w2.heap.size, 3, none⟩ = some (.slice a1_2 k1_2 c1_2) ∧ w'.cell? ⟨w2.heap.size + 1, 0, none⟩ = some (.bool n2_2) ∧ w'.cell? ⟨w2.heap.size + 1, 1, none⟩ = some (.slice a2_2 k2_2 c2_2) ∧ w'.cell? ⟨w2.heap.size + 1, 2, none⟩ = some (.bool n3_2) ∧ w'.cell? ⟨w2.heap.size + 1, 3, none⟩ = some (.slice a3_2 k3_2 c3_2) ∧ w'.cell? ⟨w4.heap.size, 0, none⟩ = some (.bool n0_4) ∧ w'.cell? ⟨w4.heap.size, 1, none⟩ = some (.slice a0_4 k0_4 c0_4) ∧ w'.cell? ⟨w4.heap.size, 2, none⟩ = some (.bool n1_4) ∧ w'.cell? ⟨w4.heap.size, 3, none⟩ = some (.slice a1_4 k1_4 c1_4)))
      have HI13 := Lib.hid (fun (w' : World) (hs : Below w12.heap.size w12 w' ∧ w'.cell? ⟨w2.heap.size, 0, none⟩ = some (.bool n0_2) ∧ w'.cell? ⟨w2.heap.size, 1, none⟩ = some (.slice a0_2 k0_2 c0_2) ∧ w'.cell? ⟨w2.heap.size, 2, none⟩ = some (.bool n1_2) ∧ w'.cell? ⟨w2.heap.size, 3, none⟩ = some (.slice a1_2 k1_2 c1_2) ∧ w'.cell? ⟨w2.heap.size + 1, 0, none⟩ = some (.bool n2_2) ∧ w'.cell? ⟨w2.heap.size + 1, 1, none⟩ = some (.slice a2_2 k2_2 c2_2) ∧ w'.cell? ⟨w2.heap.size + 1, 2, none⟩ = some (.bool n3_2) ∧ w'.cell? ⟨w2.heap.size + 1, 3, none⟩ = some (.slice a3_2 k3_2 c3_2) ∧ w'.cell? ⟨w4.heap.size, 0, none⟩ = some (.bool n0_4) ∧ w'.cell? ⟨w4.heap.size, 1, none⟩ = some (.slice a0_4 k0_4 c0_4) ∧ w'.cell? ⟨w4.heap.size, 2, none⟩ = some (.bool n1_4) ∧ w'.cell? ⟨w4.heap.size, 3, none⟩ = some (.slice a1_4 k1_4 c1_4)) => hs.1)
      have HS13 := Lib.hid (Below.refl w12.heap.size w12)
      have HC13 := Lib.hid (Below.drew (Below.refl w12.heap.size w12))
      have tok16 : True := trivial
      go_region_held3 (fun w' => Below w12.heap.size w12 w' ∧ w'.cell? ⟨w2.heap.size, 0, none⟩ = some (.bool n0_2) ∧ w'.cell? ⟨w2.heap.size, 1, none⟩ = some (.slice a0_2 k0_2 c0_2) ∧ w'.cell? ⟨w2.heap.size, 2, none⟩ = some (.bool n1_2) ∧ w'.cell? ⟨w2.heap.size, 3, none⟩ = some (.slice a1_2 k1_2 c1_2) ∧ w'.cell? ⟨w2.heap.size + 1, 0, none⟩ = some (.bool n2_2) ∧ w'.cell? ⟨w2.heap.size + 1, 1, none⟩ = some (.slice a2_2 k2_2 c2_2) ∧ w'.cell? ⟨w2.heap.size + 1, 2, none⟩ = some (.bool n3_2) ∧ w'.cell? ⟨w2.heap.size + 1, 3, none⟩ = some (.slice a3_2 k3_2 c3_2) ∧ w'.cell? ⟨w4.heap.size, 0, none⟩ = some (.bool n0_4) ∧ w'.cell? ⟨w4.heap.size, 1, none⟩ = some (.slice a0_4 k0_4 c0_4) ∧ w'.cell? ⟨w4.heap.size, 2, none⟩ = some (.bool n1_4) ∧ w'.cell? ⟨w4.heap.size, 3, none⟩ = some (.slice a1_4 k1_4 c1_4))
        (first | exact HL13.out _ (Below.drew HS13.out) | exact HL13.out _ (bt (HI13.out _ (by assumption)) (by assumption)))
        (first | (go_at_call 34; (with_reducible refine (add_r (HX.out.below (HI13.out _ (by assumption))) (HY.out.below (HI13.out _ (by assumption))) rx ry (by decide)).mono ?_); rintro e w14 ⟨n_14, a_14, k_14, c_14, n2_14, a2_14, k2_14, c2_14, rfl, hu_14, hbr14⟩; have HP5 := Lib.hid hu_14; clear hu_14) | (go_at_call 34; (with_reducible refine (add_r HP5.out (HZ.out.below (HI13.out _ (by assumption))) (rx.add ry) (rz.mono (show 400 ≤ 801 by decide)) (by decide)).mono ?_); rintro e w15 ⟨n_15, a_15, k_15, c_15, n2_15, a2_15, k2_15, c2_15, rfl, hu_15, hbr15⟩; have HP6 := Lib.hid hu_15; clear hu_15) | (go_at_call 34; have _t := tok16; (with_reducible refine (add_r (HY.out.below (HI13.out _ (by assumption))) (HZ.out.below (HI13.out _ (by assumption))) ry rz (by decide)).mono ?_); rintro e w16 ⟨n_16, a_16, k_16, c_16, n2_16, a2_16, k2_16, c2_16, rfl, hu_16, hbr16⟩; have HP7 := Lib.hid hu_16; clear hu_16; clear tok16 _t) | (go_at_call 34; (with_reducible refine (add_r (HX.out.below (HI13.out _ (by assumption))) HP7.out (rx.mono (show 400 ≤ 801 by decide)) (ry.add rz) (by decide)).mono ?_); rintro e w17 ⟨n_17, a_17, k_17, c_17, n2_17, a2_17, k2_17, c2_17, rfl, hu_17, hbr17⟩; have HP8 := Lib.hid hu_17; clear hu_17) | (go_at_call 33; (with_reducible refine (ratequal_any ((HP6.out.below hbr16).below hbr17) (HP8.out.as (Rat.add_assoc x y z).symm) (HT.out.below (HI13.out _ (by assumption))) ((rx.add ry).add (rz.mono (show 400 ≤ 801 by decide))) (by decide)).mono ?_); rintro e w18 ⟨rfl, hbr18⟩) | (go_at_call 34; (with_reducible refine (add_r (HY.out.below (HI13.out _ (by assumption))) (HZ.out.below (HI13.out _ (by assumption))) ry rz (by decide)).mono ?_); rintro e w19 ⟨n_19, a_19, k_19, c_19, n2_19, a2_19, k2_19, c2_19, rfl, hu_19, hbr19⟩; have HP9 := Lib.hid hu_19; clear hu_19) | (go_at_call 24; (with_reducible refine (mul_r (HX.out.below (HI13.out _ (by assumption))) HP9.out (rx.mono (show 400 ≤ 801 by decide)) (ry.add rz) (by decide)).mono ?_); rintro e w20 ⟨n_20, a_20, k_20, c_20, n2_20, a2_20, k2_20, c2_20, rfl, hu_20, hbr20⟩; have HPA := Lib.hid hu_20; clear hu_20) | (go_at_call 24; (with_reducible refine (mul_r (HX.out.below (HI13.out _ (by assumption))) (HY.out.below (HI13.out _ (by assumption))) rx ry (by decide)).mono ?_); rintro e w21 ⟨n_21, a_21, k_21, c_21, n2_21, a2_21, k2_21, c2_21, rfl, hu_21, hbr21⟩; have HPB := Lib.hid hu_21; clear hu_21) | (go_at_call 24; (with_reducible refine (mul_r (HX.out.below (HI13.out _ (by assumption))) (HZ.out.below (HI13.out _ (by assumption))) rx rz (by decide)).mono ?_); rintro e w22 ⟨n_22, a_22, k_22, c_22, n2_22, a2_22, k2_22, c2_22, rfl, hu_22, hbr22⟩; have HPC := Lib.hid hu_22; clear hu_22) | (go_at_call 34; (with_reducible refine (add_r (HPB.out.below hbr22) HPC.out (rx.mul ry) (rx.mul rz) (by decide)).mono ?_); rintro e w23 ⟨n_23, a_23, k_23, c_23, n2_23, a2_23, k2_23, c2_23, rfl, hu_23, hbr23⟩; have HPD := Lib.hid hu_23; clear hu_23) | (go_at_call 33; (with_reducible refine (ratequal_any (((HPA.out.below hbr21).below hbr22).below hbr23) (HPD.out.as (Rat.mul_add x y z).symm) (HT.out.below (HI13.out _ (by assumption))) ((rx.mono (show 400 ≤ 801 by decide)).mul (ry.add rz)) (by decide)).mono ?_); rintro e w24 ⟨rfl, hbr24⟩))
      clear cx0 cx1 cx2 cx3 fx0 fx1 fx2 fx3 cy0 cy1 cy2 cy3 fy0 fy1 fy2 fy3 cz0 cz1 cz2 cz3 fz0 fz1 fz2 fz3
      have hbR := (bt (bt (bt (bt (bt (bt (bt (bt (bt (bt (bt HC13.out hbr14) hbr15) hbr16) hbr17) hbr18) hbr19) hbr20) hbr21) hbr22) hbr23) hbr24)
      replace HT := Lib.hid (HT.out.below hbR)
      replace HML := Lib.hid (HML.out.below hbR)
      replace HX := Lib.hid (HX.out.below hbR)
      replace HY := Lib.hid (HY.out.below hbR)
      replace HZ := Lib.hid (HZ.out.below hbR)
      replace HP5 := Lib.hid ((((((((((HP5.out.below hbr15).below hbr16).below hbr17).below hbr18).below hbr19).below hbr20).below hbr21).below hbr22).below hbr23).below hbr24)
      replace HP6 := Lib.hid (((((((((HP6.out.below hbr16).below hbr17).below hbr18).below hbr19).below hbr20).below hbr21).below hbr22).below hbr23).below hbr24)
      replace HP7 := Lib.hid ((((((((HP7.out.below hbr17).below hbr18).below hbr19).below hbr20).below hbr21).below hbr22).below hbr23).below hbr24)
      replace HP8 := Lib.hid (((((((HP8.out.below hbr18).below hbr19).below hbr20).below hbr21).below hbr22).below hbr23).below hbr24)
      replace HP9 := Lib.hid (((((HP9.out.below hbr20).below hbr21).below hbr22).below hbr23).below hbr24)
      replace HPA := Lib.hid ((((HPA.out.below hbr21).below hbr22).below hbr23).below hbr24)
      replace HPB := Lib.hid (((HPB.out.below hbr22).below hbr23).below hbr24)
      replace HPC := Lib.hid ((HPC.out.below hbr23).below hbr24)
      replace HPD := Lib.hid (HPD.out.below hbr24)
      replace HB := Lib.hid (bt HB.out hbR)
      replace Bx := Lib.hid (blk_next Bx.out hbR)
      replace By := Lib.hid (blk_next By.out hbR)
      replace Bz := Lib.hid (blk_next Bz.out hbR)
      clear hbR hbr14 hbr15 hbr16 hbr17 hbr18 hbr19 hbr20 hbr21 hbr22 hbr23 hbr24
      clear HP5
      clear HP6
      clear HP7
      clear HP8
      clear HP9
      clear HPA
      clear HPB
      clear HPC
      clear HPD
      go_wp2_with fail
      have lt9_x : w2.heap.size < w24.heap.size := (Array.getElem?_eq_some_iff.1 Bx.out).1
      have lt10_y : w2.heap.size + 1 < w24.heap.size := (Array.getElem?_eq_some_iff.1 By.out).1
      have lt11_z : w4.heap.size < w24.heap.size := (Array.getElem?_eq_some_iff.1 Bz.out).1
      obtain ⟨⟨cx0, cx1, cx2, cx3⟩, fx0, fx1, fx2, fx3⟩ := res4_facts Bx.out
      obtain ⟨⟨cy0, cy1, cy2, cy3⟩, fy0, fy1, fy2, fy3⟩ := res4_facts By.out
      have HL25 := Lib.hid (fun (w' : World) (hb : Below w24.heap.size w24 w') => (⟨hb, keepc hb cx0, keepc hb cx1, keepc hb cx2, keepc hb cx3, keepc hb cy0, keepc hb cy1, keepc hb cy2, keepc hb cy3⟩ : Below w24.heap.size w24 w' ∧ w'.cell? ⟨w2.heap.size, 0, none⟩ = some (.bool n0_2) ∧ w'.cell? ⟨w2.heap.size, 1, none⟩ = some (.slice a0_2 k0_2 c0_2) ∧ w'.cell? ⟨w2.heap.size, 2, none⟩ = some (.bool n1_2) ∧ w'.cell? ⟨w2.heap.size, 3, none⟩ = some (.slice a1_2 k1_2 c1_2) ∧ w'.cell? ⟨w2.heap.size + 1, 0, none⟩ = some (.bool n2_2) ∧ w'.cell? ⟨w2.heap.size + 1, 1, none⟩ = some (.slice a2_2 k2_2 c2_2) ∧ w'.cell? ⟨w2.heap.size + 1, 2, none⟩ = some (.bool n3_2) ∧ w'.cell? ⟨w2.heap.size + 1, 3, none⟩ = some (.slice a3_2 k3_2 c3_2)))
      have HI25 := Lib.hid (fun (w' : World) (hs : Below w24.heap.size w24 w' ∧ w'.cell? ⟨w2.heap.size, 0, none⟩ = some (.bool n0_2) ∧ w'.cell? ⟨w2.heap.size, 1, none⟩ = some (.slice a0_2 k0_2 c0_2) ∧ w'.cell? ⟨w2.heap.size, 2, none⟩ = some (.bool n1_2) ∧ w'.cell? ⟨w2.heap.size, 3, none⟩ = some (.slice a1_2 k1_2 c1_2) ∧ w'.cell? ⟨w2.heap.size + 1, 0, none⟩ = some (.bool n2_2) ∧ w'.cell? ⟨w2.heap.size + 1, 1, none⟩ = some (.slice a2_2 k2_2 c2_2) ∧ w'.cell? ⟨w2.heap.size + 1, 2, none⟩ = some (.bool n3_2) ∧ w'.cell? ⟨w2.heap.size + 1, 3, none⟩ = some (.slice a3_2 k3_2 c3_2)) => hs.1)
      have HS25 := Lib.hid (Below.refl w24.heap.size w24)
      have HC25 := Lib.hid (Below.drew (Below.refl w24.heap.size w24))
      go_region_held3 (fun w' => Below w24.heap.size w24 w' ∧ w'.cell? ⟨w2.heap.size, 0, none⟩ = some (.bool n0_2) ∧ w'.cell? ⟨w2.heap.size, 1, none⟩ = some (.slice a0_2 k0_2 c0_2) ∧ w'.cell? ⟨w2.heap.size, 2, none⟩ = some (.bool n1_2) ∧ w'.cell? ⟨w2.heap.size, 3, none⟩ = some (.slice a1_2 k1_2 c1_2) ∧ w'.cell? ⟨w2.heap.size + 1, 0, none⟩ = some (.bool n2_2) ∧ w'.cell? ⟨w2.heap.size + 1, 1, none⟩ = some (.slice a2_2 k2_2 c2_2) ∧ w'.cell? ⟨w2.heap.size + 1, 2, none⟩ = some (.bool n3_2) ∧ w'.cell? ⟨w2.heap.size + 1, 3, none⟩ = some (.slice a3_2 k3_2 c3_2))
        (first | exact HL25.out _ (Below.drew HS25.out) | exact HL25.out _ (bt (HI25.out _ (by assumption)) (by assumption)))
        (first | (go_at_call 36; (with_reducible refine (sub_r (HX.out.below (HI25.out _ (by assumption))) (HY.out.below (HI25.out _ (by assumption))) rx ry (by decide)).mono ?_); rintro e w26 ⟨n_26, a_26, k_26, c_26, n2_26, a2_26, k2_26, c2_26, rfl, hu_26, hbr26⟩; have HPE := Lib.hid hu_26; clear hu_26) | (go_at_call 34; (with_reducible refine (add_r HPE.out (HY.out.below (HI25.out _ (by assumption))) (rx.sub ry) (ry.mono (show 400 ≤ 801 by decide)) (by decide)).mono ?_); rintro e w27 ⟨n_27, a_27, k_27, c_27, n2_27, a2_27, k2_27, c2_27, rfl, hu_27, hbr27⟩; have HPF := Lib.hid hu_27; clear hu_27) | (go_at_call 33; (with_reducible refine (ratequal_any (HPF.out.as (Rat.sub_add_cancel)) (HX.out.below (HI25.out _ (by assumption))) (HT.out.below (HI25.out _ (by assumption))) rx (by decide)).mono ?_); rintro e w28 ⟨rfl, hbr28⟩))
      clear cx0 cx1 cx2 cx3 fx0 fx1 fx2 fx3 cy0 cy1 cy2 cy3 fy0 fy1 fy2 fy3
      have hbR := (bt (bt (bt HC25.out hbr26) hbr27) hbr28)
      replace HT := Lib.hid (HT.out.below hbR)
      replace HML := Lib.hid (HML.out.below hbR)
      replace HX := Lib.hid (HX.out.below hbR)
      replace HY := Lib.hid (HY.out.below hbR)
      replace HZ := Lib.hid (HZ.out.below hbR)
      replace HPE := Lib.hid ((HPE.out.below hbr27).below hbr28)
      replace HPF := Lib.hid (HPF.out.below hbr28)
      replace HB := Lib.hid (bt HB.out hbR)
      replace Bx := Lib.hid (blk_next Bx.out hbR)
      replace By := Lib.hid (blk_next By.out hbR)
      replace Bz := Lib.hid (blk_next Bz.out hbR)
      clear hbR hbr26 hbr27 hbr28
      clear HPE
      clear HPF
      by_cases hy : y = 0
      · subst hy
        have lt12_x : w2.heap.size < w28.heap.size := (Array.getElem?_eq_some_iff.1 Bx.out).1
        have lt13_y : w2.heap.size + 1 < w28.heap.size := (Array.getElem?_eq_some_iff.1 By.out).1
        have lt14_z : w4.heap.size < w28.heap.size := (Array.getElem?_eq_some_iff.1 Bz.out).1
        obtain ⟨⟨cx0, cx1, cx2, cx3⟩, fx0, fx1, fx2, fx3⟩ := res4_facts Bx.out
        obtain ⟨⟨cy0, cy1, cy2, cy3⟩, fy0, fy1, fy2, fy3⟩ := res4_facts By.out
        go_wp2_with fail
        clear cx0 cx1 cx2 cx3 fx0 fx1 fx2 fx3 cy0 cy1 cy2 cy3 fy0 fy1 fy2 fy3
        (with_reducible refine (ratdiv_zero HX.out HY.out rx (by decide)).mono ?_)
        rintro e w29 ⟨n_29, a_29, k_29, c_29, n2_29, a2_29, k2_29, c2_29, rfl, hu_29, hb⟩
        replace HB := Lib.hid (bt HB.out hb)
        replace HT := Lib.hid (HT.out.below hb)
        replace HML := Lib.hid (HML.out.below hb)
        replace HX := Lib.hid (HX.out.below hb)
        replace HY := Lib.hid (HY.out.below hb)
        replace HZ := Lib.hid (HZ.out.below hb)
        replace Bx := Lib.hid (blk_next Bx.out hb)
        replace By := Lib.hid (blk_next By.out hb)
        replace Bz := Lib.hid (blk_next Bz.out hb)
        have HQ := Lib.hid hu_29
        clear hu_29
        clear hb
        have lt15_x : w2.heap.size < w29.heap.size := (Array.getElem?_eq_some_iff.1 Bx.out).1
        have lt16_y : w2.heap.size + 1 < w29.heap.size := (Array.getElem?_eq_some_iff.1 By.out).1
        have lt17_z : w4.heap.size < w29.heap.size := (Array.getElem?_eq_some_iff.1 Bz.out).1
        obtain ⟨⟨cy0, cy1, cy2, cy3⟩, fy0, fy1, fy2, fy3⟩ := res4_facts By.out
        go_wp2_with fail
        clear cy0 cy1 cy2 cy3 fy0 fy1 fy2 fy3
        obtain ⟨W30, hW, hs, hb, b0⟩ := alloc1 w29 (.cells #[.bool n_29, .slice a_29 k_29 c_29, .bool n2_29, .slice a2_29 k2_29 c2_29] 27)
        rw [← hW]
        replace HB := Lib.hid (bt HB.out hb)
        replace HT := Lib.hid (HT.out.below hb)
        replace HML := Lib.hid (HML.out.below hb)
        replace HX := Lib.hid (HX.out.below hb)
        replace HY := Lib.hid (HY.out.below hb)
        replace HZ := Lib.hid (HZ.out.below hb)
        replace HQ := Lib.hid (HQ.out.below hb)
        replace Bx := Lib.hid (blk_next Bx.out hb)
        replace By := Lib.hid (blk_next By.out hb)
        replace Bz := Lib.hid (blk_next Bz.out hb)
        have Bq := Lib.hid b0
        clear hW hs hb b0
        (with_reducible refine (ratsign_any HY.out).mono ?_)
        rintro e w31 ⟨rfl, hb⟩
        replace HB := Lib.hid (bt HB.out hb)
        replace HT := Lib.hid (HT.out.below hb)
        replace HML := Lib.hid (HML.out.below hb)
        replace HX := Lib.hid (HX.out.below hb)
        replace HY := Lib.hid (HY.out.below hb)
        replace HZ := Lib.hid (HZ.out.below hb)
        replace HQ := Lib.hid (HQ.out.below hb)
        replace Bx := Lib.hid (blk_next Bx.out hb)
        replace By := Lib.hid (blk_next By.out hb)
        replace Bz := Lib.hid (blk_next Bz.out hb)
        replace Bq := Lib.hid (blk_next Bq.out hb)
        clear hb
        rw [show (0 : Rat).num.sign = 0 from rfl]
        have lt18_x : w2.heap.size < w31.heap.size := (Array.getElem?_eq_some_iff.1 Bx.out).1
        have lt19_y : w2.heap.size + 1 < w31.heap.size := (Array.getElem?_eq_some_iff.1 By.out).1
        have lt20_z : w4.heap.size < w31.heap.size := (Array.getElem?_eq_some_iff.1 Bz.out).1
        have lt21_q : w29.heap.size < w31.heap.size := (Array.getElem?_eq_some_iff.1 Bq.out).1
        obtain ⟨⟨cq0, cq1, cq2, cq3⟩, fq0, fq1, fq2, fq3⟩ := res4_facts Bq.out
        go_wp2_with fail
        clear cq0 cq1 cq2 cq3 fq0 fq1 fq2 fq3
        (with_reducible refine (ratsign_any HQ.out).mono ?_)
        rintro e w32 ⟨rfl, hb⟩
        replace HB := Lib.hid (bt HB.out hb)
        replace HT := Lib.hid (HT.out.below hb)
        replace HML := Lib.hid (HML.out.below hb)
        replace HX := Lib.hid (HX.out.below hb)
        replace HY := Lib.hid (HY.out.below hb)
        replace HZ := Lib.hid (HZ.out.below hb)
        replace HQ := Lib.hid (HQ.out.below hb)
        replace Bx := Lib.hid (blk_next Bx.out hb)
        replace By := Lib.hid (blk_next By.out hb)
        replace Bz := Lib.hid (blk_next Bz.out hb)
        replace Bq := Lib.hid (blk_next Bq.out hb)
        clear hb
        rw [show (0 : Rat).num.sign = 0 from rfl]
        go_wp2
        go_ret
        exact ⟨by simp, HB.out⟩
      · have hys : (y.num.sign == 0) = false := by
                rw [beq_eq_false_iff_ne]
                intro e
                exact hy (Rat.num_eq_zero.1 (Int.sign_eq_zero_iff_zero.1 e))
        have HD := Lib.hid (show x / y * y = x from Rat.div_mul_cancel hy)
        have hy0 := hy
        have lt12_x : w2.heap.size < w28.heap.size := (Array.getElem?_eq_some_iff.1 Bx.out).1
        have lt13_y : w2.heap.size + 1 < w28.heap.size := (Array.getElem?_eq_some_iff.1 By.out).1
        have lt14_z : w4.heap.size < w28.heap.size := (Array.getElem?_eq_some_iff.1 Bz.out).1
        obtain ⟨⟨cx0, cx1, cx2, cx3⟩, fx0, fx1, fx2, fx3⟩ := res4_facts Bx.out
        obtain ⟨⟨cy0, cy1, cy2, cy3⟩, fy0, fy1, fy2, fy3⟩ := res4_facts By.out
        go_wp2_with fail
        clear cx0 cx1 cx2 cx3 fx0 fx1 fx2 fx3 cy0 cy1 cy2 cy3 fy0 fy1 fy2 fy3
        (with_reducible refine ((ratdiv_any HX.out HY.out rx ry (by decide) hy0).mono fun _ _ h => h.plain).mono ?_)
        rintro e w29 ⟨n_29, a_29, k_29, c_29, n2_29, a2_29, k2_29, c2_29, rfl, hu_29, hb⟩
        replace HB := Lib.hid (bt HB.out hb)
        replace HT := Lib.hid (HT.out.below hb)
        replace HML := Lib.hid (HML.out.below hb)
        replace HX := Lib.hid (HX.out.below hb)
        replace HY := Lib.hid (HY.out.below hb)
        replace HZ := Lib.hid (HZ.out.below hb)
        replace Bx := Lib.hid (blk_next Bx.out hb)
        replace By := Lib.hid (blk_next By.out hb)
        replace Bz := Lib.hid (blk_next Bz.out hb)
        have HQ := Lib.hid hu_29
        clear hu_29
        clear hb
        have lt15_x : w2.heap.size < w29.heap.size := (Array.getElem?_eq_some_iff.1 Bx.out).1
        have lt16_y : w2.heap.size + 1 < w29.heap.size := (Array.getElem?_eq_some_iff.1 By.out).1
        have lt17_z : w4.heap.size < w29.heap.size := (Array.getElem?_eq_some_iff.1 Bz.out).1
        obtain ⟨⟨cy0, cy1, cy2, cy3⟩, fy0, fy1, fy2, fy3⟩ := res4_facts By.out
        go_wp2_with fail
        clear cy0 cy1 cy2 cy3 fy0 fy1 fy2 fy3
        obtain ⟨W30, hW, hs, hb, b0⟩ := alloc1 w29 (.cells #[.bool n_29, .slice a_29 k_29 c_29, .bool n2_29, .slice a2_29 k2_29 c2_29] 27)
        rw [← hW]
        replace HB := Lib.hid (bt HB.out hb)
        replace HT := Lib.hid (HT.out.below hb)
        replace HML := Lib.hid (HML.out.below hb)
        replace HX := Lib.hid (HX.out.below hb)
        replace HY := Lib.hid (HY.out.below hb)
        replace HZ := Lib.hid (HZ.out.below hb)
        replace HQ := Lib.hid (HQ.out.below hb)
        replace Bx := Lib.hid (blk_next Bx.out hb)
        replace By := Lib.hid (blk_next By.out hb)
        replace Bz := Lib.hid (blk_next Bz.out hb)
        have Bq := Lib.hid b0
        clear hW hs hb b0
        (with_reducible refine (ratsign_any HY.out).mono ?_)
        rintro e w31 ⟨rfl, hb⟩
        replace HB := Lib.hid (bt HB.out hb)
        replace HT := Lib.hid (HT.out.below hb)
        replace HML := Lib.hid (HML.out.below hb)
        replace HX := Lib.hid (HX.out.below hb)
        replace HY := Lib.hid (HY.out.below hb)
        replace HZ := Lib.hid (HZ.out.below hb)
        replace HQ := Lib.hid (HQ.out.below hb)
        replace Bx := Lib.hid (blk_next Bx.out hb)
        replace By := Lib.hid (blk_next By.out hb)
        replace Bz := Lib.hid (blk_next Bz.out hb)
        replace Bq := Lib.hid (blk_next Bq.out hb)
        clear hb
        clear hy hy0
        have lt18_x : w2.heap.size < w31.heap.size := (Array.getElem?_eq_some_iff.1 Bx.out).1
        have lt19_y : w2.heap.size + 1 < w31.heap.size := (Array.getElem?_eq_some_iff.1 By.out).1
        have lt20_z : w4.heap.size < w31.heap.size := (Array.getElem?_eq_some_iff.1 Bz.out).1
        have lt21_q : w29.heap.size < w31.heap.size := (Array.getElem?_eq_some_iff.1 Bq.out).1
        obtain ⟨⟨cq0, cq1, cq2, cq3⟩, fq0, fq1, fq2, fq3⟩ := res4_facts Bq.out
        obtain ⟨⟨cy0, cy1, cy2, cy3⟩, fy0, fy1, fy2, fy3⟩ := res4_facts By.out
        obtain ⟨⟨cx0, cx1, cx2, cx3⟩, fx0, fx1, fx2, fx3⟩ := res4_facts Bx.out
        go_wp2_with fail
        clear cq0 cq1 cq2 cq3 fq0 fq1 fq2 fq3 cy0 cy1 cy2 cy3 fy0 fy1 fy2 fy3 cx0 cx1 cx2 cx3 fx0 fx1 fx2 fx3
        obtain ⟨⟨cq0, cq1, cq2, cq3⟩, fq0, fq1, fq2, fq3⟩ := res4_facts Bq.out
        obtain ⟨⟨cy0, cy1, cy2, cy3⟩, fy0, fy1, fy2, fy3⟩ := res4_facts By.out
        obtain ⟨⟨cx0, cx1, cx2, cx3⟩, fx0, fx1, fx2, fx3⟩ := res4_facts Bx.out
        have HL32 := Lib.hid (fun (w' : World) (hb : Below w31.heap.size w31 w') => (⟨hb, keepc hb cq0, keepc hb cq1, keepc hb cq2, keepc hb cq3, keepc hb cy0, keepc hb cy1, keepc hb cy2, keepc hb cy3, keepc hb cx0, keepc hb cx1, keepc hb cx2, keepc hb cx3⟩ : Below w31.heap.size w31 w' ∧ w'.cell? ⟨w29.heap.size, 0, none⟩ = some (.bool n_29) ∧ w'.cell? ⟨w29.heap.size, 1, none⟩ = some (.slice a_29 k_29 c_29) ∧ w'.cell? ⟨w29.heap.size, 2, none⟩ = some (.bool n2_29) ∧ w'.cell? ⟨w29.heap.size, 3, none⟩ = some (.slice a2_29 k2_29 c2_29) ∧ w'.cell? ⟨w2.heap.size + 1, 0, none⟩ = some (.bool n2_2) ∧ w'.cell? ⟨w2.heap.size + 1, 1, none⟩ = some (.slice a2_2 k2_2 c2_2) ∧ w'.cell? ⟨w2.heap.size + 1, 2, none⟩ = some (.bool n3_2) ∧ w'.cell? ⟨w2.heap.size + 1, 3, none⟩ = some (.slice a3_2 k3_2 c3_2) ∧ w'.cell? ⟨w2.heap.size, 0, none⟩ = some (.bool n0_2) ∧ w'.cell? ⟨w2.heap.size, 1, none⟩ = some (.slice a0_2 k0_2 c0_2) ∧ w'.cell? ⟨w2.heap.size, 2, none⟩ = some (.bool n1_2) ∧ w'.cell? ⟨w2.heap.size, 3, none⟩ = some (.slice a1_2 k1_2 c1_2)))
        have HI32 := Lib.hid (fun (w' : World) (hs : Below w31.heap.size w31 w' ∧ w'.cell? ⟨w29.heap.size, 0, none⟩ = some (.bool n_29) ∧ w'.cell? ⟨w29.heap.size, 1, none⟩ = some (.slice a_29 k_29 c_29) ∧ w'.cell? ⟨w29.heap.size, 2, none⟩ = some (.bool n2_29) ∧ w'.cell? ⟨w29.heap.size, 3, none⟩ = some (.slice a2_29 k2_29 c2_29) ∧ w'.cell? ⟨w2.heap.size + 1, 0, none⟩ = some (.bool n2_2) ∧ w'.cell? ⟨w2.heap.size + 1, 1, none⟩ = some (.slice a2_2 k2_2 c2_2) ∧ w'.cell? ⟨w2.heap.size + 1, 2, none⟩ = some (.bool n3_2) ∧ w'.cell? ⟨w2.heap.size + 1, 3, none⟩ = some (.slice a3_2 k3_2 c3_2) ∧ w'.cell? ⟨w2.heap.size, 0, none⟩ = some (.bool n0_2) ∧ w'.cell? ⟨w2.heap.size, 1, none⟩ = some (.slice a0_2 k0_2 c0_2) ∧ w'.cell? ⟨w2.heap.size, 2, none⟩ = some (.bool n1_2) ∧ w'.cell? ⟨w2.heap.size, 3, none⟩ = some (.slice a1_2 k1_2 c1_2)) => hs.1)
        have HS32 := Lib.hid (Below.refl w31.heap.size w31)
        have HC32 := Lib.hid (Below.drew (Below.refl w31.heap.size w31))
        go_region_held3 (fun w' => Below w31.heap.size w31 w' ∧ w'.cell? ⟨w29.heap.size, 0, none⟩ = some (.bool n_29) ∧ w'.cell? ⟨w29.heap.size, 1, none⟩ = some (.slice a_29 k_29 c_29) ∧ w'.cell? ⟨w29.heap.size, 2, none⟩ = some (.bool n2_29) ∧ w'.cell? ⟨w29.heap.size, 3, none⟩ = some (.slice a2_29 k2_29 c2_29) ∧ w'.cell? ⟨w2.heap.size + 1, 0, none⟩ = some (.bool n2_2) ∧ w'.cell? ⟨w2.heap.size + 1, 1, none⟩ = some (.slice a2_2 k2_2 c2_2) ∧ w'.cell? ⟨w2.heap.size + 1, 2, none⟩ = some (.bool n3_2) ∧ w'.cell? ⟨w2.heap.size + 1, 3, none⟩ = some (.slice a3_2 k3_2 c3_2) ∧ w'.cell? ⟨w2.heap.size, 0, none⟩ = some (.bool n0_2) ∧ w'.cell? ⟨w2.heap.size, 1, none⟩ = some (.slice a0_2 k0_2 c0_2) ∧ w'.cell? ⟨w2.heap.size, 2, none⟩ = some (.bool n1_2) ∧ w'.cell? ⟨w2.heap.size, 3, none⟩ = some (.slice a1_2 k1_2 c1_2))
          (first | exact HL32.out _ (Below.drew HS32.out) | exact HL32.out _ (bt (HI32.out _ (by assumption)) (by assumption)))
          (first | (go_at_call 24; (with_reducible refine (mul_r (HQ.out.below (HI32.out _ (by assumption))) (HY.out.below (HI32.out _ (by assumption))) (rx.div ry) (ry.mono (show 400 ≤ 801 by decide)) (by decide)).mono ?_); rintro e w33 ⟨n_33, a_33, k_33, c_33, n2_33, a2_33, k2_33, c2_33, rfl, hu_33, hbr33⟩; have HM := Lib.hid hu_33; clear hu_33) | (go_at_call 33; (with_reducible refine (ratequal_any (HM.out.as HD.out) (HX.out.below (HI32.out _ (by assumption))) (HT.out.below (HI32.out _ (by assumption))) rx (by decide)).mono ?_); rintro e w34 ⟨rfl, hbr34⟩))
        clear cq0 cq1 cq2 cq3 fq0 fq1 fq2 fq3 cy0 cy1 cy2 cy3 fy0 fy1 fy2 fy3 cx0 cx1 cx2 cx3 fx0 fx1 fx2 fx3
        have hbR := (bt (bt HC32.out hbr33) hbr34)
        replace HT := Lib.hid (HT.out.below hbR)
        replace HM := Lib.hid (HM.out.below hbr34)
        replace HX := Lib.hid (HX.out.below hbR)
        replace HY := Lib.hid (HY.out.below hbR)
        replace HZ := Lib.hid (HZ.out.below hbR)
        replace HQ := Lib.hid (HQ.out.below hbR)
        replace HB := Lib.hid (bt HB.out hbR)
        replace Bx := Lib.hid (blk_next Bx.out hbR)
        replace By := Lib.hid (blk_next By.out hbR)
        replace Bz := Lib.hid (blk_next Bz.out hbR)
        replace Bq := Lib.hid (blk_next Bq.out hbR)
        clear hbR hbr33 hbr34
        go_wp2
        go_ret
        exact ⟨by simp, HB.out⟩

end Go.Proofs.YtikpafocankggaaGreatDoor
