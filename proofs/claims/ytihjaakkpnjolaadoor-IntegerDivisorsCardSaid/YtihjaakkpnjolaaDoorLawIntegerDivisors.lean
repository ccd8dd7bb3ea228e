/- The law IntegerDivisors answers true. -/
import Derived.Test.YtihjaakkpnjolaaDoorEqual
import Derived.Test.YtihjaakkpnjolaaDoorRat
import Derived.Test.YtihjaakkpnjolaaDoorRParse
import Derived.Test.YtihjaakkpnjolaaDoorAbs
namespace Go.Proofs.YtihjaakkpnjolaaDoor
open Go.RowKit Tally

theorem gcd_dg {N : Nat} {x y : Int} (hx : Dg N x) (hy : Dg N y) : Dg N ((x.gcd y : Nat) : Int) := by
  by_cases h : x = 0
  · subst h
    refine hy.le ?_
    simp
  · refine hx.le ?_
    have := Nat.le_of_dvd (by omega) (Int.natAbs_dvd_natAbs.2 (Int.gcd_dvd_left (a := x) (b := y)))
    exact this

set_option maxHeartbeats 8000000 in
set_option maxRecDepth 100000 in
theorem lawIntegerDivisors {w : World} (s : ByteArray) (t : ByteArray) (u : ByteArray) (hs_s : s.size ≤ 9223372036854775807) (hs_t : t.size ≤ 9223372036854775807) (hs_u : u.size ≤ 9223372036854775807) (htab : Tab w) :
    Calls Tryd.prog 11 #[.string s, .string t, .string u] w (True1 w) := by
  have HT := Lib.hid htab
  clear htab
  go_enter Tryd.func11, Tryd.ntmps11
  go_wp2_with fail
  (with_reducible refine (awake_any HT.out).mono ?_)
  rintro e w1 ⟨rfl, hb⟩
  have HB := Lib.hid hb
  replace HT := Lib.hid (HT.out.below hb)
  clear hb
  go_wp2_with fail
  (with_reducible refine (both_any s t hs_s hs_t).mono ?_)
  rintro e w2 ⟨n0_2, a0_2, k0_2, c0_2, n1_2, a1_2, k1_2, c1_2, n2_2, a2_2, k2_2, c2_2, n3_2, a3_2, k3_2, c3_2, ok2, rfl, hok2, hb⟩
  have HOK2 := Lib.hid hok2
  clear hok2
  replace HB := Lib.hid (bt HB.out hb)
  replace HT := Lib.hid (HT.out.below hb)
  clear hb
  have HJ2 := Lib.hid (Below.refl w2.heap.size w2)
  go_wp2_with fail
  obtain ⟨W3, hW, hs, hb, b0, b1, b2, b3⟩ := alloc4 w2 (.cells #[.bool n0_2, .slice a0_2 k0_2 c0_2] 25) (.cells #[.bool n1_2, .slice a1_2 k1_2 c1_2] 25) (.cells #[.bool n2_2, .slice a2_2 k2_2 c2_2] 28) (.cells #[.bool n3_2, .slice a3_2 k3_2 c3_2] 28)
  rw [← hW]
  replace HB := Lib.hid (bt HB.out hb)
  replace HT := Lib.hid (HT.out.below hb)
  replace HJ2 := Lib.hid (bt HJ2.out hb)
  have Bx := Lib.hid b0
  have By := Lib.hid b1
  have Ba := Lib.hid b2
  have Bb := Lib.hid b3
  clear hW hs hb b0 b1 b2 b3
  (with_reducible refine (both_any u ⟨#[48]⟩ hs_u (by decide)).mono ?_)
  rintro e w4 ⟨n0_4, a0_4, k0_4, c0_4, n1_4, a1_4, k1_4, c1_4, n2_4, a2_4, k2_4, c2_4, n3_4, a3_4, k3_4, c3_4, ok4, rfl, hok4, hb⟩
  have HOK4 := Lib.hid hok4
  clear hok4
  replace HB := Lib.hid (bt HB.out hb)
  replace HT := Lib.hid (HT.out.below hb)
  replace HJ2 := Lib.hid (bt HJ2.out hb)
  replace Bx := Lib.hid (blk_next Bx.out hb)
  replace By := Lib.hid (blk_next By.out hb)
  replace Ba := Lib.hid (blk_next Ba.out hb)
  replace Bb := Lib.hid (blk_next Bb.out hb)
  clear hb
  have HJ4 := Lib.hid (Below.refl w4.heap.size w4)
  cases ok2
  · cases ok4
    all_goals
      go_wp2
      go_ret
      exact ⟨rfl, bt HB.out (allocs_below4 _ _ _ _ _)⟩
  · cases ok4
    · go_wp2
      go_ret
      exact ⟨rfl, bt HB.out (allocs_below4 _ _ _ _ _)⟩
    · by_cases hz1 : 200 < s.size
      · have hz2 : (200 : Int) < (s.size : Int) := by omega
        go_wp2
        go_ret
        exact ⟨rfl, bt HB.out (allocs_below4 _ _ _ _ _)⟩
      · have hz2 : ¬ (200 : Int) < (s.size : Int) := by omega
        by_cases hz3 : 200 < t.size
        · have hz4 : (200 : Int) < (t.size : Int) := by omega
          go_wp2
          go_ret
          exact ⟨rfl, bt HB.out (allocs_below4 _ _ _ _ _)⟩
        · have hz4 : ¬ (200 : Int) < (t.size : Int) := by omega
          by_cases hz5 : 100 < u.size
          · have hz6 : (100 : Int) < (u.size : Int) := by omega
            go_wp2
            go_ret
            exact ⟨rfl, bt HB.out (allocs_below4 _ _ _ _ _)⟩
          · have hz6 : ¬ (100 : Int) < (u.size : Int) := by omega
            obtain ⟨s6, t6, cs, ct, hx, hy, ha, hb⟩ := HOK2.out (by simp)
            obtain ⟨u6, u06, cu, cu0, hz, _, _, _⟩ := HOK4.out (by simp)
            have HX := Lib.hid (hx.below HJ2.out)
            have HY := Lib.hid (hy.below HJ2.out)
            have HA := Lib.hid (ha.below HJ2.out)
            have HBB := Lib.hid (hb.below HJ2.out)
            have HZ := Lib.hid (hz.below HJ4.out)
            have dgx := dg_of s6
            have dgy := dg_of t6
            have dgz := dg_of u6
            clear HOK2 HOK4 cs ct hx hy ha hb cu cu0 hz
            generalize pval s.data.toList = x at *
            generalize pval t.data.toList = y at *
            generalize pval u.data.toList = z at *
            have lt1_x : w2.heap.size < w4.heap.size := (Array.getElem?_eq_some_iff.1 Bx.out).1
            have lt2_y : w2.heap.size + 1 < w4.heap.size := (Array.getElem?_eq_some_iff.1 By.out).1
            have lt3_a : w2.heap.size + 1 + 1 < w4.heap.size := (Array.getElem?_eq_some_iff.1 Ba.out).1
            have lt4_b : w2.heap.size + 1 + 1 + 1 < w4.heap.size := (Array.getElem?_eq_some_iff.1 Bb.out).1
            obtain ⟨cx0, cx1, fx0, fx1⟩ := res_facts Bx.out
            obtain ⟨cy0, cy1, fy0, fy1⟩ := res_facts By.out
            have ldx1 : w2.heap.size < w4.heap.size + 1 := by omega
            have ldx2 : w2.heap.size < w4.heap.size + 1 + 1 := by omega
            have ldx3 : w2.heap.size < w4.heap.size + 1 + 1 + 1 := by omega
            have ldy1 : w2.heap.size + 1 < w4.heap.size + 1 := by omega
            have ldy2 : w2.heap.size + 1 < w4.heap.size + 1 + 1 := by omega
            have ldy3 : w2.heap.size + 1 < w4.heap.size + 1 + 1 + 1 := by omega
            go_wp2_with fail
            clear cx0 cx1 fx0 fx1 cy0 cy1 fy0 fy1 ldx1 ldx2 ldx3 ldy1 ldy2 ldy3
            obtain ⟨W5, hW, hs, hb, b0, b1, b2, b3⟩ := alloc4 w4 (.cells #[.bool n0_4, .slice a0_4 k0_4 c0_4] 25) (.cells #[.bool n1_4, .slice a1_4 k1_4 c1_4] 25) (.cells #[.bool n2_4, .slice a2_4 k2_4 c2_4] 28) (.cells #[.bool n3_4, .slice a3_4 k3_4 c3_4] 28)
            rw [← hW]
            replace HB := Lib.hid (bt HB.out hb)
            replace HT := Lib.hid (HT.out.below hb)
            replace HX := Lib.hid (HX.out.below hb)
            replace HY := Lib.hid (HY.out.below hb)
            replace HA := Lib.hid (HA.out.below hb)
            replace HBB := Lib.hid (HBB.out.below hb)
            replace HZ := Lib.hid (HZ.out.below hb)
            replace Bx := Lib.hid (blk_next Bx.out hb)
            replace By := Lib.hid (blk_next By.out hb)
            replace Ba := Lib.hid (blk_next Ba.out hb)
            replace Bb := Lib.hid (blk_next Bb.out hb)
            have Bz := Lib.hid b0
            have Bz2 := Lib.hid b1
            have Bz3 := Lib.hid b2
            have Bz4 := Lib.hid b3
            clear hW hs hb b0 b1 b2 b3
            have dgg := gcd_dg dgx dgy
            have dgs := Dg.sub dgx dgy
            have dgzx : Dg 1200 (z * x) := (Dg.mul dgz dgx).mono (by omega)
            have dgzy : Dg 1200 (z * y) := (Dg.mul dgz dgy).mono (by omega)
            have dggz := gcd_dg dgzx dgzy
            have dgaz : Dg 600 (z.natAbs : Int) := dgz.le (by simp)
            have E1 := Lib.hid (show ((y.gcd (x - y) : Nat) : Int) = ((x.gcd y : Nat) : Int) from by rw [← gcd_turn])
            have E2 := Lib.hid (show (z.natAbs : Int) * ((x.gcd y : Nat) : Int) = (((z * x).gcd (z * y) : Nat) : Int) from by rw [Int.gcd_mul_left]; exact (Int.natCast_mul _ _).symm)
            (with_reducible refine (gcd_any HX.out HY.out dgx dgy (by omega)).mono ?_)
            rintro e w6 ⟨n_6, a_6, k_6, c_6, rfl, hu_6, hb⟩
            replace HB := Lib.hid (bt HB.out hb)
            replace HT := Lib.hid (HT.out.below hb)
            replace HX := Lib.hid (HX.out.below hb)
            replace HY := Lib.hid (HY.out.below hb)
            replace HA := Lib.hid (HA.out.below hb)
            replace HBB := Lib.hid (HBB.out.below hb)
            replace HZ := Lib.hid (HZ.out.below hb)
            replace Bx := Lib.hid (blk_next Bx.out hb)
            replace By := Lib.hid (blk_next By.out hb)
            replace Ba := Lib.hid (blk_next Ba.out hb)
            replace Bb := Lib.hid (blk_next Bb.out hb)
            replace Bz := Lib.hid (blk_next Bz.out hb)
            have HG := Lib.hid hu_6
            clear hu_6
            clear hb
            have lt5_x : w2.heap.size < w6.heap.size := (Array.getElem?_eq_some_iff.1 Bx.out).1
            have lt6_y : w2.heap.size + 1 < w6.heap.size := (Array.getElem?_eq_some_iff.1 By.out).1
            have lt7_a : w2.heap.size + 1 + 1 < w6.heap.size := (Array.getElem?_eq_some_iff.1 Ba.out).1
            have lt8_b : w2.heap.size + 1 + 1 + 1 < w6.heap.size := (Array.getElem?_eq_some_iff.1 Bb.out).1
            have lt9_z : w4.heap.size < w6.heap.size := (Array.getElem?_eq_some_iff.1 Bz.out).1
            obtain ⟨cx0, cx1, fx0, fx1⟩ := res_facts Bx.out
            obtain ⟨cy0, cy1, fy0, fy1⟩ := res_facts By.out
            obtain ⟨ca0, ca1, fa0, fa1⟩ := res_facts Ba.out
            obtain ⟨cb0, cb1, fb0, fb1⟩ := res_facts Bb.out
            obtain ⟨cz0, cz1, fz0, fz1⟩ := res_facts Bz.out
            go_wp2_with fail
            clear cx0 cx1 fx0 fx1 cy0 cy1 fy0 fy1 ca0 ca1 fa0 fa1 cb0 cb1 fb0 fb1 cz0 cz1 fz0 fz1
            obtain ⟨W7, hW, hs, hb, b0⟩ := alloc1 w6 (.cells #[.bool n_6, .slice a_6 k_6 c_6] 25)
            rw [← hW]
            replace HB := Lib.hid (bt HB.out hb)
            replace HT := Lib.hid (HT.out.below hb)
            replace HX := Lib.hid (HX.out.below hb)
            replace HY := Lib.hid (HY.out.below hb)
            replace HA := Lib.hid (HA.out.below hb)
            replace HBB := Lib.hid (HBB.out.below hb)
            replace HZ := Lib.hid (HZ.out.below hb)
            replace HG := Lib.hid (HG.out.below hb)
            replace Bx := Lib.hid (blk_next Bx.out hb)
            replace By := Lib.hid (blk_next By.out hb)
            replace Ba := Lib.hid (blk_next Ba.out hb)
            replace Bb := Lib.hid (blk_next Bb.out hb)
            replace Bz := Lib.hid (blk_next Bz.out hb)
            have Bg := Lib.hid b0
            clear hW hs hb b0
            have lt10_x : w2.heap.size < W7.heap.size := (Array.getElem?_eq_some_iff.1 Bx.out).1
            have lt11_y : w2.heap.size + 1 < W7.heap.size := (Array.getElem?_eq_some_iff.1 By.out).1
            have lt12_a : w2.heap.size + 1 + 1 < W7.heap.size := (Array.getElem?_eq_some_iff.1 Ba.out).1
            have lt13_b : w2.heap.size + 1 + 1 + 1 < W7.heap.size := (Array.getElem?_eq_some_iff.1 Bb.out).1
            have lt14_z : w4.heap.size < W7.heap.size := (Array.getElem?_eq_some_iff.1 Bz.out).1
            have lt15_g : w6.heap.size < W7.heap.size := (Array.getElem?_eq_some_iff.1 Bg.out).1
            obtain ⟨cg0, cg1, fg0, fg1⟩ := res_facts Bg.out
            obtain ⟨ca0, ca1, fa0, fa1⟩ := res_facts Ba.out
            obtain ⟨cb0, cb1, fb0, fb1⟩ := res_facts Bb.out
            obtain ⟨cx0, cx1, fx0, fx1⟩ := res_facts Bx.out
            obtain ⟨cy0, cy1, fy0, fy1⟩ := res_facts By.out
            obtain ⟨cz0, cz1, fz0, fz1⟩ := res_facts Bz.out
            have HL8 := Lib.hid (fun (w' : World) (hb : Below W7.heap.size W7 w') => (⟨hb, keepc hb cg0, keepc hb cg1, keepc hb ca0, keepc hb ca1, keepc hb cb0, keepc hb cb1, keepc hb cx0, keepc hb cx1, keepc hb cy0, keepc hb cy1, keepc hb cz0, keepc hb cz1⟩ : Below W7.heap.size W7 w' ∧ w'.cell? ⟨w6.heap.size, 0, none⟩ = some (.bool n_6) ∧ w'.cell? ⟨w6.heap.size, 1, none⟩ = some (.slice a_6 k_6 c_6) ∧ w'.cell? ⟨w2.heap.size + 1 + 1, 0, none⟩ = some (.bool n2_2) ∧ w'.cell? ⟨w2.heap.size + 1 + 1, 1, none⟩ = some (.slice a2_2 k2_2 c2_2) ∧ w'.cell? ⟨w2.heap.size + 1 + 1 + 1, 0, none⟩ = some (.bool n3_2) ∧ w'.cell? ⟨w2.heap.size + 1 + 1 + 1, 1, none⟩ = some (.slice a3_2 k3_2 c3_2) ∧ w'.cell? ⟨w2.heap.size, 0, none⟩ = some (.bool n0_2) ∧ w'.cell? ⟨w2.heap.size, 1, none⟩ = some (.slice a0_2 k0_2 c0_2) ∧ w'.cell? ⟨w2.heap.size + 1, 0, none⟩ = some (.bool n1_2) ∧ w'.cell? ⟨w2.heap.size + 1, 1, none⟩ = some (.slice a1_2 k1_2 c1_2) ∧ w'.cell? ⟨w4.heap.size, 0, none⟩ = some (.bool n0_4) ∧ w'.cell? ⟨w4.heap.size, 1, none⟩ = some (.slice a0_4 k0_4 c0_4)))
            have HI8 := Lib.hid (fun (w' : World) (hs : Below W7.heap.size W7 w' ∧ w'.cell? ⟨w6.heap.size, 0, none⟩ = some (.bool n_6) ∧ w'.cell? ⟨w6.heap.size, 1, none⟩ = some (.slice a_6 k_6 c_6) ∧ w'.cell? ⟨w2.heap.size + 1 + 1, 0, none⟩ = some (.bool n2_2) ∧ w'.cell? ⟨w2.heap.size + 1 + 1, 1, none⟩ = some (.slice a2_2 k2_2 c2_2) ∧ w'.cell? ⟨w2.heap.size + 1 + 1 + 1, 0, none⟩ = some (.bool n3_2) ∧ w'.cell? ⟨w2.heap.size + 1 + 1 + 1, 1, none⟩ = some (.slice a3_2 k3_2 c3_2) ∧ w'.cell? ⟨w2.heap.size, 0, none⟩ = some (.bool n0_2) ∧ w'.cell? ⟨w2.heap.size, 1, none⟩ = some (.slice a0_2 k0_2 c0_2) ∧ w'.cell? ⟨w2.heap.size + 1, 0, none⟩ = some (.bool n1_2) ∧ w'.cell? ⟨w2.heap.size + 1, 1, none⟩ = some (.slice a1_2 k1_2 c1_2) ∧ w'.cell? ⟨w4.heap.size, 0, none⟩ = some (.bool n0_4) ∧ w'.cell? ⟨w4.heap.size, 1, none⟩ = some (.slice a0_4 k0_4 c0_4)) => hs.1)
            have HS8 := Lib.hid (Below.refl W7.heap.size W7)
            have HC8 := Lib.hid (Below.drew (Below.refl W7.heap.size W7))
            go_region_held3 (fun w' => Below W7.heap.size W7 w' ∧ w'.cell? ⟨w6.heap.size, 0, none⟩ = some (.bool n_6) ∧ w'.cell? ⟨w6.heap.size, 1, none⟩ = some (.slice a_6 k_6 c_6) ∧ w'.cell? ⟨w2.heap.size + 1 + 1, 0, none⟩ = some (.bool n2_2) ∧ w'.cell? ⟨w2.heap.size + 1 + 1, 1, none⟩ = some (.slice a2_2 k2_2 c2_2) ∧ w'.cell? ⟨w2.heap.size + 1 + 1 + 1, 0, none⟩ = some (.bool n3_2) ∧ w'.cell? ⟨w2.heap.size + 1 + 1 + 1, 1, none⟩ = some (.slice a3_2 k3_2 c3_2) ∧ w'.cell? ⟨w2.heap.size, 0, none⟩ = some (.bool n0_2) ∧ w'.cell? ⟨w2.heap.size, 1, none⟩ = some (.slice a0_2 k0_2 c0_2) ∧ w'.cell? ⟨w2.heap.size + 1, 0, none⟩ = some (.bool n1_2) ∧ w'.cell? ⟨w2.heap.size + 1, 1, none⟩ = some (.slice a1_2 k1_2 c1_2) ∧ w'.cell? ⟨w4.heap.size, 0, none⟩ = some (.bool n0_4) ∧ w'.cell? ⟨w4.heap.size, 1, none⟩ = some (.slice a0_4 k0_4 c0_4))
              (first | exact HL8.out _ (Below.drew HS8.out) | exact HL8.out _ (bt (HI8.out _ (by assumption)) (by assumption)))
              (first | (go_at_call 43; (with_reducible refine (rgcd_any (HA.out.below (HI8.out _ (by assumption))) (HBB.out.below (HI8.out _ (by assumption))) dgx dgy (by omega)).mono ?_); rintro e w9 ⟨n_9, a_9, k_9, c_9, rfl, hu_9, hbr9⟩; have HRG := Lib.hid hu_9; clear hu_9) | (go_at_call 18; (with_reducible refine (same_any (HG.out.below (HI8.out _ (by assumption))) HRG.out (HT.out.below (HI8.out _ (by assumption))) dgg (by omega)).mono ?_); rintro e w10 ⟨rfl, hbr10⟩) | (go_at_call 32; (with_reducible refine (sub_any (HX.out.below (HI8.out _ (by assumption))) (HY.out.below (HI8.out _ (by assumption))) dgx dgy (by omega)).mono ?_); rintro e w11 ⟨n_11, a_11, k_11, c_11, rfl, hu_11, hbr11⟩; have HS := Lib.hid hu_11; clear hu_11) | (go_at_call 42; (with_reducible refine (gcd_any (HY.out.below (HI8.out _ (by assumption))) HS.out (dgy.mono (by omega)) dgs (by omega)).mono ?_); rintro e w12 ⟨n_12, a_12, k_12, c_12, rfl, hu_12, hbr12⟩; have HG2 := Lib.hid hu_12; clear hu_12) | (go_at_call 38; (with_reducible refine (equal_any (HG.out.below (HI8.out _ (by assumption))) (HG2.out.as E1.out) (HT.out.below (HI8.out _ (by assumption))) dgg (by omega)).mono ?_); rintro e w13 ⟨rfl, hbr13⟩) | (go_at_call 19; (with_reducible refine (mul_any (HZ.out.below (HI8.out _ (by assumption))) (HX.out.below (HI8.out _ (by assumption))) dgz dgx (by omega)).mono ?_); rintro e w14 ⟨n_14, a_14, k_14, c_14, rfl, hu_14, hbr14⟩; have HZX := Lib.hid hu_14; clear hu_14) | (go_at_call 19; (with_reducible refine (mul_any (HZ.out.below (HI8.out _ (by assumption))) (HY.out.below (HI8.out _ (by assumption))) dgz dgy (by omega)).mono ?_); rintro e w15 ⟨n_15, a_15, k_15, c_15, rfl, hu_15, hbr15⟩; have HZY := Lib.hid hu_15; clear hu_15) | (go_at_call 42; (with_reducible refine (gcd_any (HZX.out.below hbr15) HZY.out dgzx dgzy (by omega)).mono ?_); rintro e w16 ⟨n_16, a_16, k_16, c_16, rfl, hu_16, hbr16⟩; have HG3 := Lib.hid hu_16; clear hu_16) | (go_at_call 41; (with_reducible refine (abs_any (HZ.out.below (HI8.out _ (by assumption)))).mono ?_); rintro e w17 ⟨n_17, a_17, k_17, c_17, rfl, hu_17, hbr17⟩; have HAZ := Lib.hid hu_17; clear hu_17) | (go_at_call 19; (with_reducible refine (mul_any HAZ.out (HG.out.below (HI8.out _ (by assumption))) dgaz dgg (by omega)).mono ?_); rintro e w18 ⟨n_18, a_18, k_18, c_18, rfl, hu_18, hbr18⟩; have HZG := Lib.hid hu_18; clear hu_18) | (go_at_call 38; (with_reducible refine (equal_any ((HG3.out.below hbr17).below hbr18) (HZG.out.as E2.out) (HT.out.below (HI8.out _ (by assumption))) dggz (by omega)).mono ?_); rintro e w19 ⟨rfl, hbr19⟩))
            clear cg0 cg1 fg0 fg1 ca0 ca1 fa0 fa1 cb0 cb1 fb0 fb1 cx0 cx1 fx0 fx1 cy0 cy1 fy0 fy1 cz0 cz1 fz0 fz1
            have hbR := (bt (bt (bt (bt (bt (bt (bt (bt (bt (bt (bt HC8.out hbr9) hbr10) hbr11) hbr12) hbr13) hbr14) hbr15) hbr16) hbr17) hbr18) hbr19)
            replace HT := Lib.hid (HT.out.below hbR)
            replace HX := Lib.hid (HX.out.below hbR)
            replace HY := Lib.hid (HY.out.below hbR)
            replace HA := Lib.hid (HA.out.below hbR)
            replace HBB := Lib.hid (HBB.out.below hbR)
            replace HZ := Lib.hid (HZ.out.below hbR)
            replace HG := Lib.hid (HG.out.below hbR)
            replace HRG := Lib.hid ((((((((((HRG.out.below hbr10).below hbr11).below hbr12).below hbr13).below hbr14).below hbr15).below hbr16).below hbr17).below hbr18).below hbr19)
            replace HS := Lib.hid ((((((((HS.out.below hbr12).below hbr13).below hbr14).below hbr15).below hbr16).below hbr17).below hbr18).below hbr19)
            replace HG2 := Lib.hid (((((((HG2.out.below hbr13).below hbr14).below hbr15).below hbr16).below hbr17).below hbr18).below hbr19)
            replace HZX := Lib.hid (((((HZX.out.below hbr15).below hbr16).below hbr17).below hbr18).below hbr19)
            replace HZY := Lib.hid ((((HZY.out.below hbr16).below hbr17).below hbr18).below hbr19)
            replace HG3 := Lib.hid (((HG3.out.below hbr17).below hbr18).below hbr19)
            replace HAZ := Lib.hid ((HAZ.out.below hbr18).below hbr19)
            replace HZG := Lib.hid (HZG.out.below hbr19)
            replace HB := Lib.hid (bt HB.out hbR)
            replace Bx := Lib.hid (blk_next Bx.out hbR)
            replace By := Lib.hid (blk_next By.out hbR)
            replace Ba := Lib.hid (blk_next Ba.out hbR)
            replace Bb := Lib.hid (blk_next Bb.out hbR)
            replace Bz := Lib.hid (blk_next Bz.out hbR)
            replace Bg := Lib.hid (blk_next Bg.out hbR)
            clear hbR hbr9 hbr10 hbr11 hbr12 hbr13 hbr14 hbr15 hbr16 hbr17 hbr18 hbr19
            have lt16_x : w2.heap.size < w19.heap.size := (Array.getElem?_eq_some_iff.1 Bx.out).1
            have lt17_y : w2.heap.size + 1 < w19.heap.size := (Array.getElem?_eq_some_iff.1 By.out).1
            have lt18_g : w6.heap.size < w19.heap.size := (Array.getElem?_eq_some_iff.1 Bg.out).1
            obtain ⟨cg0, cg1, fg0, fg1⟩ := res_facts Bg.out
            go_wp2_with fail
            clear cg0 cg1 fg0 fg1
            (with_reducible refine (sign_any HG.out).mono ?_)
            rintro e w20 ⟨rfl, hb⟩
            replace HB := Lib.hid (bt HB.out hb)
            replace HT := Lib.hid (HT.out.below hb)
            replace HX := Lib.hid (HX.out.below hb)
            replace HY := Lib.hid (HY.out.below hb)
            replace HG := Lib.hid (HG.out.below hb)
            replace Bx := Lib.hid (blk_next Bx.out hb)
            replace By := Lib.hid (blk_next By.out hb)
            replace Bg := Lib.hid (blk_next Bg.out hb)
            clear hb
            by_cases hg0 : ((x.gcd y : Nat) : Int) = 0
            · obtain ⟨hx0, hy0⟩ := gcd_zero.1 hg0
              have S1 := Lib.hid (show x.sign = 0 by rw [hx0]; rfl)
              have S2 := Lib.hid (show y.sign = 0 by rw [hy0]; rfl)
              have S3 := Lib.hid (show ((x.gcd y : Nat) : Int).sign = 0 by rw [hg0]; rfl)
              clear hx0 hy0 hg0
              rw [S3.out]
              have lt19_x : w2.heap.size < w20.heap.size := (Array.getElem?_eq_some_iff.1 Bx.out).1
              have lt20_y : w2.heap.size + 1 < w20.heap.size := (Array.getElem?_eq_some_iff.1 By.out).1
              have lt21_g : w6.heap.size < w20.heap.size := (Array.getElem?_eq_some_iff.1 Bg.out).1
              obtain ⟨cx0, cx1, fx0, fx1⟩ := res_facts Bx.out
              obtain ⟨cy0, cy1, fy0, fy1⟩ := res_facts By.out
              go_wp2_with fail
              clear cx0 cx1 fx0 fx1 cy0 cy1 fy0 fy1
              (with_reducible refine (sign_any HX.out).mono ?_)
              rintro e w21 ⟨rfl, hb⟩
              replace HB := Lib.hid (bt HB.out hb)
              replace HT := Lib.hid (HT.out.below hb)
              replace HX := Lib.hid (HX.out.below hb)
              replace HY := Lib.hid (HY.out.below hb)
              replace HG := Lib.hid (HG.out.below hb)
              replace Bx := Lib.hid (blk_next Bx.out hb)
              replace By := Lib.hid (blk_next By.out hb)
              replace Bg := Lib.hid (blk_next Bg.out hb)
              clear hb
              rw [S1.out]
              have lt22_x : w2.heap.size < w21.heap.size := (Array.getElem?_eq_some_iff.1 Bx.out).1
              have lt23_y : w2.heap.size + 1 < w21.heap.size := (Array.getElem?_eq_some_iff.1 By.out).1
              have lt24_g : w6.heap.size < w21.heap.size := (Array.getElem?_eq_some_iff.1 Bg.out).1
              obtain ⟨cx0, cx1, fx0, fx1⟩ := res_facts Bx.out
              obtain ⟨cy0, cy1, fy0, fy1⟩ := res_facts By.out
              go_wp2_with fail
              clear cx0 cx1 fx0 fx1 cy0 cy1 fy0 fy1
              (with_reducible refine (sign_any HY.out).mono ?_)
              rintro e w22 ⟨rfl, hb⟩
              replace HB := Lib.hid (bt HB.out hb)
              replace HT := Lib.hid (HT.out.below hb)
              replace HX := Lib.hid (HX.out.below hb)
              replace HY := Lib.hid (HY.out.below hb)
              replace HG := Lib.hid (HG.out.below hb)
              replace Bx := Lib.hid (blk_next Bx.out hb)
              replace By := Lib.hid (blk_next By.out hb)
              replace Bg := Lib.hid (blk_next Bg.out hb)
              clear hb
              rw [S2.out]
              go_wp2
              go_ret
              exact ⟨rfl, HB.out⟩
            · have S3 := Lib.hid (show ((x.gcd y : Nat) : Int).sign = 1 from Int.sign_eq_one_of_pos (by omega))
              have E3 := Lib.hid (gcd_tmod_left (x := x) (y := y))
              have E4 := Lib.hid (gcd_tmod_right (x := x) (y := y))
              have HG0 := Lib.hid hg0
              clear hg0
              rw [S3.out]
              have lt19_x : w2.heap.size < w20.heap.size := (Array.getElem?_eq_some_iff.1 Bx.out).1
              have lt20_y : w2.heap.size + 1 < w20.heap.size := (Array.getElem?_eq_some_iff.1 By.out).1
              have lt21_g : w6.heap.size < w20.heap.size := (Array.getElem?_eq_some_iff.1 Bg.out).1
              obtain ⟨cx0, cx1, fx0, fx1⟩ := res_facts Bx.out
              obtain ⟨cy0, cy1, fy0, fy1⟩ := res_facts By.out
              obtain ⟨cg0, cg1, fg0, fg1⟩ := res_facts Bg.out
              go_wp2_with fail
              clear cx0 cx1 fx0 fx1 cy0 cy1 fy0 fy1 cg0 cg1 fg0 fg1
              (with_reducible refine (quorem_any HX.out HG.out HG0.out dgx (by omega)).mono ?_)
              rintro e w21 ⟨n_21, a_21, k_21, c_21, n2_21, a2_21, k2_21, c2_21, rfl, hu_21, hv_21, hb⟩
              replace HB := Lib.hid (bt HB.out hb)
              replace HT := Lib.hid (HT.out.below hb)
              replace HX := Lib.hid (HX.out.below hb)
              replace HY := Lib.hid (HY.out.below hb)
              replace HG := Lib.hid (HG.out.below hb)
              replace Bx := Lib.hid (blk_next Bx.out hb)
              replace By := Lib.hid (blk_next By.out hb)
              replace Bg := Lib.hid (blk_next Bg.out hb)
              have HQ1 := Lib.hid hu_21
              have HR1 := Lib.hid hv_21
              clear hu_21 hv_21
              clear hb
              rw [E3.out] at HR1
              have lt22_x : w2.heap.size < w21.heap.size := (Array.getElem?_eq_some_iff.1 Bx.out).1
              have lt23_y : w2.heap.size + 1 < w21.heap.size := (Array.getElem?_eq_some_iff.1 By.out).1
              have lt24_g : w6.heap.size < w21.heap.size := (Array.getElem?_eq_some_iff.1 Bg.out).1
              obtain ⟨cx0, cx1, fx0, fx1⟩ := res_facts Bx.out
              obtain ⟨cy0, cy1, fy0, fy1⟩ := res_facts By.out
              obtain ⟨cg0, cg1, fg0, fg1⟩ := res_facts Bg.out
              go_wp2_with fail
              clear cx0 cx1 fx0 fx1 cy0 cy1 fy0 fy1 cg0 cg1 fg0 fg1
              obtain ⟨W22, hW, hs, hb, b0, b1⟩ := alloc2 w21 (.cells #[.bool n_21, .slice a_21 k_21 c_21] 25) (.cells #[.bool n2_21, .slice a2_21 k2_21 c2_21] 25)
              rw [← hW]
              replace HB := Lib.hid (bt HB.out hb)
              replace HT := Lib.hid (HT.out.below hb)
              replace HX := Lib.hid (HX.out.below hb)
              replace HY := Lib.hid (HY.out.below hb)
              replace HG := Lib.hid (HG.out.below hb)
              replace HQ1 := Lib.hid (HQ1.out.below hb)
              replace HR1 := Lib.hid (HR1.out.below hb)
              replace Bx := Lib.hid (blk_next Bx.out hb)
              replace By := Lib.hid (blk_next By.out hb)
              replace Bg := Lib.hid (blk_next Bg.out hb)
              have Bq1 := Lib.hid b0
              have Br1 := Lib.hid b1
              clear hW hs hb b0 b1
              (with_reducible refine (quorem_any HY.out HG.out HG0.out dgy (by omega)).mono ?_)
              rintro e w23 ⟨n_23, a_23, k_23, c_23, n2_23, a2_23, k2_23, c2_23, rfl, hu_23, hv_23, hb⟩
              replace HB := Lib.hid (bt HB.out hb)
              replace HT := Lib.hid (HT.out.below hb)
              replace HX := Lib.hid (HX.out.below hb)
              replace HY := Lib.hid (HY.out.below hb)
              replace HG := Lib.hid (HG.out.below hb)
              replace HQ1 := Lib.hid (HQ1.out.below hb)
              replace HR1 := Lib.hid (HR1.out.below hb)
              replace Bx := Lib.hid (blk_next Bx.out hb)
              replace By := Lib.hid (blk_next By.out hb)
              replace Bg := Lib.hid (blk_next Bg.out hb)
              replace Bq1 := Lib.hid (blk_next Bq1.out hb)
              replace Br1 := Lib.hid (blk_next Br1.out hb)
              have HQ2 := Lib.hid hu_23
              have HR2 := Lib.hid hv_23
              clear hu_23 hv_23
              clear hb
              rw [E4.out] at HR2
              have lt25_x : w2.heap.size < w23.heap.size := (Array.getElem?_eq_some_iff.1 Bx.out).1
              have lt26_y : w2.heap.size + 1 < w23.heap.size := (Array.getElem?_eq_some_iff.1 By.out).1
              have lt27_g : w6.heap.size < w23.heap.size := (Array.getElem?_eq_some_iff.1 Bg.out).1
              have lt28_q1 : w21.heap.size < w23.heap.size := (Array.getElem?_eq_some_iff.1 Bq1.out).1
              have lt29_r1 : w21.heap.size + 1 < w23.heap.size := (Array.getElem?_eq_some_iff.1 Br1.out).1
              obtain ⟨cx0, cx1, fx0, fx1⟩ := res_facts Bx.out
              obtain ⟨cy0, cy1, fy0, fy1⟩ := res_facts By.out
              obtain ⟨cg0, cg1, fg0, fg1⟩ := res_facts Bg.out
              obtain ⟨cr10, cr11, fr10, fr11⟩ := res_facts Br1.out
              go_wp2_with fail
              clear cx0 cx1 fx0 fx1 cy0 cy1 fy0 fy1 cg0 cg1 fg0 fg1 cr10 cr11 fr10 fr11
              obtain ⟨W24, hW, hs, hb, b0, b1⟩ := alloc2 w23 (.cells #[.bool n_23, .slice a_23 k_23 c_23] 25) (.cells #[.bool n2_23, .slice a2_23 k2_23 c2_23] 25)
              rw [← hW]
              replace HB := Lib.hid (bt HB.out hb)
              replace HT := Lib.hid (HT.out.below hb)
              replace HX := Lib.hid (HX.out.below hb)
              replace HY := Lib.hid (HY.out.below hb)
              replace HG := Lib.hid (HG.out.below hb)
              replace HQ1 := Lib.hid (HQ1.out.below hb)
              replace HR1 := Lib.hid (HR1.out.below hb)
              replace HQ2 := Lib.hid (HQ2.out.below hb)
              replace HR2 := Lib.hid (HR2.out.below hb)
              replace Bx := Lib.hid (blk_next Bx.out hb)
              replace By := Lib.hid (blk_next By.out hb)
              replace Bg := Lib.hid (blk_next Bg.out hb)
              replace Bq1 := Lib.hid (blk_next Bq1.out hb)
              replace Br1 := Lib.hid (blk_next Br1.out hb)
              have Bq2 := Lib.hid b0
              have Br2 := Lib.hid b1
              clear hW hs hb b0 b1
              (with_reducible refine (sign_any HR1.out).mono ?_)
              rintro e w25 ⟨rfl, hb⟩
              replace HB := Lib.hid (bt HB.out hb)
              replace HT := Lib.hid (HT.out.below hb)
              replace HX := Lib.hid (HX.out.below hb)
              replace HY := Lib.hid (HY.out.below hb)
              replace HG := Lib.hid (HG.out.below hb)
              replace HQ1 := Lib.hid (HQ1.out.below hb)
              replace HR1 := Lib.hid (HR1.out.below hb)
              replace HQ2 := Lib.hid (HQ2.out.below hb)
              replace HR2 := Lib.hid (HR2.out.below hb)
              replace Bx := Lib.hid (blk_next Bx.out hb)
              replace By := Lib.hid (blk_next By.out hb)
              replace Bg := Lib.hid (blk_next Bg.out hb)
              replace Bq1 := Lib.hid (blk_next Bq1.out hb)
              replace Br1 := Lib.hid (blk_next Br1.out hb)
              replace Bq2 := Lib.hid (blk_next Bq2.out hb)
              replace Br2 := Lib.hid (blk_next Br2.out hb)
              clear hb
              rw [show Int.sign 0 = 0 from rfl]
              have lt30_x : w2.heap.size < w25.heap.size := (Array.getElem?_eq_some_iff.1 Bx.out).1
              have lt31_y : w2.heap.size + 1 < w25.heap.size := (Array.getElem?_eq_some_iff.1 By.out).1
              have lt32_g : w6.heap.size < w25.heap.size := (Array.getElem?_eq_some_iff.1 Bg.out).1
              have lt33_q1 : w21.heap.size < w25.heap.size := (Array.getElem?_eq_some_iff.1 Bq1.out).1
              have lt34_r1 : w21.heap.size + 1 < w25.heap.size := (Array.getElem?_eq_some_iff.1 Br1.out).1
              have lt35_q2 : w23.heap.size < w25.heap.size := (Array.getElem?_eq_some_iff.1 Bq2.out).1
              have lt36_r2 : w23.heap.size + 1 < w25.heap.size := (Array.getElem?_eq_some_iff.1 Br2.out).1
              obtain ⟨cr20, cr21, fr20, fr21⟩ := res_facts Br2.out
              obtain ⟨cg0, cg1, fg0, fg1⟩ := res_facts Bg.out
              go_wp2_with fail
              clear cr20 cr21 fr20 fr21 cg0 cg1 fg0 fg1
              (with_reducible refine (sign_any HR2.out).mono ?_)
              rintro e w26 ⟨rfl, hb⟩
              replace HB := Lib.hid (bt HB.out hb)
              replace HT := Lib.hid (HT.out.below hb)
              replace HX := Lib.hid (HX.out.below hb)
              replace HY := Lib.hid (HY.out.below hb)
              replace HG := Lib.hid (HG.out.below hb)
              replace HQ1 := Lib.hid (HQ1.out.below hb)
              replace HR1 := Lib.hid (HR1.out.below hb)
              replace HQ2 := Lib.hid (HQ2.out.below hb)
              replace HR2 := Lib.hid (HR2.out.below hb)
              replace Bx := Lib.hid (blk_next Bx.out hb)
              replace By := Lib.hid (blk_next By.out hb)
              replace Bg := Lib.hid (blk_next Bg.out hb)
              replace Bq1 := Lib.hid (blk_next Bq1.out hb)
              replace Br1 := Lib.hid (blk_next Br1.out hb)
              replace Bq2 := Lib.hid (blk_next Bq2.out hb)
              replace Br2 := Lib.hid (blk_next Br2.out hb)
              clear hb
              rw [show Int.sign 0 = 0 from rfl]
              have lt37_x : w2.heap.size < w26.heap.size := (Array.getElem?_eq_some_iff.1 Bx.out).1
              have lt38_y : w2.heap.size + 1 < w26.heap.size := (Array.getElem?_eq_some_iff.1 By.out).1
              have lt39_g : w6.heap.size < w26.heap.size := (Array.getElem?_eq_some_iff.1 Bg.out).1
              have lt40_q1 : w21.heap.size < w26.heap.size := (Array.getElem?_eq_some_iff.1 Bq1.out).1
              have lt41_r1 : w21.heap.size + 1 < w26.heap.size := (Array.getElem?_eq_some_iff.1 Br1.out).1
              have lt42_q2 : w23.heap.size < w26.heap.size := (Array.getElem?_eq_some_iff.1 Bq2.out).1
              have lt43_r2 : w23.heap.size + 1 < w26.heap.size := (Array.getElem?_eq_some_iff.1 Br2.out).1
              obtain ⟨cg0, cg1, fg0, fg1⟩ := res_facts Bg.out
              go_wp2_with fail
              clear cg0 cg1 fg0 fg1
              (with_reducible refine (sign_any HG.out).mono ?_)
              rintro e w27 ⟨rfl, hb⟩
              replace HB := Lib.hid (bt HB.out hb)
              replace HT := Lib.hid (HT.out.below hb)
              replace HX := Lib.hid (HX.out.below hb)
              replace HY := Lib.hid (HY.out.below hb)
              replace HG := Lib.hid (HG.out.below hb)
              replace HQ1 := Lib.hid (HQ1.out.below hb)
              replace HR1 := Lib.hid (HR1.out.below hb)
              replace HQ2 := Lib.hid (HQ2.out.below hb)
              replace HR2 := Lib.hid (HR2.out.below hb)
              replace Bx := Lib.hid (blk_next Bx.out hb)
              replace By := Lib.hid (blk_next By.out hb)
              replace Bg := Lib.hid (blk_next Bg.out hb)
              replace Bq1 := Lib.hid (blk_next Bq1.out hb)
              replace Br1 := Lib.hid (blk_next Br1.out hb)
              replace Bq2 := Lib.hid (blk_next Bq2.out hb)
              replace Br2 := Lib.hid (blk_next Br2.out hb)
              clear hb
              rw [S3.out]
              go_wp2
              go_ret
              exact ⟨rfl, HB.out⟩

end Go.Proofs.YtihjaakkpnjolaaDoor
