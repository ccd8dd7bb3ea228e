/- The law RationalOrder answers true. -/
import Derived.Test.YtikpafocankggaaGreatDoorRatEqual
import Derived.IntWalk
namespace Go.Proofs.YtikpafocankggaaGreatDoor
open Go.RowKit Tally Go.Lib
theorem sign_bd (z : Int) : -1 ≤ z.sign ∧ z.sign ≤ 1 := by
 rcases Int.lt_trichotomy z 0 with h | h | h
 ·rw [Int.sign_eq_neg_one_of_neg h]; decide
 ·subst h; decide
 ·rw [Int.sign_eq_one_of_pos h]; decide
theorem sign_mul {a b : Int} (ha : -1 ≤ a ∧ a ≤ 1) (hb : -1 ≤ b ∧ b ≤ 1) : -9223372036854775808 ≤ a * b ∧ a * b ≤ 9223372036854775807 := by
 have e1 : a = -1 ∨ a = 0 ∨ a = 1 := by omega
 have e2 : b = -1 ∨ b = 0 ∨ b = 1 := by omega
 rcases e1 with rfl | rfl | rfl <;> rcases e2 with rfl | rfl | rfl <;> decide
theorem cmp_trans {x y z : Rat} (h1 : ¬ 0 < cmpQ x y) (h2 : ¬ 0 < cmpQ y z) : cmpQ x z ≤ 0 := by
 rw [cmpQ_pos] at h1 h2
 refine Int.not_lt.1 fun h3 => ?_
 rw [cmpQ_pos] at h3
 have a := Rat.not_lt.1 h1
 have b := Rat.not_lt.1 h2
 grind
set_option maxHeartbeats 8000000 in
set_option maxRecDepth 100000 in
theorem lawRationalOrder {w : World} (s : ByteArray) (t : ByteArray) (u : ByteArray) (hs_s : s.size ≤ 9223372036854775807) (hs_t : t.size ≤ 9223372036854775807) (hs_u : u.size ≤ 9223372036854775807) (htab : Tab w) (hlen : Mlen w) :
  Calls Tryz.prog 10 #[.string s, .string t, .string u] w (True1 w) := by
 have HT := hid htab
 have HML := hid hlen
 clear htab hlen
 go_enter Tryz.func10, Tryz.ntmps10
 go_wp2_with fail
 (with_reducible refine (ratawake_any HT.out).mono ?_)
 rintro e w1 ⟨rfl, hb⟩
 have HB := hid hb
 replace HT := hid (HT.out.below hb)
 replace HML := hid (HML.out.below hb)
 clear hb
 go_wp2_with fail
 (with_reducible refine (ratboth_any s t hs_s hs_t HML.out).mono ?_)
 rintro e w2 ⟨n0_2, a0_2, k0_2, c0_2, n1_2, a1_2, k1_2, c1_2, n2_2, a2_2, k2_2, c2_2, n3_2, a3_2, k3_2, c3_2, n4_2, a4_2, k4_2, c4_2, n5_2, a5_2, k5_2, c5_2, n6_2, a6_2, k6_2, c6_2, n7_2, a7_2, k7_2, c7_2, ok2, rfl, hok2, hb⟩
 have HOK2 := hid hok2
 clear hok2
 replace HB := hid (bt HB.out hb)
 replace HT := hid (HT.out.below hb)
 replace HML := hid (HML.out.below hb)
 clear hb
 cases ok2
 ·go_wp2_with fail
  obtain ⟨W3, hW, hs, hb, b0, b1, b2, b3⟩ := alloc4 w2 (.cells #[.bool n0_2, .slice a0_2 k0_2 c0_2, .bool n1_2, .slice a1_2 k1_2 c1_2] 27) (.cells #[.bool n2_2, .slice a2_2 k2_2 c2_2, .bool n3_2, .slice a3_2 k3_2 c3_2] 27) (.cells #[.bool n4_2, .slice a4_2 k4_2 c4_2, .bool n5_2, .slice a5_2 k5_2 c5_2] 32) (.cells #[.bool n6_2, .slice a6_2 k6_2 c6_2, .bool n7_2, .slice a7_2 k7_2 c7_2] 32)
  rw [← hW]
  replace HB := hid (bt HB.out hb)
  replace HT := hid (HT.out.below hb)
  replace HML := hid (HML.out.below hb)
  have Bzz0 := hid b0
  have Bzz1 := hid b1
  have Bzz2 := hid b2
  have Bzz3 := hid b3
  clear hW hs hb b0 b1 b2 b3
  clear Bzz0
  clear Bzz1
  clear Bzz2
  clear Bzz3
  (with_reducible refine (ratboth_any u ⟨#[48]⟩ hs_u (by decide) HML.out).mono ?_)
  rintro e w4 ⟨n0_4, a0_4, k0_4, c0_4, n1_4, a1_4, k1_4, c1_4, n2_4, a2_4, k2_4, c2_4, n3_4, a3_4, k3_4, c3_4, n4_4, a4_4, k4_4, c4_4, n5_4, a5_4, k5_4, c5_4, n6_4, a6_4, k6_4, c6_4, n7_4, a7_4, k7_4, c7_4, ok4, rfl, hok4, hb⟩
  have HOK4 := hid hok4
  clear hok4
  replace HB := hid (bt HB.out hb)
  replace HT := hid (HT.out.below hb)
  replace HML := hid (HML.out.below hb)
  clear hb
  cases ok4
  all_goals
   go_wp2
   go_ret
   exact ⟨rfl, bt HB.out (allocs_below4 _ _ _ _ _)⟩
 ·skip
  obtain ⟨s4_2, t4_2, -, -, h0_2, h1_2, -, -⟩ := HOK2.out rfl
  clear HOK2
  have HX := hid h0_2
  clear h0_2
  have HY := hid h1_2
  clear h1_2
  have rx : Rg 400 (qval s.data.toList) := rg_qval s4_2 (by decide)
  generalize qval s.data.toList = x at *
  clear s4_2
  have ry : Rg 400 (qval t.data.toList) := rg_qval t4_2 (by decide)
  generalize qval t.data.toList = y at *
  clear t4_2
  go_wp2_with fail
  obtain ⟨W3, hW, hs, hb, b0, b1, b2, b3⟩ := alloc4 w2 (.cells #[.bool n0_2, .slice a0_2 k0_2 c0_2, .bool n1_2, .slice a1_2 k1_2 c1_2] 27) (.cells #[.bool n2_2, .slice a2_2 k2_2 c2_2, .bool n3_2, .slice a3_2 k3_2 c3_2] 27) (.cells #[.bool n4_2, .slice a4_2 k4_2 c4_2, .bool n5_2, .slice a5_2 k5_2 c5_2] 32) (.cells #[.bool n6_2, .slice a6_2 k6_2 c6_2, .bool n7_2, .slice a7_2 k7_2 c7_2] 32)
  rw [← hW]
  replace HB := hid (bt HB.out hb)
  replace HT := hid (HT.out.below hb)
  replace HML := hid (HML.out.below hb)
  replace HX := hid (HX.out.below hb)
  replace HY := hid (HY.out.below hb)
  have Bx := hid b0
  have By := hid b1
  have Bzz2 := hid b2
  have Bzz3 := hid b3
  clear hW hs hb b0 b1 b2 b3
  clear Bzz2
  clear Bzz3
  (with_reducible refine (ratboth_any u ⟨#[48]⟩ hs_u (by decide) HML.out).mono ?_)
  rintro e w4 ⟨n0_4, a0_4, k0_4, c0_4, n1_4, a1_4, k1_4, c1_4, n2_4, a2_4, k2_4, c2_4, n3_4, a3_4, k3_4, c3_4, n4_4, a4_4, k4_4, c4_4, n5_4, a5_4, k5_4, c5_4, n6_4, a6_4, k6_4, c6_4, n7_4, a7_4, k7_4, c7_4, ok4, rfl, hok4, hb⟩
  have HOK4 := hid hok4
  clear hok4
  replace HB := hid (bt HB.out hb)
  replace HT := hid (HT.out.below hb)
  replace HML := hid (HML.out.below hb)
  replace HX := hid (HX.out.below hb)
  replace HY := hid (HY.out.below hb)
  replace Bx := hid (blk_next Bx.out hb)
  replace By := hid (blk_next By.out hb)
  clear hb
  cases ok4
  ·go_wp2
   go_ret
   exact ⟨rfl, bt HB.out (allocs_below4 _ _ _ _ _ )⟩
  ·skip
   obtain ⟨s4_4, -, -, -, h0_4, -, -, -⟩ := HOK4.out rfl
   clear HOK4
   have HZ := hid h0_4
   clear h0_4
   have rz : Rg 400 (qval u.data.toList) := rg_qval s4_4 (by decide)
   generalize qval u.data.toList = z at *
   clear s4_4
   have lt1_x : w2.heap.size < w4.heap.size := (Array.getElem?_eq_some_iff.1 Bx.out).1
   have lt2_y : w2.heap.size + 1 < w4.heap.size := (Array.getElem?_eq_some_iff.1 By.out).1
   obtain ⟨⟨cx0, cx1, cx2, cx3⟩, fx0, fx1, fx2, fx3⟩ := res4_facts Bx.out
   obtain ⟨⟨cy0, cy1, cy2, cy3⟩, fy0, fy1, fy2, fy3⟩ := res4_facts By.out
   have ldx1 : w2.heap.size < w4.heap.size + 1 := by omega
   have ldx2 : w2.heap.size < w4.heap.size + 1 + 1 := by omega
   have ldx3 : w2.heap.size < w4.heap.size + 1 + 1 + 1 := by omega
   have ldx4 : w2.heap.size < w4.heap.size + 1 + 1 + 1 + 1 := by omega
   have ldy1 : w2.heap.size + 1 < w4.heap.size + 1 := by omega
   have ldy2 : w2.heap.size + 1 < w4.heap.size + 1 + 1 := by omega
   have ldy3 : w2.heap.size + 1 < w4.heap.size + 1 + 1 + 1 := by omega
   have ldy4 : w2.heap.size + 1 < w4.heap.size + 1 + 1 + 1 + 1 := by omega
   go_wp2_with fail
   clear cx0 cx1 cx2 cx3 fx0 fx1 fx2 fx3 cy0 cy1 cy2 cy3 fy0 fy1 fy2 fy3 ldx1 ldx2 ldx3 ldx4 ldy1 ldy2 ldy3 ldy4
   obtain ⟨W5, hW, hs, hb, b0, b1, b2, b3⟩ := alloc4 w4 (.cells #[.bool n0_4, .slice a0_4 k0_4 c0_4, .bool n1_4, .slice a1_4 k1_4 c1_4] 27) (.cells #[.bool n2_4, .slice a2_4 k2_4 c2_4, .bool n3_4, .slice a3_4 k3_4 c3_4] 27) (.cells #[.bool n4_4, .slice a4_4 k4_4 c4_4, .bool n5_4, .slice a5_4 k5_4 c5_4] 32) (.cells #[.bool n6_4, .slice a6_4 k6_4 c6_4, .bool n7_4, .slice a7_4 k7_4 c7_4] 32)
   rw [← hW]
   replace HB := hid (bt HB.out hb)
   replace HT := hid (HT.out.below hb)
   replace HML := hid (HML.out.below hb)
   replace HX := hid (HX.out.below hb)
   replace HY := hid (HY.out.below hb)
   replace HZ := hid (HZ.out.below hb)
   replace Bx := hid (blk_next Bx.out hb)
   replace By := hid (blk_next By.out hb)
   have Bz := hid b0
   have Bzz1 := hid b1
   have Bzz2 := hid b2
   have Bzz3 := hid b3
   clear hW hs hb b0 b1 b2 b3
   clear Bzz1
   clear Bzz2
   clear Bzz3
   obtain ⟨c, hc⟩ : ∃ zz, cmpQ x y = zz := ⟨_, rfl⟩
   have HC := hid hc
   clear hc
   obtain ⟨sz, hsz⟩ : ∃ zz, z.num.sign = zz := ⟨_, rfl⟩
   have HSZ := hid hsz
   clear hsz
   obtain ⟨c2, hc2⟩ : ∃ zz, cmpQ y z = zz := ⟨_, rfl⟩
   have HC2 := hid hc2
   clear hc2
   obtain ⟨c3, hc3⟩ : ∃ zz, cmpQ x z = zz := ⟨_, rfl⟩
   have HC3 := hid hc3
   clear hc3
   have hcb : -1 ≤ c ∧ c ≤ 1 := by
       rcases cmpQ_three x y with h | h | h <;> rw [HC.out] at h <;> omega
   have hzb : -1 ≤ sz ∧ sz ≤ 1 := by rw [← HSZ.out]; exact sign_bd _
   have E1 := hid (show (x - y).num.sign = c from by rw [← cmpQ_eq]; exact HC.out)
   have E2 := hid (show cmpQ y x = -c from by rw [cmpQ_swap, HC.out])
   have E3 := hid (show cmpQ (x + z) (y + z) = c from by rw [cmpQ_add, HC.out])
   have E4 := hid (show cmpQ (x * z) (y * z) = c * sz from by rw [cmpQ_mul, HC.out, HSZ.out])
   have wr1 : IntKind.i64.wrap (-c) = -c := IntWalk.i64_in _ (by omega)
   have wr2 : IntKind.i64.wrap (c * sz) = c * sz := IntWalk.i64_in _ (sign_mul hcb hzb)
   clear hcb hzb
   have HLE := hid (show ¬ 0 < c → ¬ 0 < c2 → c3 ≤ 0 from fun h1 h2 => by rw [← HC.out] at h1; rw [← HC2.out] at h2; rw [← HC3.out]; exact cmp_trans h1 h2)
   (with_reducible refine (cmp_r HX.out HY.out rx ry (by decide)).mono ?_)
   rintro e w6 ⟨rfl, hb⟩
   replace HB := hid (bt HB.out hb)
   replace HT := hid (HT.out.below hb)
   replace HML := hid (HML.out.below hb)
   replace HX := hid (HX.out.below hb)
   replace HY := hid (HY.out.below hb)
   replace HZ := hid (HZ.out.below hb)
   replace Bx := hid (blk_next Bx.out hb)
   replace By := hid (blk_next By.out hb)
   replace Bz := hid (blk_next Bz.out hb)
   clear hb
   rw [HC.out]
   go_wp2_with fail
   have lt3_x : w2.heap.size < w6.heap.size := (Array.getElem?_eq_some_iff.1 Bx.out).1
   have lt4_y : w2.heap.size + 1 < w6.heap.size := (Array.getElem?_eq_some_iff.1 By.out).1
   have lt5_z : w4.heap.size < w6.heap.size := (Array.getElem?_eq_some_iff.1 Bz.out).1
   obtain ⟨⟨cx0, cx1, cx2, cx3⟩, fx0, fx1, fx2, fx3⟩ := res4_facts Bx.out
   obtain ⟨⟨cy0, cy1, cy2, cy3⟩, fy0, fy1, fy2, fy3⟩ := res4_facts By.out
   obtain ⟨⟨cz0, cz1, cz2, cz3⟩, fz0, fz1, fz2, fz3⟩ := res4_facts Bz.out
   have HL7 := hid (fun (w' : World) (hb : Below w6.heap.size w6 w') => (⟨hb, keepc hb cx0, keepc hb cx1, keepc hb cx2, keepc hb cx3, keepc hb cy0, keepc hb cy1, keepc hb cy2, keepc hb cy3, keepc hb cz0, keepc hb cz1, keepc hb cz2, keepc hb cz3⟩ : Below w6.heap.size w6 w' ∧ w'.cell? ⟨w2.heap.size, 0, none⟩ = some (.bool n0_2) ∧ w'.cell? ⟨w2.heap.size, 1, none⟩ = some (.slice a0_2 k0_2 c0_2) ∧ w'.cell? ⟨w2.heap.size, 2, none⟩ = some (.bool n1_2) ∧ w'.cell? ⟨w2.heap.size, 3, none⟩ = some (.slice a1_2 k1_2 c1_2) ∧ w'.cell? ⟨w2.heap.size + 1, 0, none⟩ = some (.bool n2_2) ∧ w'.cell? ⟨w2.heap.size + 1, 1, none⟩ = some (.slice a2_2 k2_2 c2_2) ∧ w'.cell? ⟨w2.heap.size + 1, 2, none⟩ = some (.bool n3_2) ∧ w'.cell? ⟨w2.heap.size + 1, 3, none⟩ = some (.slice a3_2 k3_2 c3_2) ∧ w'.cell? ⟨w4.heap.size, 0, none⟩ = some (.bool n0_4) ∧ w'.cell? ⟨w4.heap.size, 1, none⟩ = some (.slice a0_4 k0_4 c0_4) ∧ w'.cell? ⟨w4.heap.size, 2, none⟩ = some (.bool n1_4) ∧ w'.cell? ⟨w4.heap.size, 3, none⟩ = some (.slice a1_4 k1_4 c1_4)))
   have HI7 := hid (fun (w' : World) (hs : Below w6.heap.size w6 w' ∧ w'.cell? ⟨w2.heap.size, 0, none⟩ = some (.bool n0_2) ∧ w'.cell? ⟨w2.heap.size, 1, none⟩ = some (.slice a0_2 k0_2 c0_2) ∧ w'.cell? ⟨w2.heap.size, 2, none⟩ = some (.bool n1_2) ∧ w'.cell? ⟨w2.heap.size, 3, none⟩ = some (.slice a1_2 k1_2 c1_2) ∧ w'.cell? ⟨w2.heap.size + 1, 0, none⟩ = some (.bool n2_2) ∧ w'.cell? ⟨w2.heap.size + 1, 1, none⟩ = some (.slice a2_2 k2_2 c2_2) ∧ w'.cell? ⟨w2.heap.size + 1, 2, none⟩ = some (.bool n3_2) ∧ w'.cell? ⟨w2.heap.size + 1, 3, none⟩ = some (.slice a3_2 k3_2 c3_2) ∧ w'.cell? ⟨w4.heap.size, 0, none⟩ = some (.bool n0_4) ∧ w'.cell? ⟨w4.heap.size, 1, none⟩ = some (.slice a0_4 k0_4 c0_4) ∧ w'.cell? ⟨w4.heap.size, 2, none⟩ = some (.bool n1_4) ∧ w'.cell? ⟨w4.heap.size, 3, none⟩ = some (.slice a1_4 k1_4 c1_4)) => hs.1)
   have HS7 := hid (Below.refl w6.heap.size w6)
   have HC7 := hid (Below.drew (Below.refl w6.heap.size w6))
   go_region_held3 (fun w' => Below w6.heap.size w6 w' ∧ w'.cell? ⟨w2.heap.size, 0, none⟩ = some (.bool n0_2) ∧ w'.cell? ⟨w2.heap.size, 1, none⟩ = some (.slice a0_2 k0_2 c0_2) ∧ w'.cell? ⟨w2.heap.size, 2, none⟩ = some (.bool n1_2) ∧ w'.cell? ⟨w2.heap.size, 3, none⟩ = some (.slice a1_2 k1_2 c1_2) ∧ w'.cell? ⟨w2.heap.size + 1, 0, none⟩ = some (.bool n2_2) ∧ w'.cell? ⟨w2.heap.size + 1, 1, none⟩ = some (.slice a2_2 k2_2 c2_2) ∧ w'.cell? ⟨w2.heap.size + 1, 2, none⟩ = some (.bool n3_2) ∧ w'.cell? ⟨w2.heap.size + 1, 3, none⟩ = some (.slice a3_2 k3_2 c3_2) ∧ w'.cell? ⟨w4.heap.size, 0, none⟩ = some (.bool n0_4) ∧ w'.cell? ⟨w4.heap.size, 1, none⟩ = some (.slice a0_4 k0_4 c0_4) ∧ w'.cell? ⟨w4.heap.size, 2, none⟩ = some (.bool n1_4) ∧ w'.cell? ⟨w4.heap.size, 3, none⟩ = some (.slice a1_4 k1_4 c1_4))
    (first | exact HL7.out _ (Below.drew HS7.out) | exact HL7.out _ (bt (HI7.out _ (by assumption)) (by assumption)))
    (first | (go_at_call 36; (with_reducible refine (sub_r (HX.out.below (HI7.out _ (by assumption))) (HY.out.below (HI7.out _ (by assumption))) rx ry (by decide)).mono ?_); rintro e w8 ⟨n_8, a_8, k_8, c_8, n2_8, a2_8, k2_8, c2_8, rfl, hu_8, hbr8⟩; have HP1 := hid hu_8; clear hu_8) | (go_at_call 19; (with_reducible refine (ratsign_any HP1.out).mono ?_); rintro e w9 ⟨rfl, hbr9⟩; rw [E1.out]) | (go_at_call 40; (with_reducible refine (cmp_r (HY.out.below (HI7.out _ (by assumption))) (HX.out.below (HI7.out _ (by assumption))) ry rx (by decide)).mono ?_); rintro e w10 ⟨rfl, hbr10⟩; rw [E2.out]) | (go_at_call 34; (with_reducible refine (add_r (HX.out.below (HI7.out _ (by assumption))) (HZ.out.below (HI7.out _ (by assumption))) rx rz (by decide)).mono ?_); rintro e w11 ⟨n_11, a_11, k_11, c_11, n2_11, a2_11, k2_11, c2_11, rfl, hu_11, hbr11⟩; have HP2 := hid hu_11; clear hu_11) | (go_at_call 34; (with_reducible refine (add_r (HY.out.below (HI7.out _ (by assumption))) (HZ.out.below (HI7.out _ (by assumption))) ry rz (by decide)).mono ?_); rintro e w12 ⟨n_12, a_12, k_12, c_12, n2_12, a2_12, k2_12, c2_12, rfl, hu_12, hbr12⟩; have HP3 := hid hu_12; clear hu_12) | (go_at_call 40; (with_reducible refine (cmp_r (HP2.out.below hbr12) HP3.out (rx.add rz) (ry.add rz) (by decide)).mono ?_); rintro e w13 ⟨rfl, hbr13⟩; rw [E3.out]))
   clear cx0 cx1 cx2 cx3 fx0 fx1 fx2 fx3 cy0 cy1 cy2 cy3 fy0 fy1 fy2 fy3 cz0 cz1 cz2 cz3 fz0 fz1 fz2 fz3
   have hbR := (bt (bt (bt (bt (bt (bt HC7.out hbr8) hbr9) hbr10) hbr11) hbr12) hbr13)
   replace HT := hid (HT.out.below hbR)
   replace HML := hid (HML.out.below hbR)
   replace HX := hid (HX.out.below hbR)
   replace HY := hid (HY.out.below hbR)
   replace HZ := hid (HZ.out.below hbR)
   replace HP1 := hid (((((HP1.out.below hbr9).below hbr10).below hbr11).below hbr12).below hbr13)
   replace HP2 := hid ((HP2.out.below hbr12).below hbr13)
   replace HP3 := hid (HP3.out.below hbr13)
   replace HB := hid (bt HB.out hbR)
   replace Bx := hid (blk_next Bx.out hbR)
   replace By := hid (blk_next By.out hbR)
   replace Bz := hid (blk_next Bz.out hbR)
   clear hbR hbr8 hbr9 hbr10 hbr11 hbr12 hbr13
   clear HP1
   clear HP2
   clear HP3
   go_wp2_with fail
   by_cases h1 : 0 < c
   ·have g1 : decide (0 < c) = true := by simp [h1]
    have lt6_x : w2.heap.size < w13.heap.size := (Array.getElem?_eq_some_iff.1 Bx.out).1
    have lt7_y : w2.heap.size + 1 < w13.heap.size := (Array.getElem?_eq_some_iff.1 By.out).1
    have lt8_z : w4.heap.size < w13.heap.size := (Array.getElem?_eq_some_iff.1 Bz.out).1
    obtain ⟨⟨cx0, cx1, cx2, cx3⟩, fx0, fx1, fx2, fx3⟩ := res4_facts Bx.out
    obtain ⟨⟨cy0, cy1, cy2, cy3⟩, fy0, fy1, fy2, fy3⟩ := res4_facts By.out
    obtain ⟨⟨cz0, cz1, cz2, cz3⟩, fz0, fz1, fz2, fz3⟩ := res4_facts Bz.out
    have HL14 := hid (fun (w' : World) (hb : Below w13.heap.size w13 w') => (⟨hb, keepc hb cx0, keepc hb cx1, keepc hb cx2, keepc hb cx3, keepc hb cy0, keepc hb cy1, keepc hb cy2, keepc hb cy3, keepc hb cz0, keepc hb cz1, keepc hb cz2, keepc hb cz3⟩ : Below w13.heap.size w13 w' ∧ w'.cell? ⟨w2.heap.size, 0, none⟩ = some (.bool n0_2) ∧ w'.cell? ⟨w2.heap.size, 1, none⟩ = some (.slice a0_2 k0_2 c0_2) ∧ w'.cell? ⟨w2.heap.size, 2, none⟩ = some (.bool n1_2) ∧ w'.cell? ⟨w2.heap.size, 3, none⟩ = some (.slice a1_2 k1_2 c1_2) ∧ w'.cell? ⟨w2.heap.size + 1, 0, none⟩ = some (.bool n2_2) ∧ w'.cell? ⟨w2.heap.size + 1, 1, none⟩ = some (.slice a2_2 k2_2 c2_2) ∧ w'.cell? ⟨w2.heap.size + 1, 2, none⟩ = some (.bool n3_2) ∧ w'.cell? ⟨w2.heap.size + 1, 3, none⟩ = some (.slice a3_2 k3_2 c3_2) ∧ w'.cell? ⟨w4.heap.size, 0, none⟩ = some (.bool n0_4) ∧ w'.cell? ⟨w4.heap.size, 1, none⟩ = some (.slice a0_4 k0_4 c0_4) ∧ w'.cell? ⟨w4.heap.size, 2, none⟩ = some (.bool n1_4) ∧ w'.cell? ⟨w4.heap.size, 3, none⟩ = some (.slice a1_4 k1_4 c1_4)))
    have HI14 := hid (fun (w' : World) (hs : Below w13.heap.size w13 w' ∧ w'.cell? ⟨w2.heap.size, 0, none⟩ = some (.bool n0_2) ∧ w'.cell? ⟨w2.heap.size, 1, none⟩ = some (.slice a0_2 k0_2 c0_2) ∧ w'.cell? ⟨w2.heap.size, 2, none⟩ = some (.bool n1_2) ∧ w'.cell? ⟨w2.heap.size, 3, none⟩ = some (.slice a1_2 k1_2 c1_2) ∧ w'.cell? ⟨w2.heap.size + 1, 0, none⟩ = some (.bool n2_2) ∧ w'.cell? ⟨w2.heap.size + 1, 1, none⟩ = some (.slice a2_2 k2_2 c2_2) ∧ w'.cell? ⟨w2.heap.size + 1, 2, none⟩ = some (.bool n3_2) ∧ w'.cell? ⟨w2.heap.size + 1, 3, none⟩ = some (.slice a3_2 k3_2 c3_2) ∧ w'.cell? ⟨w4.heap.size, 0, none⟩ = some (.bool n0_4) ∧ w'.cell? ⟨w4.heap.size, 1, none⟩ = some (.slice a0_4 k0_4 c0_4) ∧ w'.cell? ⟨w4.heap.size, 2, none⟩ = some (.bool n1_4) ∧ w'.cell? ⟨w4.heap.size, 3, none⟩ = some (.slice a1_4 k1_4 c1_4)) => hs.1)
    have HS14 := hid (Below.refl w13.heap.size w13)
    have HC14 := hid (Below.drew (Below.refl w13.heap.size w13))
    refine wp_region_held_drew (S := fun w' => Below w13.heap.size w13 w' ∧ w'.cell? ⟨w2.heap.size, 0, none⟩ = some (.bool n0_2) ∧ w'.cell? ⟨w2.heap.size, 1, none⟩ = some (.slice a0_2 k0_2 c0_2) ∧ w'.cell? ⟨w2.heap.size, 2, none⟩ = some (.bool n1_2) ∧ w'.cell? ⟨w2.heap.size, 3, none⟩ = some (.slice a1_2 k1_2 c1_2) ∧ w'.cell? ⟨w2.heap.size + 1, 0, none⟩ = some (.bool n2_2) ∧ w'.cell? ⟨w2.heap.size + 1, 1, none⟩ = some (.slice a2_2 k2_2 c2_2) ∧ w'.cell? ⟨w2.heap.size + 1, 2, none⟩ = some (.bool n3_2) ∧ w'.cell? ⟨w2.heap.size + 1, 3, none⟩ = some (.slice a3_2 k3_2 c3_2) ∧ w'.cell? ⟨w4.heap.size, 0, none⟩ = some (.bool n0_4) ∧ w'.cell? ⟨w4.heap.size, 1, none⟩ = some (.slice a0_4 k0_4 c0_4) ∧ w'.cell? ⟨w4.heap.size, 2, none⟩ = some (.bool n1_4) ∧ w'.cell? ⟨w4.heap.size, 3, none⟩ = some (.slice a1_4 k1_4 c1_4)) (by kernel_rfl) ?_ (fun hHeld => ?_)
    ·first | exact HL14.out _ (Below.drew HS14.out) | exact HL14.out _ (bt (HI14.out _ (by assumption)) (by assumption))
    (try dsimp only at hHeld)
    refine wpAnyH_take (i := 0) (oi := ({ dst := some 71, op := Op.load 27 (Operand.tmp 7), type := 27, pos := "law.go:159", after := #[], guard := none } : Oper)) (v := ?x1_v0) rfl (by kernel_rfl) (by kernel_rfl) (by kernel_rfl) (fun _ _ _ h => h) (Or.inl ⟨by rfl, ?x1_h0⟩) hHeld ?x1_r0
    case x1_h0 => (intro w hSw; (try dsimp only at hSw); go_simp; all_goals with_reducible rfl)
    (try simp only [Act.put, List.setIfInBounds_toArray, List.set_cons_zero, List.set_cons_succ])
    refine wpAnyH_take (i := 1) (oi := ({ dst := some 72, op := Op.load 27 (Operand.tmp 12), type := 27, pos := "law.go:159", after := #[], guard := none } : Oper)) (v := ?x1_v1) rfl (by kernel_rfl) (by kernel_rfl) (by kernel_rfl) (fun _ _ _ h => h) (Or.inl ⟨by rfl, ?x1_h1⟩) hHeld ?x1_r1
    case x1_h1 => (intro w hSw; (try dsimp only at hSw); go_simp; all_goals with_reducible rfl)
    (try simp only [Act.put, List.setIfInBounds_toArray, List.set_cons_zero, List.set_cons_succ])
    refine wpAnyH_take (i := 3) (oi := ({ dst := some 74, op := Op.load 27 (Operand.tmp 8), type := 27, pos := "law.go:159", after := #[], guard := none } : Oper)) (v := ?x1_v3) rfl (by kernel_rfl) (by kernel_rfl) (by kernel_rfl) (fun _ _ _ h => h) (Or.inl ⟨by rfl, ?x1_h3⟩) hHeld ?x1_r3
    case x1_h3 => (intro w hSw; (try dsimp only at hSw); go_simp; all_goals with_reducible rfl)
    (try simp only [Act.put, List.setIfInBounds_toArray, List.set_cons_zero, List.set_cons_succ])
    refine wpAnyH_take (i := 4) (oi := ({ dst := some 75, op := Op.load 27 (Operand.tmp 12), type := 27, pos := "law.go:159", after := #[], guard := none } : Oper)) (v := ?x1_v4) rfl (by kernel_rfl) (by kernel_rfl) (by kernel_rfl) (fun _ _ _ h => h) (Or.inl ⟨by rfl, ?x1_h4⟩) hHeld ?x1_r4
    case x1_h4 => (intro w hSw; (try dsimp only at hSw); go_simp; all_goals with_reducible rfl)
    (try simp only [Act.put, List.setIfInBounds_toArray, List.set_cons_zero, List.set_cons_succ])
    refine wpAnyH_take (i := 7) (oi := ({ dst := some 78, op := Op.move (Operand.tmp 17), type := 3, pos := "law.go:159", after := #[], guard := none } : Oper)) (v := ?x1_v7) rfl (by kernel_rfl) (by kernel_rfl) (by kernel_rfl) (fun _ _ _ h => h) (Or.inl ⟨by rfl, ?x1_h7⟩) hHeld ?x1_r7
    case x1_h7 => (intro w hSw; (try dsimp only at hSw); go_simp; all_goals with_reducible rfl)
    (try simp only [Act.put, List.setIfInBounds_toArray, List.set_cons_zero, List.set_cons_succ])
    refine wpAnyH_take (i := 8) (oi := ({ dst := some 79, op := Op.load 27 (Operand.tmp 12), type := 27, pos := "law.go:159", after := #[], guard := none } : Oper)) (v := ?x1_v8) rfl (by kernel_rfl) (by kernel_rfl) (by kernel_rfl) (fun _ _ _ h => h) (Or.inl ⟨by rfl, ?x1_h8⟩) hHeld ?x1_r8
    case x1_h8 => (intro w hSw; (try dsimp only at hSw); go_simp; all_goals with_reducible rfl)
    (try simp only [Act.put, List.setIfInBounds_toArray, List.set_cons_zero, List.set_cons_succ])
    refine wpAnyH_ready (rs := [2]) (by kernel_rfl) (by simp) ?_
    refine AllReadyH.cons (o := ({ dst := some 73, op := Op.call { callee := Callee.value (Operand.func 24), args := #[Operand.tmp 71, Operand.tmp 72], argTypes := #[27, 27] }, type := 27, pos := "law.go:159", after := #[{ on := 0, ground := Ground.data }, { on := 1, ground := Ground.data }], guard := none } : Oper)) rfl (fun K hK => ?_) AllReadyH.nil
    go_simp
    go_at_call 24; (with_reducible refine (mul_r (HX.out.below (HI14.out _ (by assumption))) (HZ.out.below (HI14.out _ (by assumption))) rx rz (by decide)).mono ?_); rintro e w15 ⟨n_15, a_15, k_15, c_15, n2_15, a2_15, k2_15, c2_15, rfl, hu_15, hbr15⟩; have HP4 := hid hu_15; clear hu_15
    first | refine hK.out _ _ ?_ (fun hHeld => ?_) | (go_wp2_with fail; refine hK.out _ _ ?_ (fun hHeld => ?_))
    ·first | exact HL14.out _ (Below.drew HS14.out) | exact HL14.out _ (bt (HI14.out _ (by assumption)) (by assumption))
    clear hK K
    (try dsimp only at hHeld)
    (try simp only [Act.put, List.setIfInBounds_toArray, List.set_cons_zero, List.set_cons_succ])
    refine wpAnyH_ready (rs := [5]) (by kernel_rfl) (by simp) ?_
    refine AllReadyH.cons (o := ({ dst := some 76, op := Op.call { callee := Callee.value (Operand.func 24), args := #[Operand.tmp 74, Operand.tmp 75], argTypes := #[27, 27] }, type := 27, pos := "law.go:159", after := #[{ on := 3, ground := Ground.data }, { on := 4, ground := Ground.data }, { on := 2, ground := Ground.chain }], guard := none } : Oper)) rfl (fun K hK => ?_) AllReadyH.nil
    go_simp
    go_at_call 24; (with_reducible refine (mul_r (HY.out.below (HI14.out _ (by assumption))) (HZ.out.below (HI14.out _ (by assumption))) ry rz (by decide)).mono ?_); rintro e w16 ⟨n_16, a_16, k_16, c_16, n2_16, a2_16, k2_16, c2_16, rfl, hu_16, hbr16⟩; have HP5 := hid hu_16; clear hu_16
    first | refine hK.out _ _ ?_ (fun hHeld => ?_) | (go_wp2_with fail; refine hK.out _ _ ?_ (fun hHeld => ?_))
    ·first | exact HL14.out _ (Below.drew HS14.out) | exact HL14.out _ (bt (HI14.out _ (by assumption)) (by assumption))
    clear hK K
    (try dsimp only at hHeld)
    (try simp only [Act.put, List.setIfInBounds_toArray, List.set_cons_zero, List.set_cons_succ])
    refine wpAnyH_ready (rs := [6]) (by kernel_rfl) (by simp) ?_
    refine AllReadyH.cons (o := ({ dst := some 77, op := Op.call { callee := Callee.value (Operand.func 40), args := #[Operand.tmp 73, Operand.tmp 76], argTypes := #[27, 27] }, type := 3, pos := "law.go:159", after := #[{ on := 2, ground := Ground.data }, { on := 5, ground := Ground.data }, { on := 5, ground := Ground.chain }], guard := none } : Oper)) rfl (fun K hK => ?_) AllReadyH.nil
    go_simp
    go_at_call 40; (with_reducible refine (cmp_r (HP4.out.below hbr16) HP5.out (rx.mul rz) (ry.mul rz) (by decide)).mono ?_); rintro e w17 ⟨rfl, hbr17⟩; rw [E4.out]
    first | refine hK.out _ _ ?_ (fun hHeld => ?_) | (go_wp2_with fail; refine hK.out _ _ ?_ (fun hHeld => ?_))
    ·first | exact HL14.out _ (Below.drew HS14.out) | exact HL14.out _ (bt (HI14.out _ (by assumption)) (by assumption))
    clear hK K
    (try dsimp only at hHeld)
    (try simp only [Act.put, List.setIfInBounds_toArray, List.set_cons_zero, List.set_cons_succ])
    refine wpAnyH_ready (rs := [9]) (by kernel_rfl) (by simp) ?_
    refine AllReadyH.cons (o := ({ dst := some 80, op := Op.call { callee := Callee.value (Operand.func 19), args := #[Operand.tmp 79], argTypes := #[27] }, type := 3, pos := "law.go:159", after := #[{ on := 8, ground := Ground.data }, { on := 6, ground := Ground.chain }], guard := none } : Oper)) rfl (fun K hK => ?_) AllReadyH.nil
    go_simp
    go_at_call 19; (with_reducible refine (ratsign_any (HZ.out.below (HI14.out _ (by assumption)))).mono ?_); rintro e w18 ⟨rfl, hbr18⟩; rw [HSZ.out]
    first | refine hK.out _ _ ?_ (fun hHeld => ?_) | (go_wp2_with fail; refine hK.out _ _ ?_ (fun hHeld => ?_))
    ·first | exact HL14.out _ (Below.drew HS14.out) | exact HL14.out _ (bt (HI14.out _ (by assumption)) (by assumption))
    clear hK K
    (try dsimp only at hHeld)
    (try simp only [Act.put, List.setIfInBounds_toArray, List.set_cons_zero, List.set_cons_succ])
    refine wpAnyH_take (i := 10) (oi := ({ dst := some 81, op := Op.binOp BinOp.mul 3 (Operand.tmp 78) (Operand.tmp 80) 3, type := 3, pos := "law.go:159", after := #[{ on := 7, ground := Ground.data }, { on := 9, ground := Ground.data }], guard := none } : Oper)) (v := ?x1_v10) rfl (by kernel_rfl) (by kernel_rfl) (by kernel_rfl) (fun _ _ _ h => h) (Or.inl ⟨by rfl, ?x1_h10⟩) hHeld ?x1_r10
    case x1_h10 => (intro w hSw; (try dsimp only at hSw); go_simp; all_goals with_reducible rfl)
    (try simp only [Act.put, List.setIfInBounds_toArray, List.set_cons_zero, List.set_cons_succ])
    refine wpAnyH_take (i := 11) (oi := ({ dst := some 82, op := Op.binOp BinOp.eql 3 (Operand.tmp 77) (Operand.tmp 81) 3, type := 4, pos := "law.go:159", after := #[{ on := 6, ground := Ground.data }, { on := 10, ground := Ground.data }], guard := none } : Oper)) (v := ?x1_v11) rfl (by kernel_rfl) (by kernel_rfl) (by kernel_rfl) (fun _ _ _ h => h) (Or.inl ⟨by rfl, ?x1_h11⟩) hHeld ?x1_r11
    case x1_h11 => (intro w hSw; (try dsimp only at hSw); go_simp; all_goals with_reducible rfl)
    (try simp only [Act.put, List.setIfInBounds_toArray, List.set_cons_zero, List.set_cons_succ])
    refine wpAnyH_take (i := 12) (oi := ({ dst := some 83, op := Op.move (Operand.tmp 82), type := 4, pos := "law.go:159", after := #[{ on := 11, ground := Ground.data }, { on := 9, ground := Ground.chain }], guard := none } : Oper)) (v := ?x1_v12) rfl (by kernel_rfl) (by kernel_rfl) (by kernel_rfl) (fun _ _ _ h => h) (Or.inl ⟨by rfl, ?x1_h12⟩) hHeld ?x1_r12
    case x1_h12 => (intro w hSw; (try dsimp only at hSw); go_simp; all_goals with_reducible rfl)
    (try simp only [Act.put, List.setIfInBounds_toArray, List.set_cons_zero, List.set_cons_succ])
    refine wpAnyH_take (i := 13) (oi := ({ dst := some 84, op := Op.move (Operand.tmp 17), type := 3, pos := "law.go:159", after := #[{ on := 12, ground := Ground.guard }], guard := some (12, true) } : Oper)) (v := ?x1_v13) rfl (by kernel_rfl) (by kernel_rfl) (by kernel_rfl) (fun _ _ _ h => h) (Or.inl ⟨by rfl, ?x1_h13⟩) hHeld ?x1_r13
    case x1_h13 => (intro w hSw; (try dsimp only at hSw); go_simp; all_goals with_reducible rfl)
    (try simp only [Act.put, List.setIfInBounds_toArray, List.set_cons_zero, List.set_cons_succ])
    refine wpAnyH_take (i := 14) (oi := ({ dst := some 85, op := Op.binOp BinOp.gtr 3 (Operand.tmp 84) (Operand.const (Value.int IntKind.i64 0)) 3, type := 4, pos := "law.go:159", after := #[{ on := 13, ground := Ground.data }, { on := 12, ground := Ground.guard }], guard := some (12, true) } : Oper)) (v := ?x1_v14) rfl (by kernel_rfl) (by kernel_rfl) (by kernel_rfl) (fun _ _ _ h => h) (Or.inl ⟨by rfl, ?x1_h14⟩) hHeld ?x1_r14
    case x1_h14 => (intro w hSw; (try dsimp only at hSw); go_simp; all_goals with_reducible rfl)
    (try simp only [Act.put, List.setIfInBounds_toArray, List.set_cons_zero, List.set_cons_succ])
    refine wpAnyH_take (i := 15) (oi := ({ dst := some 86, op := Op.move (Operand.tmp 85), type := 4, pos := "law.go:159", after := #[{ on := 14, ground := Ground.data }, { on := 12, ground := Ground.chain }, { on := 12, ground := Ground.guard }], guard := some (12, true) } : Oper)) (v := ?x1_v15) rfl (by kernel_rfl) (by kernel_rfl) (by kernel_rfl) (fun _ _ _ h => h) (Or.inl ⟨by rfl, ?x1_h15⟩) hHeld ?x1_r15
    case x1_h15 => (intro w hSw; (try dsimp only at hSw); go_simp; all_goals with_reducible rfl)
    (try simp only [Act.put, List.setIfInBounds_toArray, List.set_cons_zero, List.set_cons_succ])
    refine wpAnyH_take (i := 16) (oi := ({ dst := some 87, op := Op.load 27 (Operand.tmp 8), type := 27, pos := "law.go:159", after := #[{ on := 15, ground := Ground.guard }], guard := some (15, false) } : Oper)) (v := undef) rfl (by kernel_rfl) (by kernel_rfl) (by kernel_rfl) (fun _ _ _ h => h) (Or.inr ⟨by rfl, rfl⟩) hHeld ?_
    (try simp only [Act.put, List.setIfInBounds_toArray, List.set_cons_zero, List.set_cons_succ])
    refine wpAnyH_take (i := 17) (oi := ({ dst := some 88, op := Op.load 27 (Operand.tmp 12), type := 27, pos := "law.go:159", after := #[{ on := 15, ground := Ground.guard }], guard := some (15, false) } : Oper)) (v := undef) rfl (by kernel_rfl) (by kernel_rfl) (by kernel_rfl) (fun _ _ _ h => h) (Or.inr ⟨by rfl, rfl⟩) hHeld ?_
    (try simp only [Act.put, List.setIfInBounds_toArray, List.set_cons_zero, List.set_cons_succ])
    refine wpAnyH_take (i := 18) (oi := ({ dst := some 89, op := Op.call { callee := Callee.value (Operand.func 40), args := #[Operand.tmp 87, Operand.tmp 88], argTypes := #[27, 27] }, type := 3, pos := "law.go:159", after := #[{ on := 16, ground := Ground.data }, { on := 17, ground := Ground.data }, { on := 15, ground := Ground.chain }, { on := 15, ground := Ground.guard }], guard := some (15, false) } : Oper)) (v := undef) rfl (by kernel_rfl) (by kernel_rfl) (by kernel_rfl) (fun _ _ _ h => h) (Or.inr ⟨by rfl, rfl⟩) hHeld ?_
    (try simp only [Act.put, List.setIfInBounds_toArray, List.set_cons_zero, List.set_cons_succ])
    refine wpAnyH_take (i := 19) (oi := ({ dst := some 90, op := Op.binOp BinOp.gtr 3 (Operand.tmp 89) (Operand.const (Value.int IntKind.i64 0)) 3, type := 4, pos := "law.go:159", after := #[{ on := 18, ground := Ground.data }, { on := 15, ground := Ground.guard }], guard := some (15, false) } : Oper)) (v := undef) rfl (by kernel_rfl) (by kernel_rfl) (by kernel_rfl) (fun _ _ _ h => h) (Or.inr ⟨by rfl, rfl⟩) hHeld ?_
    (try simp only [Act.put, List.setIfInBounds_toArray, List.set_cons_zero, List.set_cons_succ])
    refine wpAnyH_take (i := 20) (oi := ({ dst := some 91, op := Op.pick (Operand.tmp 86) (Operand.const (Value.bool true)) (Operand.tmp 90), type := 4, pos := "law.go:159", after := #[{ on := 15, ground := Ground.data }, { on := 19, ground := Ground.data }, { on := 12, ground := Ground.guard }], guard := some (12, true) } : Oper)) (v := ?x1_v20) rfl (by kernel_rfl) (by kernel_rfl) (by kernel_rfl) (fun _ _ _ h => h) (Or.inl ⟨by rfl, ?x1_h20⟩) hHeld ?x1_r20
    case x1_h20 => (intro w hSw; (try dsimp only at hSw); go_simp; all_goals with_reducible rfl)
    (try simp only [Act.put, List.setIfInBounds_toArray, List.set_cons_zero, List.set_cons_succ])
    refine wpAnyH_take (i := 21) (oi := ({ dst := some 92, op := Op.move (Operand.tmp 91), type := 4, pos := "law.go:159", after := #[{ on := 20, ground := Ground.data }, { on := 18, ground := Ground.chain }, { on := 12, ground := Ground.guard }], guard := some (12, true) } : Oper)) (v := ?x1_v21) rfl (by kernel_rfl) (by kernel_rfl) (by kernel_rfl) (fun _ _ _ h => h) (Or.inl ⟨by rfl, ?x1_h21⟩) hHeld ?x1_r21
    case x1_h21 => (intro w hSw; (try dsimp only at hSw); go_simp; all_goals with_reducible rfl)
    (try simp only [Act.put, List.setIfInBounds_toArray, List.set_cons_zero, List.set_cons_succ])
    refine wpAnyH_take (i := 22) (oi := ({ dst := some 93, op := Op.load 27 (Operand.tmp 7), type := 27, pos := "law.go:159", after := #[{ on := 21, ground := Ground.guard }], guard := some (21, false) } : Oper)) (v := undef) rfl (by kernel_rfl) (by kernel_rfl) (by kernel_rfl) (fun _ _ _ h => h) (Or.inr ⟨by rfl, rfl⟩) hHeld ?_
    (try simp only [Act.put, List.setIfInBounds_toArray, List.set_cons_zero, List.set_cons_succ])
    refine wpAnyH_take (i := 23) (oi := ({ dst := some 94, op := Op.load 27 (Operand.tmp 12), type := 27, pos := "law.go:159", after := #[{ on := 21, ground := Ground.guard }], guard := some (21, false) } : Oper)) (v := undef) rfl (by kernel_rfl) (by kernel_rfl) (by kernel_rfl) (fun _ _ _ h => h) (Or.inr ⟨by rfl, rfl⟩) hHeld ?_
    (try simp only [Act.put, List.setIfInBounds_toArray, List.set_cons_zero, List.set_cons_succ])
    refine wpAnyH_take (i := 24) (oi := ({ dst := some 95, op := Op.call { callee := Callee.value (Operand.func 40), args := #[Operand.tmp 93, Operand.tmp 94], argTypes := #[27, 27] }, type := 3, pos := "law.go:159", after := #[{ on := 22, ground := Ground.data }, { on := 23, ground := Ground.data }, { on := 21, ground := Ground.chain }, { on := 21, ground := Ground.guard }], guard := some (21, false) } : Oper)) (v := undef) rfl (by kernel_rfl) (by kernel_rfl) (by kernel_rfl) (fun _ _ _ h => h) (Or.inr ⟨by rfl, rfl⟩) hHeld ?_
    (try simp only [Act.put, List.setIfInBounds_toArray, List.set_cons_zero, List.set_cons_succ])
    refine wpAnyH_take (i := 25) (oi := ({ dst := some 96, op := Op.binOp BinOp.leq 3 (Operand.tmp 95) (Operand.const (Value.int IntKind.i64 0)) 3, type := 4, pos := "law.go:159", after := #[{ on := 24, ground := Ground.data }, { on := 21, ground := Ground.guard }], guard := some (21, false) } : Oper)) (v := undef) rfl (by kernel_rfl) (by kernel_rfl) (by kernel_rfl) (fun _ _ _ h => h) (Or.inr ⟨by rfl, rfl⟩) hHeld ?_
    (try simp only [Act.put, List.setIfInBounds_toArray, List.set_cons_zero, List.set_cons_succ])
    refine wpAnyH_take (i := 26) (oi := ({ dst := some 97, op := Op.pick (Operand.tmp 92) (Operand.const (Value.bool true)) (Operand.tmp 96), type := 4, pos := "law.go:159", after := #[{ on := 21, ground := Ground.data }, { on := 25, ground := Ground.data }, { on := 12, ground := Ground.guard }], guard := some (12, true) } : Oper)) (v := ?x1_v26) rfl (by kernel_rfl) (by kernel_rfl) (by kernel_rfl) (fun _ _ _ h => h) (Or.inl ⟨by rfl, ?x1_h26⟩) hHeld ?x1_r26
    case x1_h26 => (intro w hSw; (try dsimp only at hSw); go_simp; all_goals with_reducible rfl)
    (try simp only [Act.put, List.setIfInBounds_toArray, List.set_cons_zero, List.set_cons_succ])
    refine wpAnyH_take (i := 27) (oi := ({ dst := some 98, op := Op.pick (Operand.tmp 83) (Operand.tmp 97) (Operand.const (Value.bool false)), type := 4, pos := "law.go:159", after := #[{ on := 12, ground := Ground.data }, { on := 26, ground := Ground.data }], guard := none } : Oper)) (v := ?x1_v27) rfl (by kernel_rfl) (by kernel_rfl) (by kernel_rfl) (fun _ _ _ h => h) (Or.inl ⟨by rfl, ?x1_h27⟩) hHeld ?x1_r27
    case x1_h27 => (intro w hSw; (try dsimp only at hSw); go_simp; all_goals with_reducible rfl)
    (try simp only [Act.put, List.setIfInBounds_toArray, List.set_cons_zero, List.set_cons_succ])
    refine wpAnyH_take (i := 28) (oi := ({ dst := some 6, op := Op.assign (Operand.tmp 98), type := 4, pos := "law.go:159", after := #[{ on := 27, ground := Ground.data }, { on := 24, ground := Ground.chain }, { on := 0, ground := Ground.phase }, { on := 1, ground := Ground.phase }, { on := 2, ground := Ground.phase }, { on := 3, ground := Ground.phase }, { on := 4, ground := Ground.phase }, { on := 5, ground := Ground.phase }, { on := 6, ground := Ground.phase }, { on := 7, ground := Ground.phase }, { on := 8, ground := Ground.phase }, { on := 9, ground := Ground.phase }, { on := 10, ground := Ground.phase }, { on := 11, ground := Ground.phase }, { on := 12, ground := Ground.phase }, { on := 13, ground := Ground.phase }, { on := 14, ground := Ground.phase }, { on := 15, ground := Ground.phase }, { on := 16, ground := Ground.phase }, { on := 17, ground := Ground.phase }, { on := 18, ground := Ground.phase }, { on := 19, ground := Ground.phase }, { on := 20, ground := Ground.phase }, { on := 21, ground := Ground.phase }, { on := 22, ground := Ground.phase }, { on := 23, ground := Ground.phase }, { on := 24, ground := Ground.phase }, { on := 25, ground := Ground.phase }, { on := 26, ground := Ground.phase }, { on := 27, ground := Ground.phase }], guard := none } : Oper)) (v := ?x1_v28) rfl (by kernel_rfl) (by kernel_rfl) (by kernel_rfl) (fun _ _ _ h => h) (Or.inl ⟨by rfl, ?x1_h28⟩) hHeld ?x1_r28
    case x1_h28 => (intro w hSw; (try dsimp only at hSw); go_simp; all_goals with_reducible rfl)
    (try simp only [Act.put, List.setIfInBounds_toArray, List.set_cons_zero, List.set_cons_succ])
    refine wpAnyH_done (by kernel_rfl) ?_ _
    replace HB := hid (bt HB.out (bt (bt (bt (bt HC14.out hbr15) hbr16) hbr17) hbr18))
    go_wp2
    go_ret
    exact ⟨by simp, HB.out⟩
   ·have g1 : decide (0 < c) = false := by simp; omega
    by_cases h2 : 0 < c2
    ·have g2 : decide (0 < c2) = true := by simp [h2]
     have lt6_x : w2.heap.size < w13.heap.size := (Array.getElem?_eq_some_iff.1 Bx.out).1
     have lt7_y : w2.heap.size + 1 < w13.heap.size := (Array.getElem?_eq_some_iff.1 By.out).1
     have lt8_z : w4.heap.size < w13.heap.size := (Array.getElem?_eq_some_iff.1 Bz.out).1
     obtain ⟨⟨cx0, cx1, cx2, cx3⟩, fx0, fx1, fx2, fx3⟩ := res4_facts Bx.out
     obtain ⟨⟨cy0, cy1, cy2, cy3⟩, fy0, fy1, fy2, fy3⟩ := res4_facts By.out
     obtain ⟨⟨cz0, cz1, cz2, cz3⟩, fz0, fz1, fz2, fz3⟩ := res4_facts Bz.out
     have HL14 := hid (fun (w' : World) (hb : Below w13.heap.size w13 w') => (⟨hb, keepc hb cx0, keepc hb cx1, keepc hb cx2, keepc hb cx3, keepc hb cy0, keepc hb cy1, keepc hb cy2, keepc hb cy3, keepc hb cz0, keepc hb cz1, keepc hb cz2, keepc hb cz3⟩ : Below w13.heap.size w13 w' ∧ w'.cell? ⟨w2.heap.size, 0, none⟩ = some (.bool n0_2) ∧ w'.cell? ⟨w2.heap.size, 1, none⟩ = some (.slice a0_2 k0_2 c0_2) ∧ w'.cell? ⟨w2.heap.size, 2, none⟩ = some (.bool n1_2) ∧ w'.cell? ⟨w2.heap.size, 3, none⟩ = some (.slice a1_2 k1_2 c1_2) ∧ w'.cell? ⟨w2.heap.size + 1, 0, none⟩ = some (.bool n2_2) ∧ w'.cell? ⟨w2.heap.size + 1, 1, none⟩ = some (.slice a2_2 k2_2 c2_2) ∧ w'.cell? ⟨w2.heap.size + 1, 2, none⟩ = some (.bool n3_2) ∧ w'.cell? ⟨w2.heap.size + 1, 3, none⟩ = some (.slice a3_2 k3_2 c3_2) ∧ w'.cell? ⟨w4.heap.size, 0, none⟩ = some (.bool n0_4) ∧ w'.cell? ⟨w4.heap.size, 1, none⟩ = some (.slice a0_4 k0_4 c0_4) ∧ w'.cell? ⟨w4.heap.size, 2, none⟩ = some (.bool n1_4) ∧ w'.cell? ⟨w4.heap.size, 3, none⟩ = some (.slice a1_4 k1_4 c1_4)))
     have HI14 := hid (fun (w' : World) (hs : Below w13.heap.size w13 w' ∧ w'.cell? ⟨w2.heap.size, 0, none⟩ = some (.bool n0_2) ∧ w'.cell? ⟨w2.heap.size, 1, none⟩ = some (.slice a0_2 k0_2 c0_2) ∧ w'.cell? ⟨w2.heap.size, 2, none⟩ = some (.bool n1_2) ∧ w'.cell? ⟨w2.heap.size, 3, none⟩ = some (.slice a1_2 k1_2 c1_2) ∧ w'.cell? ⟨w2.heap.size + 1, 0, none⟩ = some (.bool n2_2) ∧ w'.cell? ⟨w2.heap.size + 1, 1, none⟩ = some (.slice a2_2 k2_2 c2_2) ∧ w'.cell? ⟨w2.heap.size + 1, 2, none⟩ = some (.bool n3_2) ∧ w'.cell? ⟨w2.heap.size + 1, 3, none⟩ = some (.slice a3_2 k3_2 c3_2) ∧ w'.cell? ⟨w4.heap.size, 0, none⟩ = some (.bool n0_4) ∧ w'.cell? ⟨w4.heap.size, 1, none⟩ = some (.slice a0_4 k0_4 c0_4) ∧ w'.cell? ⟨w4.heap.size, 2, none⟩ = some (.bool n1_4) ∧ w'.cell? ⟨w4.heap.size, 3, none⟩ = some (.slice a1_4 k1_4 c1_4)) => hs.1)
     have HS14 := hid (Below.refl w13.heap.size w13)
     have HC14 := hid (Below.drew (Below.refl w13.heap.size w13))
     refine wp_region_held_drew (S := fun w' => Below w13.heap.size w13 w' ∧ w'.cell? ⟨w2.heap.size, 0, none⟩ = some (.bool n0_2) ∧ w'.cell? ⟨w2.heap.size, 1, none⟩ = some (.slice a0_2 k0_2 c0_2) ∧ w'.cell? ⟨w2.heap.size, 2, none⟩ = some (.bool n1_2) ∧ w'.cell? ⟨w2.heap.size, 3, none⟩ = some (.slice a1_2 k1_2 c1_2) ∧ w'.cell? ⟨w2.heap.size + 1, 0, none⟩ = some (.bool n2_2) ∧ w'.cell? ⟨w2.heap.size + 1, 1, none⟩ = some (.slice a2_2 k2_2 c2_2) ∧ w'.cell? ⟨w2.heap.size + 1, 2, none⟩ = some (.bool n3_2) ∧ w'.cell? ⟨w2.heap.size + 1, 3, none⟩ = some (.slice a3_2 k3_2 c3_2) ∧ w'.cell? ⟨w4.heap.size, 0, none⟩ = some (.bool n0_4) ∧ w'.cell? ⟨w4.heap.size, 1, none⟩ = some (.slice a0_4 k0_4 c0_4) ∧ w'.cell? ⟨w4.heap.size, 2, none⟩ = some (.bool n1_4) ∧ w'.cell? ⟨w4.heap.size, 3, none⟩ = some (.slice a1_4 k1_4 c1_4)) (by kernel_rfl) ?_ (fun hHeld => ?_)
     ·first | exact HL14.out _ (Below.drew HS14.out) | exact HL14.out _ (bt (HI14.out _ (by assumption)) (by assumption))
     (try dsimp only at hHeld)
     refine wpAnyH_take (i := 0) (oi := ({ dst := some 71, op := Op.load 27 (Operand.tmp 7), type := 27, pos := "law.go:159", after := #[], guard := none } : Oper)) (v := ?x2_v0) rfl (by kernel_rfl) (by kernel_rfl) (by kernel_rfl) (fun _ _ _ h => h) (Or.inl ⟨by rfl, ?x2_h0⟩) hHeld ?x2_r0
     case x2_h0 => (intro w hSw; (try dsimp only at hSw); go_simp; all_goals with_reducible rfl)
     (try simp only [Act.put, List.setIfInBounds_toArray, List.set_cons_zero, List.set_cons_succ])
     refine wpAnyH_take (i := 1) (oi := ({ dst := some 72, op := Op.load 27 (Operand.tmp 12), type := 27, pos := "law.go:159", after := #[], guard := none } : Oper)) (v := ?x2_v1) rfl (by kernel_rfl) (by kernel_rfl) (by kernel_rfl) (fun _ _ _ h => h) (Or.inl ⟨by rfl, ?x2_h1⟩) hHeld ?x2_r1
     case x2_h1 => (intro w hSw; (try dsimp only at hSw); go_simp; all_goals with_reducible rfl)
     (try simp only [Act.put, List.setIfInBounds_toArray, List.set_cons_zero, List.set_cons_succ])
     refine wpAnyH_take (i := 3) (oi := ({ dst := some 74, op := Op.load 27 (Operand.tmp 8), type := 27, pos := "law.go:159", after := #[], guard := none } : Oper)) (v := ?x2_v3) rfl (by kernel_rfl) (by kernel_rfl) (by kernel_rfl) (fun _ _ _ h => h) (Or.inl ⟨by rfl, ?x2_h3⟩) hHeld ?x2_r3
     case x2_h3 => (intro w hSw; (try dsimp only at hSw); go_simp; all_goals with_reducible rfl)
     (try simp only [Act.put, List.setIfInBounds_toArray, List.set_cons_zero, List.set_cons_succ])
     refine wpAnyH_take (i := 4) (oi := ({ dst := some 75, op := Op.load 27 (Operand.tmp 12), type := 27, pos := "law.go:159", after := #[], guard := none } : Oper)) (v := ?x2_v4) rfl (by kernel_rfl) (by kernel_rfl) (by kernel_rfl) (fun _ _ _ h => h) (Or.inl ⟨by rfl, ?x2_h4⟩) hHeld ?x2_r4
     case x2_h4 => (intro w hSw; (try dsimp only at hSw); go_simp; all_goals with_reducible rfl)
     (try simp only [Act.put, List.setIfInBounds_toArray, List.set_cons_zero, List.set_cons_succ])
     refine wpAnyH_take (i := 7) (oi := ({ dst := some 78, op := Op.move (Operand.tmp 17), type := 3, pos := "law.go:159", after := #[], guard := none } : Oper)) (v := ?x2_v7) rfl (by kernel_rfl) (by kernel_rfl) (by kernel_rfl) (fun _ _ _ h => h) (Or.inl ⟨by rfl, ?x2_h7⟩) hHeld ?x2_r7
     case x2_h7 => (intro w hSw; (try dsimp only at hSw); go_simp; all_goals with_reducible rfl)
     (try simp only [Act.put, List.setIfInBounds_toArray, List.set_cons_zero, List.set_cons_succ])
     refine wpAnyH_take (i := 8) (oi := ({ dst := some 79, op := Op.load 27 (Operand.tmp 12), type := 27, pos := "law.go:159", after := #[], guard := none } : Oper)) (v := ?x2_v8) rfl (by kernel_rfl) (by kernel_rfl) (by kernel_rfl) (fun _ _ _ h => h) (Or.inl ⟨by rfl, ?x2_h8⟩) hHeld ?x2_r8
     case x2_h8 => (intro w hSw; (try dsimp only at hSw); go_simp; all_goals with_reducible rfl)
     (try simp only [Act.put, List.setIfInBounds_toArray, List.set_cons_zero, List.set_cons_succ])
     refine wpAnyH_ready (rs := [2]) (by kernel_rfl) (by simp) ?_
     refine AllReadyH.cons (o := ({ dst := some 73, op := Op.call { callee := Callee.value (Operand.func 24), args := #[Operand.tmp 71, Operand.tmp 72], argTypes := #[27, 27] }, type := 27, pos := "law.go:159", after := #[{ on := 0, ground := Ground.data }, { on := 1, ground := Ground.data }], guard := none } : Oper)) rfl (fun K hK => ?_) AllReadyH.nil
     go_simp
     go_at_call 24; (with_reducible refine (mul_r (HX.out.below (HI14.out _ (by assumption))) (HZ.out.below (HI14.out _ (by assumption))) rx rz (by decide)).mono ?_); rintro e w15 ⟨n_15, a_15, k_15, c_15, n2_15, a2_15, k2_15, c2_15, rfl, hu_15, hbr15⟩; have HP4 := hid hu_15; clear hu_15
     first | refine hK.out _ _ ?_ (fun hHeld => ?_) | (go_wp2_with fail; refine hK.out _ _ ?_ (fun hHeld => ?_))
     ·first | exact HL14.out _ (Below.drew HS14.out) | exact HL14.out _ (bt (HI14.out _ (by assumption)) (by assumption))
     clear hK K
     (try dsimp only at hHeld)
     (try simp only [Act.put, List.setIfInBounds_toArray, List.set_cons_zero, List.set_cons_succ])
     refine wpAnyH_ready (rs := [5]) (by kernel_rfl) (by simp) ?_
     refine AllReadyH.cons (o := ({ dst := some 76, op := Op.call { callee := Callee.value (Operand.func 24), args := #[Operand.tmp 74, Operand.tmp 75], argTypes := #[27, 27] }, type := 27, pos := "law.go:159", after := #[{ on := 3, ground := Ground.data }, { on := 4, ground := Ground.data }, { on := 2, ground := Ground.chain }], guard := none } : Oper)) rfl (fun K hK => ?_) AllReadyH.nil
     go_simp
     go_at_call 24; (with_reducible refine (mul_r (HY.out.below (HI14.out _ (by assumption))) (HZ.out.below (HI14.out _ (by assumption))) ry rz (by decide)).mono ?_); rintro e w16 ⟨n_16, a_16, k_16, c_16, n2_16, a2_16, k2_16, c2_16, rfl, hu_16, hbr16⟩; have HP5 := hid hu_16; clear hu_16
     first | refine hK.out _ _ ?_ (fun hHeld => ?_) | (go_wp2_with fail; refine hK.out _ _ ?_ (fun hHeld => ?_))
     ·first | exact HL14.out _ (Below.drew HS14.out) | exact HL14.out _ (bt (HI14.out _ (by assumption)) (by assumption))
     clear hK K
     (try dsimp only at hHeld)
     (try simp only [Act.put, List.setIfInBounds_toArray, List.set_cons_zero, List.set_cons_succ])
     refine wpAnyH_ready (rs := [6]) (by kernel_rfl) (by simp) ?_
     refine AllReadyH.cons (o := ({ dst := some 77, op := Op.call { callee := Callee.value (Operand.func 40), args := #[Operand.tmp 73, Operand.tmp 76], argTypes := #[27, 27] }, type := 3, pos := "law.go:159", after := #[{ on := 2, ground := Ground.data }, { on := 5, ground := Ground.data }, { on := 5, ground := Ground.chain }], guard := none } : Oper)) rfl (fun K hK => ?_) AllReadyH.nil
     go_simp
     go_at_call 40; (with_reducible refine (cmp_r (HP4.out.below hbr16) HP5.out (rx.mul rz) (ry.mul rz) (by decide)).mono ?_); rintro e w17 ⟨rfl, hbr17⟩; rw [E4.out]
     first | refine hK.out _ _ ?_ (fun hHeld => ?_) | (go_wp2_with fail; refine hK.out _ _ ?_ (fun hHeld => ?_))
     ·first | exact HL14.out _ (Below.drew HS14.out) | exact HL14.out _ (bt (HI14.out _ (by assumption)) (by assumption))
     clear hK K
     (try dsimp only at hHeld)
     (try simp only [Act.put, List.setIfInBounds_toArray, List.set_cons_zero, List.set_cons_succ])
     refine wpAnyH_ready (rs := [9]) (by kernel_rfl) (by simp) ?_
     refine AllReadyH.cons (o := ({ dst := some 80, op := Op.call { callee := Callee.value (Operand.func 19), args := #[Operand.tmp 79], argTypes := #[27] }, type := 3, pos := "law.go:159", after := #[{ on := 8, ground := Ground.data }, { on := 6, ground := Ground.chain }], guard := none } : Oper)) rfl (fun K hK => ?_) AllReadyH.nil
     go_simp
     go_at_call 19; (with_reducible refine (ratsign_any (HZ.out.below (HI14.out _ (by assumption)))).mono ?_); rintro e w18 ⟨rfl, hbr18⟩; rw [HSZ.out]
     first | refine hK.out _ _ ?_ (fun hHeld => ?_) | (go_wp2_with fail; refine hK.out _ _ ?_ (fun hHeld => ?_))
     ·first | exact HL14.out _ (Below.drew HS14.out) | exact HL14.out _ (bt (HI14.out _ (by assumption)) (by assumption))
     clear hK K
     (try dsimp only at hHeld)
     (try simp only [Act.put, List.setIfInBounds_toArray, List.set_cons_zero, List.set_cons_succ])
     refine wpAnyH_take (i := 10) (oi := ({ dst := some 81, op := Op.binOp BinOp.mul 3 (Operand.tmp 78) (Operand.tmp 80) 3, type := 3, pos := "law.go:159", after := #[{ on := 7, ground := Ground.data }, { on := 9, ground := Ground.data }], guard := none } : Oper)) (v := ?x2_v10) rfl (by kernel_rfl) (by kernel_rfl) (by kernel_rfl) (fun _ _ _ h => h) (Or.inl ⟨by rfl, ?x2_h10⟩) hHeld ?x2_r10
     case x2_h10 => (intro w hSw; (try dsimp only at hSw); go_simp; all_goals with_reducible rfl)
     (try simp only [Act.put, List.setIfInBounds_toArray, List.set_cons_zero, List.set_cons_succ])
     refine wpAnyH_take (i := 11) (oi := ({ dst := some 82, op := Op.binOp BinOp.eql 3 (Operand.tmp 77) (Operand.tmp 81) 3, type := 4, pos := "law.go:159", after := #[{ on := 6, ground := Ground.data }, { on := 10, ground := Ground.data }], guard := none } : Oper)) (v := ?x2_v11) rfl (by kernel_rfl) (by kernel_rfl) (by kernel_rfl) (fun _ _ _ h => h) (Or.inl ⟨by rfl, ?x2_h11⟩) hHeld ?x2_r11
     case x2_h11 => (intro w hSw; (try dsimp only at hSw); go_simp; all_goals with_reducible rfl)
     (try simp only [Act.put, List.setIfInBounds_toArray, List.set_cons_zero, List.set_cons_succ])
     refine wpAnyH_take (i := 12) (oi := ({ dst := some 83, op := Op.move (Operand.tmp 82), type := 4, pos := "law.go:159", after := #[{ on := 11, ground := Ground.data }, { on := 9, ground := Ground.chain }], guard := none } : Oper)) (v := ?x2_v12) rfl (by kernel_rfl) (by kernel_rfl) (by kernel_rfl) (fun _ _ _ h => h) (Or.inl ⟨by rfl, ?x2_h12⟩) hHeld ?x2_r12
     case x2_h12 => (intro w hSw; (try dsimp only at hSw); go_simp; all_goals with_reducible rfl)
     (try simp only [Act.put, List.setIfInBounds_toArray, List.set_cons_zero, List.set_cons_succ])
     refine wpAnyH_take (i := 13) (oi := ({ dst := some 84, op := Op.move (Operand.tmp 17), type := 3, pos := "law.go:159", after := #[{ on := 12, ground := Ground.guard }], guard := some (12, true) } : Oper)) (v := ?x2_v13) rfl (by kernel_rfl) (by kernel_rfl) (by kernel_rfl) (fun _ _ _ h => h) (Or.inl ⟨by rfl, ?x2_h13⟩) hHeld ?x2_r13
     case x2_h13 => (intro w hSw; (try dsimp only at hSw); go_simp; all_goals with_reducible rfl)
     (try simp only [Act.put, List.setIfInBounds_toArray, List.set_cons_zero, List.set_cons_succ])
     refine wpAnyH_take (i := 14) (oi := ({ dst := some 85, op := Op.binOp BinOp.gtr 3 (Operand.tmp 84) (Operand.const (Value.int IntKind.i64 0)) 3, type := 4, pos := "law.go:159", after := #[{ on := 13, ground := Ground.data }, { on := 12, ground := Ground.guard }], guard := some (12, true) } : Oper)) (v := ?x2_v14) rfl (by kernel_rfl) (by kernel_rfl) (by kernel_rfl) (fun _ _ _ h => h) (Or.inl ⟨by rfl, ?x2_h14⟩) hHeld ?x2_r14
     case x2_h14 => (intro w hSw; (try dsimp only at hSw); go_simp; all_goals with_reducible rfl)
     (try simp only [Act.put, List.setIfInBounds_toArray, List.set_cons_zero, List.set_cons_succ])
     refine wpAnyH_take (i := 15) (oi := ({ dst := some 86, op := Op.move (Operand.tmp 85), type := 4, pos := "law.go:159", after := #[{ on := 14, ground := Ground.data }, { on := 12, ground := Ground.chain }, { on := 12, ground := Ground.guard }], guard := some (12, true) } : Oper)) (v := ?x2_v15) rfl (by kernel_rfl) (by kernel_rfl) (by kernel_rfl) (fun _ _ _ h => h) (Or.inl ⟨by rfl, ?x2_h15⟩) hHeld ?x2_r15
     case x2_h15 => (intro w hSw; (try dsimp only at hSw); go_simp; all_goals with_reducible rfl)
     (try simp only [Act.put, List.setIfInBounds_toArray, List.set_cons_zero, List.set_cons_succ])
     refine wpAnyH_take (i := 16) (oi := ({ dst := some 87, op := Op.load 27 (Operand.tmp 8), type := 27, pos := "law.go:159", after := #[{ on := 15, ground := Ground.guard }], guard := some (15, false) } : Oper)) (v := ?x2_v16) rfl (by kernel_rfl) (by kernel_rfl) (by kernel_rfl) (fun _ _ _ h => h) (Or.inl ⟨by rfl, ?x2_h16⟩) hHeld ?x2_r16
     case x2_h16 => (intro w hSw; (try dsimp only at hSw); go_simp; all_goals with_reducible rfl)
     (try simp only [Act.put, List.setIfInBounds_toArray, List.set_cons_zero, List.set_cons_succ])
     refine wpAnyH_take (i := 17) (oi := ({ dst := some 88, op := Op.load 27 (Operand.tmp 12), type := 27, pos := "law.go:159", after := #[{ on := 15, ground := Ground.guard }], guard := some (15, false) } : Oper)) (v := ?x2_v17) rfl (by kernel_rfl) (by kernel_rfl) (by kernel_rfl) (fun _ _ _ h => h) (Or.inl ⟨by rfl, ?x2_h17⟩) hHeld ?x2_r17
     case x2_h17 => (intro w hSw; (try dsimp only at hSw); go_simp; all_goals with_reducible rfl)
     (try simp only [Act.put, List.setIfInBounds_toArray, List.set_cons_zero, List.set_cons_succ])
     refine wpAnyH_ready (rs := [18]) (by kernel_rfl) (by simp) ?_
     refine AllReadyH.cons (o := ({ dst := some 89, op := Op.call { callee := Callee.value (Operand.func 40), args := #[Operand.tmp 87, Operand.tmp 88], argTypes := #[27, 27] }, type := 3, pos := "law.go:159", after := #[{ on := 16, ground := Ground.data }, { on := 17, ground := Ground.data }, { on := 15, ground := Ground.chain }, { on := 15, ground := Ground.guard }], guard := some (15, false) } : Oper)) rfl (fun K hK => ?_) AllReadyH.nil
     go_simp
     go_at_call 40; (with_reducible refine (cmp_r (HY.out.below (HI14.out _ (by assumption))) (HZ.out.below (HI14.out _ (by assumption))) ry rz (by decide)).mono ?_); rintro e w19 ⟨rfl, hbr19⟩; rw [HC2.out]
     first | refine hK.out _ _ ?_ (fun hHeld => ?_) | (go_wp2_with fail; refine hK.out _ _ ?_ (fun hHeld => ?_))
     ·first | exact HL14.out _ (Below.drew HS14.out) | exact HL14.out _ (bt (HI14.out _ (by assumption)) (by assumption))
     clear hK K
     (try dsimp only at hHeld)
     (try simp only [Act.put, List.setIfInBounds_toArray, List.set_cons_zero, List.set_cons_succ])
     refine wpAnyH_take (i := 19) (oi := ({ dst := some 90, op := Op.binOp BinOp.gtr 3 (Operand.tmp 89) (Operand.const (Value.int IntKind.i64 0)) 3, type := 4, pos := "law.go:159", after := #[{ on := 18, ground := Ground.data }, { on := 15, ground := Ground.guard }], guard := some (15, false) } : Oper)) (v := ?x2_v19) rfl (by kernel_rfl) (by kernel_rfl) (by kernel_rfl) (fun _ _ _ h => h) (Or.inl ⟨by rfl, ?x2_h19⟩) hHeld ?x2_r19
     case x2_h19 => (intro w hSw; (try dsimp only at hSw); go_simp; all_goals with_reducible rfl)
     (try simp only [Act.put, List.setIfInBounds_toArray, List.set_cons_zero, List.set_cons_succ])
     refine wpAnyH_take (i := 20) (oi := ({ dst := some 91, op := Op.pick (Operand.tmp 86) (Operand.const (Value.bool true)) (Operand.tmp 90), type := 4, pos := "law.go:159", after := #[{ on := 15, ground := Ground.data }, { on := 19, ground := Ground.data }, { on := 12, ground := Ground.guard }], guard := some (12, true) } : Oper)) (v := ?x2_v20) rfl (by kernel_rfl) (by kernel_rfl) (by kernel_rfl) (fun _ _ _ h => h) (Or.inl ⟨by rfl, ?x2_h20⟩) hHeld ?x2_r20
     case x2_h20 => (intro w hSw; (try dsimp only at hSw); go_simp; all_goals with_reducible rfl)
     (try simp only [Act.put, List.setIfInBounds_toArray, List.set_cons_zero, List.set_cons_succ])
     refine wpAnyH_take (i := 21) (oi := ({ dst := some 92, op := Op.move (Operand.tmp 91), type := 4, pos := "law.go:159", after := #[{ on := 20, ground := Ground.data }, { on := 18, ground := Ground.chain }, { on := 12, ground := Ground.guard }], guard := some (12, true) } : Oper)) (v := ?x2_v21) rfl (by kernel_rfl) (by kernel_rfl) (by kernel_rfl) (fun _ _ _ h => h) (Or.inl ⟨by rfl, ?x2_h21⟩) hHeld ?x2_r21
     case x2_h21 => (intro w hSw; (try dsimp only at hSw); go_simp; all_goals with_reducible rfl)
     (try simp only [Act.put, List.setIfInBounds_toArray, List.set_cons_zero, List.set_cons_succ])
     refine wpAnyH_take (i := 22) (oi := ({ dst := some 93, op := Op.load 27 (Operand.tmp 7), type := 27, pos := "law.go:159", after := #[{ on := 21, ground := Ground.guard }], guard := some (21, false) } : Oper)) (v := undef) rfl (by kernel_rfl) (by kernel_rfl) (by kernel_rfl) (fun _ _ _ h => h) (Or.inr ⟨by rfl, rfl⟩) hHeld ?_
     (try simp only [Act.put, List.setIfInBounds_toArray, List.set_cons_zero, List.set_cons_succ])
     refine wpAnyH_take (i := 23) (oi := ({ dst := some 94, op := Op.load 27 (Operand.tmp 12), type := 27, pos := "law.go:159", after := #[{ on := 21, ground := Ground.guard }], guard := some (21, false) } : Oper)) (v := undef) rfl (by kernel_rfl) (by kernel_rfl) (by kernel_rfl) (fun _ _ _ h => h) (Or.inr ⟨by rfl, rfl⟩) hHeld ?_
     (try simp only [Act.put, List.setIfInBounds_toArray, List.set_cons_zero, List.set_cons_succ])
     refine wpAnyH_take (i := 24) (oi := ({ dst := some 95, op := Op.call { callee := Callee.value (Operand.func 40), args := #[Operand.tmp 93, Operand.tmp 94], argTypes := #[27, 27] }, type := 3, pos := "law.go:159", after := #[{ on := 22, ground := Ground.data }, { on := 23, ground := Ground.data }, { on := 21, ground := Ground.chain }, { on := 21, ground := Ground.guard }], guard := some (21, false) } : Oper)) (v := undef) rfl (by kernel_rfl) (by kernel_rfl) (by kernel_rfl) (fun _ _ _ h => h) (Or.inr ⟨by rfl, rfl⟩) hHeld ?_
     (try simp only [Act.put, List.setIfInBounds_toArray, List.set_cons_zero, List.set_cons_succ])
     refine wpAnyH_take (i := 25) (oi := ({ dst := some 96, op := Op.binOp BinOp.leq 3 (Operand.tmp 95) (Operand.const (Value.int IntKind.i64 0)) 3, type := 4, pos := "law.go:159", after := #[{ on := 24, ground := Ground.data }, { on := 21, ground := Ground.guard }], guard := some (21, false) } : Oper)) (v := undef) rfl (by kernel_rfl) (by kernel_rfl) (by kernel_rfl) (fun _ _ _ h => h) (Or.inr ⟨by rfl, rfl⟩) hHeld ?_
     (try simp only [Act.put, List.setIfInBounds_toArray, List.set_cons_zero, List.set_cons_succ])
     refine wpAnyH_take (i := 26) (oi := ({ dst := some 97, op := Op.pick (Operand.tmp 92) (Operand.const (Value.bool true)) (Operand.tmp 96), type := 4, pos := "law.go:159", after := #[{ on := 21, ground := Ground.data }, { on := 25, ground := Ground.data }, { on := 12, ground := Ground.guard }], guard := some (12, true) } : Oper)) (v := ?x2_v26) rfl (by kernel_rfl) (by kernel_rfl) (by kernel_rfl) (fun _ _ _ h => h) (Or.inl ⟨by rfl, ?x2_h26⟩) hHeld ?x2_r26
     case x2_h26 => (intro w hSw; (try dsimp only at hSw); go_simp; all_goals with_reducible rfl)
     (try simp only [Act.put, List.setIfInBounds_toArray, List.set_cons_zero, List.set_cons_succ])
     refine wpAnyH_take (i := 27) (oi := ({ dst := some 98, op := Op.pick (Operand.tmp 83) (Operand.tmp 97) (Operand.const (Value.bool false)), type := 4, pos := "law.go:159", after := #[{ on := 12, ground := Ground.data }, { on := 26, ground := Ground.data }], guard := none } : Oper)) (v := ?x2_v27) rfl (by kernel_rfl) (by kernel_rfl) (by kernel_rfl) (fun _ _ _ h => h) (Or.inl ⟨by rfl, ?x2_h27⟩) hHeld ?x2_r27
     case x2_h27 => (intro w hSw; (try dsimp only at hSw); go_simp; all_goals with_reducible rfl)
     (try simp only [Act.put, List.setIfInBounds_toArray, List.set_cons_zero, List.set_cons_succ])
     refine wpAnyH_take (i := 28) (oi := ({ dst := some 6, op := Op.assign (Operand.tmp 98), type := 4, pos := "law.go:159", after := #[{ on := 27, ground := Ground.data }, { on := 24, ground := Ground.chain }, { on := 0, ground := Ground.phase }, { on := 1, ground := Ground.phase }, { on := 2, ground := Ground.phase }, { on := 3, ground := Ground.phase }, { on := 4, ground := Ground.phase }, { on := 5, ground := Ground.phase }, { on := 6, ground := Ground.phase }, { on := 7, ground := Ground.phase }, { on := 8, ground := Ground.phase }, { on := 9, ground := Ground.phase }, { on := 10, ground := Ground.phase }, { on := 11, ground := Ground.phase }, { on := 12, ground := Ground.phase }, { on := 13, ground := Ground.phase }, { on := 14, ground := Ground.phase }, { on := 15, ground := Ground.phase }, { on := 16, ground := Ground.phase }, { on := 17, ground := Ground.phase }, { on := 18, ground := Ground.phase }, { on := 19, ground := Ground.phase }, { on := 20, ground := Ground.phase }, { on := 21, ground := Ground.phase }, { on := 22, ground := Ground.phase }, { on := 23, ground := Ground.phase }, { on := 24, ground := Ground.phase }, { on := 25, ground := Ground.phase }, { on := 26, ground := Ground.phase }, { on := 27, ground := Ground.phase }], guard := none } : Oper)) (v := ?x2_v28) rfl (by kernel_rfl) (by kernel_rfl) (by kernel_rfl) (fun _ _ _ h => h) (Or.inl ⟨by rfl, ?x2_h28⟩) hHeld ?x2_r28
     case x2_h28 => (intro w hSw; (try dsimp only at hSw); go_simp; all_goals with_reducible rfl)
     (try simp only [Act.put, List.setIfInBounds_toArray, List.set_cons_zero, List.set_cons_succ])
     refine wpAnyH_done (by kernel_rfl) ?_ _
     replace HB := hid (bt HB.out (bt (bt (bt (bt (bt HC14.out hbr15) hbr16) hbr17) hbr18) hbr19))
     go_wp2
     go_ret
     exact ⟨by simp, HB.out⟩
    ·have g2 : decide (0 < c2) = false := by simp; omega
     have g3' := HLE.out (by omega) (by omega)
     have g3 : decide (c3 ≤ 0) = true := by simp; exact g3'
     have lt6_x : w2.heap.size < w13.heap.size := (Array.getElem?_eq_some_iff.1 Bx.out).1
     have lt7_y : w2.heap.size + 1 < w13.heap.size := (Array.getElem?_eq_some_iff.1 By.out).1
     have lt8_z : w4.heap.size < w13.heap.size := (Array.getElem?_eq_some_iff.1 Bz.out).1
     obtain ⟨⟨cx0, cx1, cx2, cx3⟩, fx0, fx1, fx2, fx3⟩ := res4_facts Bx.out
     obtain ⟨⟨cy0, cy1, cy2, cy3⟩, fy0, fy1, fy2, fy3⟩ := res4_facts By.out
     obtain ⟨⟨cz0, cz1, cz2, cz3⟩, fz0, fz1, fz2, fz3⟩ := res4_facts Bz.out
     have HL14 := hid (fun (w' : World) (hb : Below w13.heap.size w13 w') => (⟨hb, keepc hb cx0, keepc hb cx1, keepc hb cx2, keepc hb cx3, keepc hb cy0, keepc hb cy1, keepc hb cy2, keepc hb cy3, keepc hb cz0, keepc hb cz1, keepc hb cz2, keepc hb cz3⟩ : Below w13.heap.size w13 w' ∧ w'.cell? ⟨w2.heap.size, 0, none⟩ = some (.bool n0_2) ∧ w'.cell? ⟨w2.heap.size, 1, none⟩ = some (.slice a0_2 k0_2 c0_2) ∧ w'.cell? ⟨w2.heap.size, 2, none⟩ = some (.bool n1_2) ∧ w'.cell? ⟨w2.heap.size, 3, none⟩ = some (.slice a1_2 k1_2 c1_2) ∧ w'.cell? ⟨w2.heap.size + 1, 0, none⟩ = some (.bool n2_2) ∧ w'.cell? ⟨w2.heap.size + 1, 1, none⟩ = some (.slice a2_2 k2_2 c2_2) ∧ w'.cell? ⟨w2.heap.size + 1, 2, none⟩ = some (.bool n3_2) ∧ w'.cell? ⟨w2.heap.size + 1, 3, none⟩ = some (.slice a3_2 k3_2 c3_2) ∧ w'.cell? ⟨w4.heap.size, 0, none⟩ = some (.bool n0_4) ∧ w'.cell? ⟨w4.heap.size, 1, none⟩ = some (.slice a0_4 k0_4 c0_4) ∧ w'.cell? ⟨w4.heap.size, 2, none⟩ = some (.bool n1_4) ∧ w'.cell? ⟨w4.heap.size, 3, none⟩ = some (.slice a1_4 k1_4 c1_4)))
     have HI14 := hid (fun (w' : World) (hs : Below w13.heap.size w13 w' ∧ w'.cell? ⟨w2.heap.size, 0, none⟩ = some (.bool n0_2) ∧ w'.cell? ⟨w2.heap.size, 1, none⟩ = some (.slice a0_2 k0_2 c0_2) ∧ w'.cell? ⟨w2.heap.size, 2, none⟩ = some (.bool n1_2) ∧ w'.cell? ⟨w2.heap.size, 3, none⟩ = some (.slice a1_2 k1_2 c1_2) ∧ w'.cell? ⟨w2.heap.size + 1, 0, none⟩ = some (.bool n2_2) ∧ w'.cell? ⟨w2.heap.size + 1, 1, none⟩ = some (.slice a2_2 k2_2 c2_2) ∧ w'.cell? ⟨w2.heap.size + 1, 2, none⟩ = some (.bool n3_2) ∧ w'.cell? ⟨w2.heap.size + 1, 3, none⟩ = some (.slice a3_2 k3_2 c3_2) ∧ w'.cell? ⟨w4.heap.size, 0, none⟩ = some (.bool n0_4) ∧ w'.cell? ⟨w4.heap.size, 1, none⟩ = some (.slice a0_4 k0_4 c0_4) ∧ w'.cell? ⟨w4.heap.size, 2, none⟩ = some (.bool n1_4) ∧ w'.cell? ⟨w4.heap.size, 3, none⟩ = some (.slice a1_4 k1_4 c1_4)) => hs.1)
     have HS14 := hid (Below.refl w13.heap.size w13)
     have HC14 := hid (Below.drew (Below.refl w13.heap.size w13))
     refine wp_region_held_drew (S := fun w' => Below w13.heap.size w13 w' ∧ w'.cell? ⟨w2.heap.size, 0, none⟩ = some (.bool n0_2) ∧ w'.cell? ⟨w2.heap.size, 1, none⟩ = some (.slice a0_2 k0_2 c0_2) ∧ w'.cell? ⟨w2.heap.size, 2, none⟩ = some (.bool n1_2) ∧ w'.cell? ⟨w2.heap.size, 3, none⟩ = some (.slice a1_2 k1_2 c1_2) ∧ w'.cell? ⟨w2.heap.size + 1, 0, none⟩ = some (.bool n2_2) ∧ w'.cell? ⟨w2.heap.size + 1, 1, none⟩ = some (.slice a2_2 k2_2 c2_2) ∧ w'.cell? ⟨w2.heap.size + 1, 2, none⟩ = some (.bool n3_2) ∧ w'.cell? ⟨w2.heap.size + 1, 3, none⟩ = some (.slice a3_2 k3_2 c3_2) ∧ w'.cell? ⟨w4.heap.size, 0, none⟩ = some (.bool n0_4) ∧ w'.cell? ⟨w4.heap.size, 1, none⟩ = some (.slice a0_4 k0_4 c0_4) ∧ w'.cell? ⟨w4.heap.size, 2, none⟩ = some (.bool n1_4) ∧ w'.cell? ⟨w4.heap.size, 3, none⟩ = some (.slice a1_4 k1_4 c1_4)) (by kernel_rfl) ?_ (fun hHeld => ?_)
     ·first | exact HL14.out _ (Below.drew HS14.out) | exact HL14.out _ (bt (HI14.out _ (by assumption)) (by assumption))
     (try dsimp only at hHeld)
     refine wpAnyH_take (i := 0) (oi := ({ dst := some 71, op := Op.load 27 (Operand.tmp 7), type := 27, pos := "law.go:159", after := #[], guard := none } : Oper)) (v := ?x3_v0) rfl (by kernel_rfl) (by kernel_rfl) (by kernel_rfl) (fun _ _ _ h => h) (Or.inl ⟨by rfl, ?x3_h0⟩) hHeld ?x3_r0
     case x3_h0 => (intro w hSw; (try dsimp only at hSw); go_simp; all_goals with_reducible rfl)
     (try simp only [Act.put, List.setIfInBounds_toArray, List.set_cons_zero, List.set_cons_succ])
     refine wpAnyH_take (i := 1) (oi := ({ dst := some 72, op := Op.load 27 (Operand.tmp 12), type := 27, pos := "law.go:159", after := #[], guard := none } : Oper)) (v := ?x3_v1) rfl (by kernel_rfl) (by kernel_rfl) (by kernel_rfl) (fun _ _ _ h => h) (Or.inl ⟨by rfl, ?x3_h1⟩) hHeld ?x3_r1
     case x3_h1 => (intro w hSw; (try dsimp only at hSw); go_simp; all_goals with_reducible rfl)
     (try simp only [Act.put, List.setIfInBounds_toArray, List.set_cons_zero, List.set_cons_succ])
     refine wpAnyH_take (i := 3) (oi := ({ dst := some 74, op := Op.load 27 (Operand.tmp 8), type := 27, pos := "law.go:159", after := #[], guard := none } : Oper)) (v := ?x3_v3) rfl (by kernel_rfl) (by kernel_rfl) (by kernel_rfl) (fun _ _ _ h => h) (Or.inl ⟨by rfl, ?x3_h3⟩) hHeld ?x3_r3
     case x3_h3 => (intro w hSw; (try dsimp only at hSw); go_simp; all_goals with_reducible rfl)
     (try simp only [Act.put, List.setIfInBounds_toArray, List.set_cons_zero, List.set_cons_succ])
     refine wpAnyH_take (i := 4) (oi := ({ dst := some 75, op := Op.load 27 (Operand.tmp 12), type := 27, pos := "law.go:159", after := #[], guard := none } : Oper)) (v := ?x3_v4) rfl (by kernel_rfl) (by kernel_rfl) (by kernel_rfl) (fun _ _ _ h => h) (Or.inl ⟨by rfl, ?x3_h4⟩) hHeld ?x3_r4
     case x3_h4 => (intro w hSw; (try dsimp only at hSw); go_simp; all_goals with_reducible rfl)
     (try simp only [Act.put, List.setIfInBounds_toArray, List.set_cons_zero, List.set_cons_succ])
     refine wpAnyH_take (i := 7) (oi := ({ dst := some 78, op := Op.move (Operand.tmp 17), type := 3, pos := "law.go:159", after := #[], guard := none } : Oper)) (v := ?x3_v7) rfl (by kernel_rfl) (by kernel_rfl) (by kernel_rfl) (fun _ _ _ h => h) (Or.inl ⟨by rfl, ?x3_h7⟩) hHeld ?x3_r7
     case x3_h7 => (intro w hSw; (try dsimp only at hSw); go_simp; all_goals with_reducible rfl)
     (try simp only [Act.put, List.setIfInBounds_toArray, List.set_cons_zero, List.set_cons_succ])
     refine wpAnyH_take (i := 8) (oi := ({ dst := some 79, op := Op.load 27 (Operand.tmp 12), type := 27, pos := "law.go:159", after := #[], guard := none } : Oper)) (v := ?x3_v8) rfl (by kernel_rfl) (by kernel_rfl) (by kernel_rfl) (fun _ _ _ h => h) (Or.inl ⟨by rfl, ?x3_h8⟩) hHeld ?x3_r8
     case x3_h8 => (intro w hSw; (try dsimp only at hSw); go_simp; all_goals with_reducible rfl)
     (try simp only [Act.put, List.setIfInBounds_toArray, List.set_cons_zero, List.set_cons_succ])
     refine wpAnyH_ready (rs := [2]) (by kernel_rfl) (by simp) ?_
     refine AllReadyH.cons (o := ({ dst := some 73, op := Op.call { callee := Callee.value (Operand.func 24), args := #[Operand.tmp 71, Operand.tmp 72], argTypes := #[27, 27] }, type := 27, pos := "law.go:159", after := #[{ on := 0, ground := Ground.data }, { on := 1, ground := Ground.data }], guard := none } : Oper)) rfl (fun K hK => ?_) AllReadyH.nil
     go_simp
     go_at_call 24; (with_reducible refine (mul_r (HX.out.below (HI14.out _ (by assumption))) (HZ.out.below (HI14.out _ (by assumption))) rx rz (by decide)).mono ?_); rintro e w15 ⟨n_15, a_15, k_15, c_15, n2_15, a2_15, k2_15, c2_15, rfl, hu_15, hbr15⟩; have HP4 := hid hu_15; clear hu_15
     first | refine hK.out _ _ ?_ (fun hHeld => ?_) | (go_wp2_with fail; refine hK.out _ _ ?_ (fun hHeld => ?_))
     ·first | exact HL14.out _ (Below.drew HS14.out) | exact HL14.out _ (bt (HI14.out _ (by assumption)) (by assumption))
     clear hK K
     (try dsimp only at hHeld)
     (try simp only [Act.put, List.setIfInBounds_toArray, List.set_cons_zero, List.set_cons_succ])
     refine wpAnyH_ready (rs := [5]) (by kernel_rfl) (by simp) ?_
     refine AllReadyH.cons (o := ({ dst := some 76, op := Op.call { callee := Callee.value (Operand.func 24), args := #[Operand.tmp 74, Operand.tmp 75], argTypes := #[27, 27] }, type := 27, pos := "law.go:159", after := #[{ on := 3, ground := Ground.data }, { on := 4, ground := Ground.data }, { on := 2, ground := Ground.chain }], guard := none } : Oper)) rfl (fun K hK => ?_) AllReadyH.nil
     go_simp
     go_at_call 24; (with_reducible refine (mul_r (HY.out.below (HI14.out _ (by assumption))) (HZ.out.below (HI14.out _ (by assumption))) ry rz (by decide)).mono ?_); rintro e w16 ⟨n_16, a_16, k_16, c_16, n2_16, a2_16, k2_16, c2_16, rfl, hu_16, hbr16⟩; have HP5 := hid hu_16; clear hu_16
     first | refine hK.out _ _ ?_ (fun hHeld => ?_) | (go_wp2_with fail; refine hK.out _ _ ?_ (fun hHeld => ?_))
     ·first | exact HL14.out _ (Below.drew HS14.out) | exact HL14.out _ (bt (HI14.out _ (by assumption)) (by assumption))
     clear hK K
     (try dsimp only at hHeld)
     (try simp only [Act.put, List.setIfInBounds_toArray, List.set_cons_zero, List.set_cons_succ])
     refine wpAnyH_ready (rs := [6]) (by kernel_rfl) (by simp) ?_
     refine AllReadyH.cons (o := ({ dst := some 77, op := Op.call { callee := Callee.value (Operand.func 40), args := #[Operand.tmp 73, Operand.tmp 76], argTypes := #[27, 27] }, type := 3, pos := "law.go:159", after := #[{ on := 2, ground := Ground.data }, { on := 5, ground := Ground.data }, { on := 5, ground := Ground.chain }], guard := none } : Oper)) rfl (fun K hK => ?_) AllReadyH.nil
     go_simp
     go_at_call 40; (with_reducible refine (cmp_r (HP4.out.below hbr16) HP5.out (rx.mul rz) (ry.mul rz) (by decide)).mono ?_); rintro e w17 ⟨rfl, hbr17⟩; rw [E4.out]
     first | refine hK.out _ _ ?_ (fun hHeld => ?_) | (go_wp2_with fail; refine hK.out _ _ ?_ (fun hHeld => ?_))
     ·first | exact HL14.out _ (Below.drew HS14.out) | exact HL14.out _ (bt (HI14.out _ (by assumption)) (by assumption))
     clear hK K
     (try dsimp only at hHeld)
     (try simp only [Act.put, List.setIfInBounds_toArray, List.set_cons_zero, List.set_cons_succ])
     refine wpAnyH_ready (rs := [9]) (by kernel_rfl) (by simp) ?_
     refine AllReadyH.cons (o := ({ dst := some 80, op := Op.call { callee := Callee.value (Operand.func 19), args := #[Operand.tmp 79], argTypes := #[27] }, type := 3, pos := "law.go:159", after := #[{ on := 8, ground := Ground.data }, { on := 6, ground := Ground.chain }], guard := none } : Oper)) rfl (fun K hK => ?_) AllReadyH.nil
     go_simp
     go_at_call 19; (with_reducible refine (ratsign_any (HZ.out.below (HI14.out _ (by assumption)))).mono ?_); rintro e w18 ⟨rfl, hbr18⟩; rw [HSZ.out]
     first | refine hK.out _ _ ?_ (fun hHeld => ?_) | (go_wp2_with fail; refine hK.out _ _ ?_ (fun hHeld => ?_))
     ·first | exact HL14.out _ (Below.drew HS14.out) | exact HL14.out _ (bt (HI14.out _ (by assumption)) (by assumption))
     clear hK K
     (try dsimp only at hHeld)
     (try simp only [Act.put, List.setIfInBounds_toArray, List.set_cons_zero, List.set_cons_succ])
     refine wpAnyH_take (i := 10) (oi := ({ dst := some 81, op := Op.binOp BinOp.mul 3 (Operand.tmp 78) (Operand.tmp 80) 3, type := 3, pos := "law.go:159", after := #[{ on := 7, ground := Ground.data }, { on := 9, ground := Ground.data }], guard := none } : Oper)) (v := ?x3_v10) rfl (by kernel_rfl) (by kernel_rfl) (by kernel_rfl) (fun _ _ _ h => h) (Or.inl ⟨by rfl, ?x3_h10⟩) hHeld ?x3_r10
     case x3_h10 => (intro w hSw; (try dsimp only at hSw); go_simp; all_goals with_reducible rfl)
     (try simp only [Act.put, List.setIfInBounds_toArray, List.set_cons_zero, List.set_cons_succ])
     refine wpAnyH_take (i := 11) (oi := ({ dst := some 82, op := Op.binOp BinOp.eql 3 (Operand.tmp 77) (Operand.tmp 81) 3, type := 4, pos := "law.go:159", after := #[{ on := 6, ground := Ground.data }, { on := 10, ground := Ground.data }], guard := none } : Oper)) (v := ?x3_v11) rfl (by kernel_rfl) (by kernel_rfl) (by kernel_rfl) (fun _ _ _ h => h) (Or.inl ⟨by rfl, ?x3_h11⟩) hHeld ?x3_r11
     case x3_h11 => (intro w hSw; (try dsimp only at hSw); go_simp; all_goals with_reducible rfl)
     (try simp only [Act.put, List.setIfInBounds_toArray, List.set_cons_zero, List.set_cons_succ])
     refine wpAnyH_take (i := 12) (oi := ({ dst := some 83, op := Op.move (Operand.tmp 82), type := 4, pos := "law.go:159", after := #[{ on := 11, ground := Ground.data }, { on := 9, ground := Ground.chain }], guard := none } : Oper)) (v := ?x3_v12) rfl (by kernel_rfl) (by kernel_rfl) (by kernel_rfl) (fun _ _ _ h => h) (Or.inl ⟨by rfl, ?x3_h12⟩) hHeld ?x3_r12
     case x3_h12 => (intro w hSw; (try dsimp only at hSw); go_simp; all_goals with_reducible rfl)
     (try simp only [Act.put, List.setIfInBounds_toArray, List.set_cons_zero, List.set_cons_succ])
     refine wpAnyH_take (i := 13) (oi := ({ dst := some 84, op := Op.move (Operand.tmp 17), type := 3, pos := "law.go:159", after := #[{ on := 12, ground := Ground.guard }], guard := some (12, true) } : Oper)) (v := ?x3_v13) rfl (by kernel_rfl) (by kernel_rfl) (by kernel_rfl) (fun _ _ _ h => h) (Or.inl ⟨by rfl, ?x3_h13⟩) hHeld ?x3_r13
     case x3_h13 => (intro w hSw; (try dsimp only at hSw); go_simp; all_goals with_reducible rfl)
     (try simp only [Act.put, List.setIfInBounds_toArray, List.set_cons_zero, List.set_cons_succ])
     refine wpAnyH_take (i := 14) (oi := ({ dst := some 85, op := Op.binOp BinOp.gtr 3 (Operand.tmp 84) (Operand.const (Value.int IntKind.i64 0)) 3, type := 4, pos := "law.go:159", after := #[{ on := 13, ground := Ground.data }, { on := 12, ground := Ground.guard }], guard := some (12, true) } : Oper)) (v := ?x3_v14) rfl (by kernel_rfl) (by kernel_rfl) (by kernel_rfl) (fun _ _ _ h => h) (Or.inl ⟨by rfl, ?x3_h14⟩) hHeld ?x3_r14
     case x3_h14 => (intro w hSw; (try dsimp only at hSw); go_simp; all_goals with_reducible rfl)
     (try simp only [Act.put, List.setIfInBounds_toArray, List.set_cons_zero, List.set_cons_succ])
     refine wpAnyH_take (i := 15) (oi := ({ dst := some 86, op := Op.move (Operand.tmp 85), type := 4, pos := "law.go:159", after := #[{ on := 14, ground := Ground.data }, { on := 12, ground := Ground.chain }, { on := 12, ground := Ground.guard }], guard := some (12, true) } : Oper)) (v := ?x3_v15) rfl (by kernel_rfl) (by kernel_rfl) (by kernel_rfl) (fun _ _ _ h => h) (Or.inl ⟨by rfl, ?x3_h15⟩) hHeld ?x3_r15
     case x3_h15 => (intro w hSw; (try dsimp only at hSw); go_simp; all_goals with_reducible rfl)
     (try simp only [Act.put, List.setIfInBounds_toArray, List.set_cons_zero, List.set_cons_succ])
     refine wpAnyH_take (i := 16) (oi := ({ dst := some 87, op := Op.load 27 (Operand.tmp 8), type := 27, pos := "law.go:159", after := #[{ on := 15, ground := Ground.guard }], guard := some (15, false) } : Oper)) (v := ?x3_v16) rfl (by kernel_rfl) (by kernel_rfl) (by kernel_rfl) (fun _ _ _ h => h) (Or.inl ⟨by rfl, ?x3_h16⟩) hHeld ?x3_r16
     case x3_h16 => (intro w hSw; (try dsimp only at hSw); go_simp; all_goals with_reducible rfl)
     (try simp only [Act.put, List.setIfInBounds_toArray, List.set_cons_zero, List.set_cons_succ])
     refine wpAnyH_take (i := 17) (oi := ({ dst := some 88, op := Op.load 27 (Operand.tmp 12), type := 27, pos := "law.go:159", after := #[{ on := 15, ground := Ground.guard }], guard := some (15, false) } : Oper)) (v := ?x3_v17) rfl (by kernel_rfl) (by kernel_rfl) (by kernel_rfl) (fun _ _ _ h => h) (Or.inl ⟨by rfl, ?x3_h17⟩) hHeld ?x3_r17
     case x3_h17 => (intro w hSw; (try dsimp only at hSw); go_simp; all_goals with_reducible rfl)
     (try simp only [Act.put, List.setIfInBounds_toArray, List.set_cons_zero, List.set_cons_succ])
     refine wpAnyH_ready (rs := [18]) (by kernel_rfl) (by simp) ?_
     refine AllReadyH.cons (o := ({ dst := some 89, op := Op.call { callee := Callee.value (Operand.func 40), args := #[Operand.tmp 87, Operand.tmp 88], argTypes := #[27, 27] }, type := 3, pos := "law.go:159", after := #[{ on := 16, ground := Ground.data }, { on := 17, ground := Ground.data }, { on := 15, ground := Ground.chain }, { on := 15, ground := Ground.guard }], guard := some (15, false) } : Oper)) rfl (fun K hK => ?_) AllReadyH.nil
     go_simp
     go_at_call 40; (with_reducible refine (cmp_r (HY.out.below (HI14.out _ (by assumption))) (HZ.out.below (HI14.out _ (by assumption))) ry rz (by decide)).mono ?_); rintro e w19 ⟨rfl, hbr19⟩; rw [HC2.out]
     first | refine hK.out _ _ ?_ (fun hHeld => ?_) | (go_wp2_with fail; refine hK.out _ _ ?_ (fun hHeld => ?_))
     ·first | exact HL14.out _ (Below.drew HS14.out) | exact HL14.out _ (bt (HI14.out _ (by assumption)) (by assumption))
     clear hK K
     (try dsimp only at hHeld)
     (try simp only [Act.put, List.setIfInBounds_toArray, List.set_cons_zero, List.set_cons_succ])
     refine wpAnyH_take (i := 19) (oi := ({ dst := some 90, op := Op.binOp BinOp.gtr 3 (Operand.tmp 89) (Operand.const (Value.int IntKind.i64 0)) 3, type := 4, pos := "law.go:159", after := #[{ on := 18, ground := Ground.data }, { on := 15, ground := Ground.guard }], guard := some (15, false) } : Oper)) (v := ?x3_v19) rfl (by kernel_rfl) (by kernel_rfl) (by kernel_rfl) (fun _ _ _ h => h) (Or.inl ⟨by rfl, ?x3_h19⟩) hHeld ?x3_r19
     case x3_h19 => (intro w hSw; (try dsimp only at hSw); go_simp; all_goals with_reducible rfl)
     (try simp only [Act.put, List.setIfInBounds_toArray, List.set_cons_zero, List.set_cons_succ])
     refine wpAnyH_take (i := 20) (oi := ({ dst := some 91, op := Op.pick (Operand.tmp 86) (Operand.const (Value.bool true)) (Operand.tmp 90), type := 4, pos := "law.go:159", after := #[{ on := 15, ground := Ground.data }, { on := 19, ground := Ground.data }, { on := 12, ground := Ground.guard }], guard := some (12, true) } : Oper)) (v := ?x3_v20) rfl (by kernel_rfl) (by kernel_rfl) (by kernel_rfl) (fun _ _ _ h => h) (Or.inl ⟨by rfl, ?x3_h20⟩) hHeld ?x3_r20
     case x3_h20 => (intro w hSw; (try dsimp only at hSw); go_simp; all_goals with_reducible rfl)
     (try simp only [Act.put, List.setIfInBounds_toArray, List.set_cons_zero, List.set_cons_succ])
     refine wpAnyH_take (i := 21) (oi := ({ dst := some 92, op := Op.move (Operand.tmp 91), type := 4, pos := "law.go:159", after := #[{ on := 20, ground := Ground.data }, { on := 18, ground := Ground.chain }, { on := 12, ground := Ground.guard }], guard := some (12, true) } : Oper)) (v := ?x3_v21) rfl (by kernel_rfl) (by kernel_rfl) (by kernel_rfl) (fun _ _ _ h => h) (Or.inl ⟨by rfl, ?x3_h21⟩) hHeld ?x3_r21
     case x3_h21 => (intro w hSw; (try dsimp only at hSw); go_simp; all_goals with_reducible rfl)
     (try simp only [Act.put, List.setIfInBounds_toArray, List.set_cons_zero, List.set_cons_succ])
     refine wpAnyH_take (i := 22) (oi := ({ dst := some 93, op := Op.load 27 (Operand.tmp 7), type := 27, pos := "law.go:159", after := #[{ on := 21, ground := Ground.guard }], guard := some (21, false) } : Oper)) (v := ?x3_v22) rfl (by kernel_rfl) (by kernel_rfl) (by kernel_rfl) (fun _ _ _ h => h) (Or.inl ⟨by rfl, ?x3_h22⟩) hHeld ?x3_r22
     case x3_h22 => (intro w hSw; (try dsimp only at hSw); go_simp; all_goals with_reducible rfl)
     (try simp only [Act.put, List.setIfInBounds_toArray, List.set_cons_zero, List.set_cons_succ])
     refine wpAnyH_take (i := 23) (oi := ({ dst := some 94, op := Op.load 27 (Operand.tmp 12), type := 27, pos := "law.go:159", after := #[{ on := 21, ground := Ground.guard }], guard := some (21, false) } : Oper)) (v := ?x3_v23) rfl (by kernel_rfl) (by kernel_rfl) (by kernel_rfl) (fun _ _ _ h => h) (Or.inl ⟨by rfl, ?x3_h23⟩) hHeld ?x3_r23
     case x3_h23 => (intro w hSw; (try dsimp only at hSw); go_simp; all_goals with_reducible rfl)
     (try simp only [Act.put, List.setIfInBounds_toArray, List.set_cons_zero, List.set_cons_succ])
     refine wpAnyH_ready (rs := [24]) (by kernel_rfl) (by simp) ?_
     refine AllReadyH.cons (o := ({ dst := some 95, op := Op.call { callee := Callee.value (Operand.func 40), args := #[Operand.tmp 93, Operand.tmp 94], argTypes := #[27, 27] }, type := 3, pos := "law.go:159", after := #[{ on := 22, ground := Ground.data }, { on := 23, ground := Ground.data }, { on := 21, ground := Ground.chain }, { on := 21, ground := Ground.guard }], guard := some (21, false) } : Oper)) rfl (fun K hK => ?_) AllReadyH.nil
     go_simp
     go_at_call 40; (with_reducible refine (cmp_r (HX.out.below (HI14.out _ (by assumption))) (HZ.out.below (HI14.out _ (by assumption))) rx rz (by decide)).mono ?_); rintro e w20 ⟨rfl, hbr20⟩; rw [HC3.out]
     first | refine hK.out _ _ ?_ (fun hHeld => ?_) | (go_wp2_with fail; refine hK.out _ _ ?_ (fun hHeld => ?_))
     ·first | exact HL14.out _ (Below.drew HS14.out) | exact HL14.out _ (bt (HI14.out _ (by assumption)) (by assumption))
     clear hK K
     (try dsimp only at hHeld)
     (try simp only [Act.put, List.setIfInBounds_toArray, List.set_cons_zero, List.set_cons_succ])
     refine wpAnyH_take (i := 25) (oi := ({ dst := some 96, op := Op.binOp BinOp.leq 3 (Operand.tmp 95) (Operand.const (Value.int IntKind.i64 0)) 3, type := 4, pos := "law.go:159", after := #[{ on := 24, ground := Ground.data }, { on := 21, ground := Ground.guard }], guard := some (21, false) } : Oper)) (v := ?x3_v25) rfl (by kernel_rfl) (by kernel_rfl) (by kernel_rfl) (fun _ _ _ h => h) (Or.inl ⟨by rfl, ?x3_h25⟩) hHeld ?x3_r25
     case x3_h25 => (intro w hSw; (try dsimp only at hSw); go_simp; all_goals with_reducible rfl)
     (try simp only [Act.put, List.setIfInBounds_toArray, List.set_cons_zero, List.set_cons_succ])
     refine wpAnyH_take (i := 26) (oi := ({ dst := some 97, op := Op.pick (Operand.tmp 92) (Operand.const (Value.bool true)) (Operand.tmp 96), type := 4, pos := "law.go:159", after := #[{ on := 21, ground := Ground.data }, { on := 25, ground := Ground.data }, { on := 12, ground := Ground.guard }], guard := some (12, true) } : Oper)) (v := ?x3_v26) rfl (by kernel_rfl) (by kernel_rfl) (by kernel_rfl) (fun _ _ _ h => h) (Or.inl ⟨by rfl, ?x3_h26⟩) hHeld ?x3_r26
     case x3_h26 => (intro w hSw; (try dsimp only at hSw); go_simp; all_goals with_reducible rfl)
     (try simp only [Act.put, List.setIfInBounds_toArray, List.set_cons_zero, List.set_cons_succ])
     refine wpAnyH_take (i := 27) (oi := ({ dst := some 98, op := Op.pick (Operand.tmp 83) (Operand.tmp 97) (Operand.const (Value.bool false)), type := 4, pos := "law.go:159", after := #[{ on := 12, ground := Ground.data }, { on := 26, ground := Ground.data }], guard := none } : Oper)) (v := ?x3_v27) rfl (by kernel_rfl) (by kernel_rfl) (by kernel_rfl) (fun _ _ _ h => h) (Or.inl ⟨by rfl, ?x3_h27⟩) hHeld ?x3_r27
     case x3_h27 => (intro w hSw; (try dsimp only at hSw); go_simp; all_goals with_reducible rfl)
     (try simp only [Act.put, List.setIfInBounds_toArray, List.set_cons_zero, List.set_cons_succ])
     refine wpAnyH_take (i := 28) (oi := ({ dst := some 6, op := Op.assign (Operand.tmp 98), type := 4, pos := "law.go:159", after := #[{ on := 27, ground := Ground.data }, { on := 24, ground := Ground.chain }, { on := 0, ground := Ground.phase }, { on := 1, ground := Ground.phase }, { on := 2, ground := Ground.phase }, { on := 3, ground := Ground.phase }, { on := 4, ground := Ground.phase }, { on := 5, ground := Ground.phase }, { on := 6, ground := Ground.phase }, { on := 7, ground := Ground.phase }, { on := 8, ground := Ground.phase }, { on := 9, ground := Ground.phase }, { on := 10, ground := Ground.phase }, { on := 11, ground := Ground.phase }, { on := 12, ground := Ground.phase }, { on := 13, ground := Ground.phase }, { on := 14, ground := Ground.phase }, { on := 15, ground := Ground.phase }, { on := 16, ground := Ground.phase }, { on := 17, ground := Ground.phase }, { on := 18, ground := Ground.phase }, { on := 19, ground := Ground.phase }, { on := 20, ground := Ground.phase }, { on := 21, ground := Ground.phase }, { on := 22, ground := Ground.phase }, { on := 23, ground := Ground.phase }, { on := 24, ground := Ground.phase }, { on := 25, ground := Ground.phase }, { on := 26, ground := Ground.phase }, { on := 27, ground := Ground.phase }], guard := none } : Oper)) (v := ?x3_v28) rfl (by kernel_rfl) (by kernel_rfl) (by kernel_rfl) (fun _ _ _ h => h) (Or.inl ⟨by rfl, ?x3_h28⟩) hHeld ?x3_r28
     case x3_h28 => (intro w hSw; (try dsimp only at hSw); go_simp; all_goals with_reducible rfl)
     (try simp only [Act.put, List.setIfInBounds_toArray, List.set_cons_zero, List.set_cons_succ])
     refine wpAnyH_done (by kernel_rfl) ?_ _
     replace HB := hid (bt HB.out (bt (bt (bt (bt (bt (bt HC14.out hbr15) hbr16) hbr17) hbr18) hbr19) hbr20))
     go_wp2
     go_ret
     exact ⟨by simp, HB.out⟩
end Go.Proofs.YtikpafocankggaaGreatDoor
