/- The law RationalOf answers true. -/
import Derived.Test.YtihjaakkpnjolaaDoorRatLaw
import Derived.Test.YtihjaakkpnjolaaDoorLawProducts
namespace Go.Proofs.YtihjaakkpnjolaaDoor
open Go.RowKit Tally Go.Lib

set_option maxHeartbeats 8000000 in
set_option maxRecDepth 100000 in
theorem lawRationalOf {w : World} (num den : Int) (hs_num : -9223372036854775808 ≤ num ∧ num ≤ 9223372036854775807) (hs_den : -9223372036854775808 ≤ den ∧ den ≤ 9223372036854775807) (htab : Tab w) :
    Calls Tryd.prog 12 #[.int .i64 num, .int .i64 den] w (True1 w) := by
  have HT := Lib.hid htab
  clear htab
  obtain ⟨a1, a2⟩ := hs_num
  obtain ⟨b1, b2⟩ := hs_den
  have rq := of_fw a1 a2 b1 b2
  have rz : Rg 1 (0 : Rat) := Rg.of (fw_zero 0)
  have HZ0 := Lib.hid (show ratText 0 = ⟨#[48]⟩ from rtext_lit (l := [48]) (by decide +kernel) (by decide +kernel))
  have HI0 := Lib.hid (show (⟨(itoa (0 : Rat).num).toArray⟩ : ByteArray) = ⟨#[48]⟩ from by show (⟨(itoa 0).toArray⟩ : ByteArray) = _; rw [show itoa 0 = [48] from by have := itoa_pval pval_zero.1; rw [pval_zero.2] at this; exact this])
  have HI1 := Lib.hid (show (⟨(itoa ((0 : Rat).den : Int)).toArray⟩ : ByteArray) = ⟨#[49]⟩ from by show (⟨(itoa 1).toArray⟩ : ByteArray) = _; rw [show itoa 1 = [49] from by have := itoa_pval pval_one.1; rw [pval_one.2] at this; exact this])
  go_enter Tryd.func12, Tryd.ntmps12
  go_wp2_with fail
  (with_reducible refine (ratawake_any HT.out).mono ?_)
  rintro e w1 ⟨rfl, hb⟩
  have HB := Lib.hid hb
  replace HT := Lib.hid (HT.out.below hb)
  clear hb
  go_wp2_with fail
  (with_reducible refine (ratof_all a1 a2 b1 b2).mono ?_)
  rintro e w2 ⟨n_2, a_2, k_2, c_2, n2_2, a2_2, k2_2, c2_2, rfl, hu_2, hb⟩
  replace HB := Lib.hid (bt HB.out hb)
  replace HT := Lib.hid (HT.out.below hb)
  have HX := Lib.hid hu_2
  clear hu_2
  clear hb
  obtain ⟨c, hc⟩ : ∃ c : Int, (if den = 0 then (10 : Int) else 0) = c := ⟨_, rfl⟩
  rw [hc]
  have HCC := Lib.hid hc
  clear hc
  go_wp2_with fail
  obtain ⟨W3, hW, hs, hb, b0⟩ := alloc1 w2 (.cells #[.bool n_2, .slice a_2 k_2 c_2, .bool n2_2, .slice a2_2 k2_2 c2_2] 61)
  rw [← hW]
  replace HB := Lib.hid (bt HB.out hb)
  replace HT := Lib.hid (HT.out.below hb)
  replace HX := Lib.hid (HX.out.below hb)
  have Bx := Lib.hid b0
  clear hW hs hb b0
  (with_reducible refine (rratof_all a1 a2 b1 b2).mono ?_)
  rintro e w4 ⟨n_4, a_4, k_4, c_4, n2_4, a2_4, k2_4, c2_4, rfl, hu_4, hb⟩
  replace HB := Lib.hid (bt HB.out hb)
  replace HT := Lib.hid (HT.out.below hb)
  replace HX := Lib.hid (HX.out.below hb)
  replace Bx := Lib.hid (blk_next Bx.out hb)
  have HA := Lib.hid hu_4
  clear hu_4
  clear hb
  obtain ⟨q, hq⟩ : ∃ q, Rat.divInt num den = q := ⟨_, rfl⟩
  rw [hq] at HX HA rq
  rw [HCC.out]
  clear hq HCC
  have rq1 := rq.1
  have rq2 := rq.2
  have rz1 := rz.1
  have rz2 := rz.2
  obtain ⟨SN, hSN⟩ : ∃ s : ByteArray, (⟨(itoa q.num).toArray⟩ : ByteArray) = s := ⟨_, rfl⟩
  obtain ⟨SD, hSD⟩ : ∃ s : ByteArray, (⟨(itoa (q.den : Int)).toArray⟩ : ByteArray) = s := ⟨_, rfl⟩
  have HSN := Lib.hid hSN
  have HSD := Lib.hid hSD
  clear hSN hSD
  have lt1_x : w2.heap.size < w4.heap.size := (Array.getElem?_eq_some_iff.1 Bx.out).1
  obtain ⟨⟨cx0, cx1, cx2, cx3⟩, fx0, fx1, fx2, fx3⟩ := res4_facts Bx.out
  go_wp2_with fail
  clear cx0 cx1 cx2 cx3 fx0 fx1 fx2 fx3
  obtain ⟨W5, hW, hs, hb, b0⟩ := alloc1 w4 (.cells #[.bool n_4, .slice a_4 k_4 c_4, .bool n2_4, .slice a2_4 k2_4 c2_4] 65)
  rw [← hW]
  replace HB := Lib.hid (bt HB.out hb)
  replace HT := Lib.hid (HT.out.below hb)
  replace HX := Lib.hid (HX.out.below hb)
  replace HA := Lib.hid (HA.out.below hb)
  replace Bx := Lib.hid (blk_next Bx.out hb)
  have Ba := Lib.hid b0
  clear hW hs hb b0
  have lt2_x : w2.heap.size < W5.heap.size := (Array.getElem?_eq_some_iff.1 Bx.out).1
  have lt3_a : w4.heap.size < W5.heap.size := (Array.getElem?_eq_some_iff.1 Ba.out).1
  obtain ⟨⟨cx0, cx1, cx2, cx3⟩, fx0, fx1, fx2, fx3⟩ := res4_facts Bx.out
  obtain ⟨⟨ca0, ca1, ca2, ca3⟩, fa0, fa1, fa2, fa3⟩ := res4_facts Ba.out
  go_wp2_with fail
  clear cx0 cx1 cx2 cx3 fx0 fx1 fx2 fx3 ca0 ca1 ca2 ca3 fa0 fa1 fa2 fa3
  (with_reducible refine (parts_any HX.out).mono ?_)
  rintro e w6 ⟨n_6, a_6, k_6, c_6, n2_6, a2_6, k2_6, c2_6, rfl, hu_6, hv_6, hb⟩
  replace HB := Lib.hid (bt HB.out hb)
  replace HT := Lib.hid (HT.out.below hb)
  replace HX := Lib.hid (HX.out.below hb)
  replace HA := Lib.hid (HA.out.below hb)
  replace Bx := Lib.hid (blk_next Bx.out hb)
  replace Ba := Lib.hid (blk_next Ba.out hb)
  have HP := Lib.hid hu_6
  have HQ := Lib.hid hv_6
  clear hu_6 hv_6
  clear hb
  have lt4_x : w2.heap.size < w6.heap.size := (Array.getElem?_eq_some_iff.1 Bx.out).1
  have lt5_a : w4.heap.size < w6.heap.size := (Array.getElem?_eq_some_iff.1 Ba.out).1
  obtain ⟨⟨cx0, cx1, cx2, cx3⟩, fx0, fx1, fx2, fx3⟩ := res4_facts Bx.out
  obtain ⟨⟨ca0, ca1, ca2, ca3⟩, fa0, fa1, fa2, fa3⟩ := res4_facts Ba.out
  go_wp2_with fail
  clear cx0 cx1 cx2 cx3 fx0 fx1 fx2 fx3 ca0 ca1 ca2 ca3 fa0 fa1 fa2 fa3
  obtain ⟨W7, hW, hs, hb, b0, b1⟩ := alloc2 w6 (.cells #[.bool n_6, .slice a_6 k_6 c_6] 25) (.cells #[.bool n2_6, .slice a2_6 k2_6 c2_6] 25)
  rw [← hW]
  replace HB := Lib.hid (bt HB.out hb)
  replace HT := Lib.hid (HT.out.below hb)
  replace HX := Lib.hid (HX.out.below hb)
  replace HA := Lib.hid (HA.out.below hb)
  replace HP := Lib.hid (HP.out.below hb)
  replace HQ := Lib.hid (HQ.out.below hb)
  replace Bx := Lib.hid (blk_next Bx.out hb)
  replace Ba := Lib.hid (blk_next Ba.out hb)
  have Bp := Lib.hid b0
  have Bq := Lib.hid b1
  clear hW hs hb b0 b1
  have lt6_x : w2.heap.size < W7.heap.size := (Array.getElem?_eq_some_iff.1 Bx.out).1
  have lt7_a : w4.heap.size < W7.heap.size := (Array.getElem?_eq_some_iff.1 Ba.out).1
  have lt8_p : w6.heap.size < W7.heap.size := (Array.getElem?_eq_some_iff.1 Bp.out).1
  have lt9_q : w6.heap.size + 1 < W7.heap.size := (Array.getElem?_eq_some_iff.1 Bq.out).1
  obtain ⟨⟨cx0, cx1, cx2, cx3⟩, fx0, fx1, fx2, fx3⟩ := res4_facts Bx.out
  obtain ⟨⟨ca0, ca1, ca2, ca3⟩, fa0, fa1, fa2, fa3⟩ := res4_facts Ba.out
  go_wp2_with fail
  clear cx0 cx1 cx2 cx3 fx0 fx1 fx2 fx3 ca0 ca1 ca2 ca3 fa0 fa1 fa2 fa3
  (with_reducible refine (rparts_any HA.out).mono ?_)
  rintro e w8 ⟨n_8, a_8, k_8, c_8, n2_8, a2_8, k2_8, c2_8, rfl, hu_8, hv_8, hb⟩
  replace HB := Lib.hid (bt HB.out hb)
  replace HT := Lib.hid (HT.out.below hb)
  replace HX := Lib.hid (HX.out.below hb)
  replace HA := Lib.hid (HA.out.below hb)
  replace HP := Lib.hid (HP.out.below hb)
  replace HQ := Lib.hid (HQ.out.below hb)
  replace Bx := Lib.hid (blk_next Bx.out hb)
  replace Ba := Lib.hid (blk_next Ba.out hb)
  replace Bp := Lib.hid (blk_next Bp.out hb)
  replace Bq := Lib.hid (blk_next Bq.out hb)
  have HC := Lib.hid hu_8
  have HD := Lib.hid hv_8
  clear hu_8 hv_8
  clear hb
  have lt10_x : w2.heap.size < w8.heap.size := (Array.getElem?_eq_some_iff.1 Bx.out).1
  have lt11_a : w4.heap.size < w8.heap.size := (Array.getElem?_eq_some_iff.1 Ba.out).1
  have lt12_p : w6.heap.size < w8.heap.size := (Array.getElem?_eq_some_iff.1 Bp.out).1
  have lt13_q : w6.heap.size + 1 < w8.heap.size := (Array.getElem?_eq_some_iff.1 Bq.out).1
  obtain ⟨⟨cx0, cx1, cx2, cx3⟩, fx0, fx1, fx2, fx3⟩ := res4_facts Bx.out
  obtain ⟨⟨ca0, ca1, ca2, ca3⟩, fa0, fa1, fa2, fa3⟩ := res4_facts Ba.out
  obtain ⟨cp0, cp1, fp0, fp1⟩ := res_facts Bp.out
  obtain ⟨cq0, cq1, fq0, fq1⟩ := res_facts Bq.out
  go_wp2_with fail
  clear cx0 cx1 cx2 cx3 fx0 fx1 fx2 fx3 ca0 ca1 ca2 ca3 fa0 fa1 fa2 fa3 cp0 cp1 fp0 fp1 cq0 cq1 fq0 fq1
  obtain ⟨W9, hW, hs, hb, b0, b1⟩ := alloc2 w8 (.cells #[.bool n_8, .slice a_8 k_8 c_8] 28) (.cells #[.bool n2_8, .slice a2_8 k2_8 c2_8] 28)
  rw [← hW]
  replace HB := Lib.hid (bt HB.out hb)
  replace HT := Lib.hid (HT.out.below hb)
  replace HX := Lib.hid (HX.out.below hb)
  replace HA := Lib.hid (HA.out.below hb)
  replace HP := Lib.hid (HP.out.below hb)
  replace HQ := Lib.hid (HQ.out.below hb)
  replace HC := Lib.hid (HC.out.below hb)
  replace HD := Lib.hid (HD.out.below hb)
  replace Bx := Lib.hid (blk_next Bx.out hb)
  replace Ba := Lib.hid (blk_next Ba.out hb)
  replace Bp := Lib.hid (blk_next Bp.out hb)
  replace Bq := Lib.hid (blk_next Bq.out hb)
  have Bc := Lib.hid b0
  have Bd := Lib.hid b1
  clear hW hs hb b0 b1
  go_wp2_with fail
  (with_reducible refine (parts_any (ratR_zero W9)).mono ?_)
  rintro e w10 ⟨n_10, a_10, k_10, c_10, n2_10, a2_10, k2_10, c2_10, rfl, hu_10, hv_10, hb⟩
  replace HB := Lib.hid (bt HB.out hb)
  replace HT := Lib.hid (HT.out.below hb)
  replace HX := Lib.hid (HX.out.below hb)
  replace HA := Lib.hid (HA.out.below hb)
  replace HP := Lib.hid (HP.out.below hb)
  replace HQ := Lib.hid (HQ.out.below hb)
  replace HC := Lib.hid (HC.out.below hb)
  replace HD := Lib.hid (HD.out.below hb)
  replace Bx := Lib.hid (blk_next Bx.out hb)
  replace Ba := Lib.hid (blk_next Ba.out hb)
  replace Bp := Lib.hid (blk_next Bp.out hb)
  replace Bq := Lib.hid (blk_next Bq.out hb)
  replace Bc := Lib.hid (blk_next Bc.out hb)
  replace Bd := Lib.hid (blk_next Bd.out hb)
  have HN := Lib.hid hu_10
  have HM := Lib.hid hv_10
  clear hu_10 hv_10
  clear hb
  have lt14_x : w2.heap.size < w10.heap.size := (Array.getElem?_eq_some_iff.1 Bx.out).1
  have lt15_a : w4.heap.size < w10.heap.size := (Array.getElem?_eq_some_iff.1 Ba.out).1
  have lt16_p : w6.heap.size < w10.heap.size := (Array.getElem?_eq_some_iff.1 Bp.out).1
  have lt17_q : w6.heap.size + 1 < w10.heap.size := (Array.getElem?_eq_some_iff.1 Bq.out).1
  have lt18_c : w8.heap.size < w10.heap.size := (Array.getElem?_eq_some_iff.1 Bc.out).1
  have lt19_d : w8.heap.size + 1 < w10.heap.size := (Array.getElem?_eq_some_iff.1 Bd.out).1
  obtain ⟨⟨cx0, cx1, cx2, cx3⟩, fx0, fx1, fx2, fx3⟩ := res4_facts Bx.out
  obtain ⟨⟨ca0, ca1, ca2, ca3⟩, fa0, fa1, fa2, fa3⟩ := res4_facts Ba.out
  obtain ⟨cp0, cp1, fp0, fp1⟩ := res_facts Bp.out
  obtain ⟨cq0, cq1, fq0, fq1⟩ := res_facts Bq.out
  obtain ⟨cc0, cc1, fc0, fc1⟩ := res_facts Bc.out
  obtain ⟨cd0, cd1, fd0, fd1⟩ := res_facts Bd.out
  go_wp2_with fail
  clear cx0 cx1 cx2 cx3 fx0 fx1 fx2 fx3 ca0 ca1 ca2 ca3 fa0 fa1 fa2 fa3 cp0 cp1 fp0 fp1 cq0 cq1 fq0 fq1 cc0 cc1 fc0 fc1 cd0 cd1 fd0 fd1
  obtain ⟨W11, hW, hs, hb, b0, b1⟩ := alloc2 w10 (.cells #[.bool n_10, .slice a_10 k_10 c_10] 25) (.cells #[.bool n2_10, .slice a2_10 k2_10 c2_10] 25)
  rw [← hW]
  replace HB := Lib.hid (bt HB.out hb)
  replace HT := Lib.hid (HT.out.below hb)
  replace HX := Lib.hid (HX.out.below hb)
  replace HA := Lib.hid (HA.out.below hb)
  replace HP := Lib.hid (HP.out.below hb)
  replace HQ := Lib.hid (HQ.out.below hb)
  replace HC := Lib.hid (HC.out.below hb)
  replace HD := Lib.hid (HD.out.below hb)
  replace HN := Lib.hid (HN.out.below hb)
  replace HM := Lib.hid (HM.out.below hb)
  replace Bx := Lib.hid (blk_next Bx.out hb)
  replace Ba := Lib.hid (blk_next Ba.out hb)
  replace Bp := Lib.hid (blk_next Bp.out hb)
  replace Bq := Lib.hid (blk_next Bq.out hb)
  replace Bc := Lib.hid (blk_next Bc.out hb)
  replace Bd := Lib.hid (blk_next Bd.out hb)
  have Bn := Lib.hid b0
  have Bm := Lib.hid b1
  clear hW hs hb b0 b1
  have lt20_x : w2.heap.size < W11.heap.size := (Array.getElem?_eq_some_iff.1 Bx.out).1
  have lt21_a : w4.heap.size < W11.heap.size := (Array.getElem?_eq_some_iff.1 Ba.out).1
  have lt22_p : w6.heap.size < W11.heap.size := (Array.getElem?_eq_some_iff.1 Bp.out).1
  have lt23_q : w6.heap.size + 1 < W11.heap.size := (Array.getElem?_eq_some_iff.1 Bq.out).1
  have lt24_c : w8.heap.size < W11.heap.size := (Array.getElem?_eq_some_iff.1 Bc.out).1
  have lt25_d : w8.heap.size + 1 < W11.heap.size := (Array.getElem?_eq_some_iff.1 Bd.out).1
  have lt26_n : w10.heap.size < W11.heap.size := (Array.getElem?_eq_some_iff.1 Bn.out).1
  have lt27_m : w10.heap.size + 1 < W11.heap.size := (Array.getElem?_eq_some_iff.1 Bm.out).1
  obtain ⟨⟨cx0, cx1, cx2, cx3⟩, fx0, fx1, fx2, fx3⟩ := res4_facts Bx.out
  obtain ⟨⟨ca0, ca1, ca2, ca3⟩, fa0, fa1, fa2, fa3⟩ := res4_facts Ba.out
  obtain ⟨cp0, cp1, fp0, fp1⟩ := res_facts Bp.out
  obtain ⟨cc0, cc1, fc0, fc1⟩ := res_facts Bc.out
  obtain ⟨cq0, cq1, fq0, fq1⟩ := res_facts Bq.out
  obtain ⟨cd0, cd1, fd0, fd1⟩ := res_facts Bd.out
  obtain ⟨cn0, cn1, fn0, fn1⟩ := res_facts Bn.out
  obtain ⟨cm0, cm1, fm0, fm1⟩ := res_facts Bm.out
  have HL12 := Lib.hid (fun (w' : World) (hb : Below W11.heap.size W11 w') => (⟨hb, keepc hb cx0, keepc hb cx1, keepc hb cx2, keepc hb cx3, keepc hb ca0, keepc hb ca1, keepc hb ca2, keepc hb ca3, keepc hb cp0, keepc hb cp1, keepc hb cc0, keepc hb cc1, keepc hb cq0, keepc hb cq1, keepc hb cd0, keepc hb cd1, keepc hb cn0, keepc hb cn1, keepc hb cm0, keepc hb cm1⟩ : Below W11.heap.size W11 w' ∧ w'.cell? ⟨w2.heap.size, 0, none⟩ = some (.bool n_2) ∧ w'.cell? ⟨w2.heap.size, 1, none⟩ = some (.slice a_2 k_2 c_2) ∧ w'.cell? ⟨w2.heap.size, 2, none⟩ = some (.bool n2_2) ∧ w'.cell? ⟨w2.heap.size, 3, none⟩ = some (.slice a2_2 k2_2 c2_2) ∧ w'.cell? ⟨w4.heap.size, 0, none⟩ = some (.bool n_4) ∧ w'.cell? ⟨w4.heap.size, 1, none⟩ = some (.slice a_4 k_4 c_4) ∧ w'.cell? ⟨w4.heap.size, 2, none⟩ = some (.bool n2_4) ∧ w'.cell? ⟨w4.heap.size, 3, none⟩ = some (.slice a2_4 k2_4 c2_4) ∧ w'.cell? ⟨w6.heap.size, 0, none⟩ = some (.bool n_6) ∧ w'.cell? ⟨w6.heap.size, 1, none⟩ = some (.slice a_6 k_6 c_6) ∧ w'.cell? ⟨w8.heap.size, 0, none⟩ = some (.bool n_8) ∧ w'.cell? ⟨w8.heap.size, 1, none⟩ = some (.slice a_8 k_8 c_8) ∧ w'.cell? ⟨w6.heap.size + 1, 0, none⟩ = some (.bool n2_6) ∧ w'.cell? ⟨w6.heap.size + 1, 1, none⟩ = some (.slice a2_6 k2_6 c2_6) ∧ w'.cell? ⟨w8.heap.size + 1, 0, none⟩ = some (.bool n2_8) ∧ w'.cell? ⟨w8.heap.size + 1, 1, none⟩ = some (.slice a2_8 k2_8 c2_8) ∧ w'.cell? ⟨w10.heap.size, 0, none⟩ = some (.bool n_10) ∧ w'.cell? ⟨w10.heap.size, 1, none⟩ = some (.slice a_10 k_10 c_10) ∧ w'.cell? ⟨w10.heap.size + 1, 0, none⟩ = some (.bool n2_10) ∧ w'.cell? ⟨w10.heap.size + 1, 1, none⟩ = some (.slice a2_10 k2_10 c2_10)))
  have HI12 := Lib.hid (fun (w' : World) (hs : Below W11.heap.size W11 w' ∧ w'.cell? ⟨w2.heap.size, 0, none⟩ = some (.bool n_2) ∧ w'.cell? ⟨w2.heap.size, 1, none⟩ = some (.slice a_2 k_2 c_2) ∧ w'.cell? ⟨w2.heap.size, 2, none⟩ = some (.bool n2_2) ∧ w'.cell? ⟨w2.heap.size, 3, none⟩ = some (.slice a2_2 k2_2 c2_2) ∧ w'.cell? ⟨w4.heap.size, 0, none⟩ = some (.bool n_4) ∧ w'.cell? ⟨w4.heap.size, 1, none⟩ = some (.slice a_4 k_4 c_4) ∧ w'.cell? ⟨w4.heap.size, 2, none⟩ = some (.bool n2_4) ∧ w'.cell? ⟨w4.heap.size, 3, none⟩ = some (.slice a2_4 k2_4 c2_4) ∧ w'.cell? ⟨w6.heap.size, 0, none⟩ = some (.bool n_6) ∧ w'.cell? ⟨w6.heap.size, 1, none⟩ = some (.slice a_6 k_6 c_6) ∧ w'.cell? ⟨w8.heap.size, 0, none⟩ = some (.bool n_8) ∧ w'.cell? ⟨w8.heap.size, 1, none⟩ = some (.slice a_8 k_8 c_8) ∧ w'.cell? ⟨w6.heap.size + 1, 0, none⟩ = some (.bool n2_6) ∧ w'.cell? ⟨w6.heap.size + 1, 1, none⟩ = some (.slice a2_6 k2_6 c2_6) ∧ w'.cell? ⟨w8.heap.size + 1, 0, none⟩ = some (.bool n2_8) ∧ w'.cell? ⟨w8.heap.size + 1, 1, none⟩ = some (.slice a2_8 k2_8 c2_8) ∧ w'.cell? ⟨w10.heap.size, 0, none⟩ = some (.bool n_10) ∧ w'.cell? ⟨w10.heap.size, 1, none⟩ = some (.slice a_10 k_10 c_10) ∧ w'.cell? ⟨w10.heap.size + 1, 0, none⟩ = some (.bool n2_10) ∧ w'.cell? ⟨w10.heap.size + 1, 1, none⟩ = some (.slice a2_10 k2_10 c2_10)) => hs.1)
  have HS12 := Lib.hid (Below.refl W11.heap.size W11)
  have HC12 := Lib.hid (Below.drew (Below.refl W11.heap.size W11))
  go_region_held3 (fun w' => Below W11.heap.size W11 w' ∧ w'.cell? ⟨w2.heap.size, 0, none⟩ = some (.bool n_2) ∧ w'.cell? ⟨w2.heap.size, 1, none⟩ = some (.slice a_2 k_2 c_2) ∧ w'.cell? ⟨w2.heap.size, 2, none⟩ = some (.bool n2_2) ∧ w'.cell? ⟨w2.heap.size, 3, none⟩ = some (.slice a2_2 k2_2 c2_2) ∧ w'.cell? ⟨w4.heap.size, 0, none⟩ = some (.bool n_4) ∧ w'.cell? ⟨w4.heap.size, 1, none⟩ = some (.slice a_4 k_4 c_4) ∧ w'.cell? ⟨w4.heap.size, 2, none⟩ = some (.bool n2_4) ∧ w'.cell? ⟨w4.heap.size, 3, none⟩ = some (.slice a2_4 k2_4 c2_4) ∧ w'.cell? ⟨w6.heap.size, 0, none⟩ = some (.bool n_6) ∧ w'.cell? ⟨w6.heap.size, 1, none⟩ = some (.slice a_6 k_6 c_6) ∧ w'.cell? ⟨w8.heap.size, 0, none⟩ = some (.bool n_8) ∧ w'.cell? ⟨w8.heap.size, 1, none⟩ = some (.slice a_8 k_8 c_8) ∧ w'.cell? ⟨w6.heap.size + 1, 0, none⟩ = some (.bool n2_6) ∧ w'.cell? ⟨w6.heap.size + 1, 1, none⟩ = some (.slice a2_6 k2_6 c2_6) ∧ w'.cell? ⟨w8.heap.size + 1, 0, none⟩ = some (.bool n2_8) ∧ w'.cell? ⟨w8.heap.size + 1, 1, none⟩ = some (.slice a2_8 k2_8 c2_8) ∧ w'.cell? ⟨w10.heap.size, 0, none⟩ = some (.bool n_10) ∧ w'.cell? ⟨w10.heap.size, 1, none⟩ = some (.slice a_10 k_10 c_10) ∧ w'.cell? ⟨w10.heap.size + 1, 0, none⟩ = some (.bool n2_10) ∧ w'.cell? ⟨w10.heap.size + 1, 1, none⟩ = some (.slice a2_10 k2_10 c2_10))
    (first | exact HL12.out _ (Below.drew HS12.out) | exact HL12.out _ (bt (HI12.out _ (by assumption)) (by assumption)))
    (first | (go_at_call 49; (with_reducible refine (ratsame_any (HX.out.below (HI12.out _ (by assumption))) (HA.out.below (HI12.out _ (by assumption))) (HT.out.below (HI12.out _ (by assumption))) rq (by omega)).mono ?_); rintro e w13 ⟨rfl, hbr13⟩) | (go_at_call 24; (with_reducible refine (text_any (HP.out.below (HI12.out _ (by assumption))) (HT.out.below (HI12.out _ (by assumption))) rq1 (by omega)).mono ?_); rintro e w14 ⟨rfl, hbr14⟩; rw [HSN.out]) | (go_at_call 50; (with_reducible refine (rtext_any (HC.out.below (HI12.out _ (by assumption))) rq1 (by omega)).mono ?_); rintro e w15 ⟨rfl, hbr15⟩; rw [HSN.out]) | (go_at_call 24; (with_reducible refine (text_any (HQ.out.below (HI12.out _ (by assumption))) (HT.out.below (HI12.out _ (by assumption))) rq2 (by omega)).mono ?_); rintro e w16 ⟨rfl, hbr16⟩; rw [HSD.out]) | (go_at_call 50; (with_reducible refine (rtext_any (HD.out.below (HI12.out _ (by assumption))) rq2 (by omega)).mono ?_); rintro e w17 ⟨rfl, hbr17⟩; rw [HSD.out]) | (go_at_call 51; (with_reducible refine (ratsign_any (HX.out.below (HI12.out _ (by assumption)))).mono ?_); rintro e w18 ⟨rfl, hbr18⟩) | (go_at_call 52; (with_reducible refine (rratsign_any (HA.out.below (HI12.out _ (by assumption)))).mono ?_); rintro e w19 ⟨rfl, hbr19⟩) | (go_at_call 24; (with_reducible refine (text_any (HN.out.below (HI12.out _ (by assumption))) (HT.out.below (HI12.out _ (by assumption))) rz1 (by omega)).mono ?_); rintro e w20 ⟨rfl, hbr20⟩; rw [HI0.out]) | (go_at_call 24; (with_reducible refine (text_any (HM.out.below (HI12.out _ (by assumption))) (HT.out.below (HI12.out _ (by assumption))) rz2 (by omega)).mono ?_); rintro e w21 ⟨rfl, hbr21⟩; rw [HI1.out]) | (go_at_call 53; (with_reducible refine (rattext_any (ratR_zero _) (HT.out.below (HI12.out _ (by assumption))) rz (by omega)).mono ?_); rintro e w22 ⟨rfl, hbr22⟩; rw [HZ0.out]))
  clear cx0 cx1 cx2 cx3 fx0 fx1 fx2 fx3 ca0 ca1 ca2 ca3 fa0 fa1 fa2 fa3 cp0 cp1 fp0 fp1 cc0 cc1 fc0 fc1 cq0 cq1 fq0 fq1 cd0 cd1 fd0 fd1 cn0 cn1 fn0 fn1 cm0 cm1 fm0 fm1
  have hbR := (bt (bt (bt (bt (bt (bt (bt (bt (bt (bt HC12.out hbr13) hbr14) hbr15) hbr16) hbr17) hbr18) hbr19) hbr20) hbr21) hbr22)
  replace HT := Lib.hid (HT.out.below hbR)
  replace HX := Lib.hid (HX.out.below hbR)
  replace HA := Lib.hid (HA.out.below hbR)
  replace HP := Lib.hid (HP.out.below hbR)
  replace HQ := Lib.hid (HQ.out.below hbR)
  replace HC := Lib.hid (HC.out.below hbR)
  replace HD := Lib.hid (HD.out.below hbR)
  replace HN := Lib.hid (HN.out.below hbR)
  replace HM := Lib.hid (HM.out.below hbR)
  replace HB := Lib.hid (bt HB.out hbR)
  replace Bx := Lib.hid (blk_next Bx.out hbR)
  replace Ba := Lib.hid (blk_next Ba.out hbR)
  replace Bp := Lib.hid (blk_next Bp.out hbR)
  replace Bq := Lib.hid (blk_next Bq.out hbR)
  replace Bc := Lib.hid (blk_next Bc.out hbR)
  replace Bd := Lib.hid (blk_next Bd.out hbR)
  replace Bn := Lib.hid (blk_next Bn.out hbR)
  replace Bm := Lib.hid (blk_next Bm.out hbR)
  clear hbR hbr13 hbr14 hbr15 hbr16 hbr17 hbr18 hbr19 hbr20 hbr21 hbr22
  go_wp2
  go_ret
  exact ⟨by simp, HB.out⟩

end Go.Proofs.YtihjaakkpnjolaaDoor
