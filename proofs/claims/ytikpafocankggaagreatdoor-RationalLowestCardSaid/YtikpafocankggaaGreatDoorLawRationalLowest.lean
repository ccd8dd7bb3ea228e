/- The law RationalLowest answers true. -/
import Derived.Test.YtikpafocankggaaGreatDoorRatEqual
import Derived.Test.YtikpafocankggaaGreatDoorAllocCut
import Derived.Test.YtikpafocankggaaGreatDoorParse
import Derived.Deep.DeepCutAuto
namespace Go.Proofs.YtikpafocankggaaGreatDoor
open Go.RowKit Tally Go.Lib

set_option maxHeartbeats 8000000 in
set_option maxRecDepth 100000 in
theorem lawRationalLowest {w : World} (s : ByteArray) (t : ByteArray) (hs_s : s.size ≤ 9223372036854775807) (hs_t : t.size ≤ 9223372036854775807) (htab : Tab w) (hlen : Mlen w) :
    Calls Tryz.prog 7 #[.string s, .string t] w (True1 w) := by
  have HT := Lib.hid htab
  have HML := Lib.hid hlen
  clear htab hlen
  go_enter Tryz.func7, Tryz.ntmps7
  go_wp2_with fail
  (with_reducible refine (ratawake_any HT.out).mono ?_)
  rintro e w1 ⟨rfl, hb⟩
  have HB := Lib.hid hb
  replace HT := Lib.hid (HT.out.below hb)
  replace HML := Lib.hid (HML.out.below hb)
  clear hb
  go_wp2_with fail
  (with_reducible refine (ratboth_any s ⟨#[48]⟩ hs_s (by decide) HML.out).mono ?_)
  rintro e w2 ⟨n0_2, a0_2, k0_2, c0_2, n1_2, a1_2, k1_2, c1_2, n2_2, a2_2, k2_2, c2_2, n3_2, a3_2, k3_2, c3_2, n4_2, a4_2, k4_2, c4_2, n5_2, a5_2, k5_2, c5_2, n6_2, a6_2, k6_2, c6_2, n7_2, a7_2, k7_2, c7_2, ok2, rfl, hok2, hb⟩
  have HOK2 := Lib.hid hok2
  clear hok2
  replace HB := Lib.hid (bt HB.out hb)
  replace HT := Lib.hid (HT.out.below hb)
  replace HML := Lib.hid (HML.out.below hb)
  clear hb
  cases ok2
  · go_wp2
    go_ret
    exact ⟨rfl, bt HB.out (allocs_below4 _ _ _ _ _ )⟩
  · skip
    obtain ⟨s4_2, -, -, -, h0_2, -, -, -⟩ := HOK2.out rfl
    clear HOK2
    have HX := Lib.hid h0_2
    clear h0_2
    have rx : Rg 400 (qval s.data.toList) := rg_qval s4_2 (by decide)
    generalize qval s.data.toList = x at *
    clear s4_2
    by_cases hbig : t.size ≤ 100
    · skip
      have hz : ¬ (100 : Int) < (t.size : Int) := by omega
      go_wp2_with fail
      obtain ⟨W3, hW, hs, hb, b0, b1, b2, b3⟩ := alloc4 w2 (.cells #[.bool n0_2, .slice a0_2 k0_2 c0_2, .bool n1_2, .slice a1_2 k1_2 c1_2] 27) (.cells #[.bool n2_2, .slice a2_2 k2_2 c2_2, .bool n3_2, .slice a3_2 k3_2 c3_2] 27) (.cells #[.bool n4_2, .slice a4_2 k4_2 c4_2, .bool n5_2, .slice a5_2 k5_2 c5_2] 32) (.cells #[.bool n6_2, .slice a6_2 k6_2 c6_2, .bool n7_2, .slice a7_2 k7_2 c7_2] 32)
      rw [← hW]
      replace HB := Lib.hid (bt HB.out hb)
      replace HT := Lib.hid (HT.out.below hb)
      replace HML := Lib.hid (HML.out.below hb)
      replace HX := Lib.hid (HX.out.below hb)
      have Bx := Lib.hid b0
      have Bzz1 := Lib.hid b1
      have Bzz2 := Lib.hid b2
      have Bzz3 := Lib.hid b3
      clear hW hs hb b0 b1 b2 b3
      clear Bzz1
      clear Bzz2
      clear Bzz3
      obtain ⟨k, hk⟩ : ∃ k, pval t.data.toList = k := ⟨_, rfl⟩
      have dgk : Dg 100 k := hk ▸ dg_of hbig
      have HK0 := Lib.hid hk
      clear hk hz hbig
      obtain ⟨c, hc⟩ : ∃ zz, pcode t.data.toList = zz := ⟨_, rfl⟩
      have HC := Lib.hid hc
      clear hc
      have HGC := Lib.hid (show ((x.num.gcd (x.den : Int) : Nat) : Int) = 1 from by rw [lowest x]; rfl)
      have dgn := dg_num rx
      have dgd := dg_den rx
      have HSG := Lib.hid (show (x.den : Int).sign = 1 from Int.sign_eq_one_of_pos (by have := x.den_pos; omega))
      have HT1 := Lib.hid (show (⟨(itoa 1).toArray⟩ : ByteArray) = ⟨#[49]⟩ from by decide +kernel)
      have dg1 : Dg 1 (1 : Int) := by unfold Dg; decide
      have lt1_x : w2.heap.size < W3.heap.size := (Array.getElem?_eq_some_iff.1 Bx.out).1
      obtain ⟨⟨cx0, cx1, cx2, cx3⟩, fx0, fx1, fx2, fx3⟩ := res4_facts Bx.out
      go_wp2_with fail
      clear cx0 cx1 cx2 cx3 fx0 fx1 fx2 fx3
      (with_reducible refine (parts_any HX.out).mono ?_)
      rintro e w4 ⟨n_4, a_4, k_4, c_4, n2_4, a2_4, k2_4, c2_4, rfl, hu_4, hv_4, hb⟩
      replace HB := Lib.hid (bt HB.out hb)
      replace HT := Lib.hid (HT.out.below hb)
      replace HML := Lib.hid (HML.out.below hb)
      replace HX := Lib.hid (HX.out.below hb)
      replace Bx := Lib.hid (blk_next Bx.out hb)
      have HN := Lib.hid hu_4
      have HD := Lib.hid hv_4
      clear hu_4 hv_4
      clear hb
      go_wp2_with fail
      have lt2_x : w2.heap.size < w4.heap.size := (Array.getElem?_eq_some_iff.1 Bx.out).1
      obtain ⟨W5, hW, hs, hb, b0, b1⟩ := alloc2 w4 (.cells #[.bool n_4, .slice a_4 k_4 c_4] 25) (.cells #[.bool n2_4, .slice a2_4 k2_4 c2_4] 25)
      rw [← hW]
      replace HB := Lib.hid (bt HB.out hb)
      replace HT := Lib.hid (HT.out.below hb)
      replace HML := Lib.hid (HML.out.below hb)
      replace HX := Lib.hid (HX.out.below hb)
      replace HN := Lib.hid (HN.out.below hb)
      replace HD := Lib.hid (HD.out.below hb)
      replace Bx := Lib.hid (blk_next Bx.out hb)
      have Bn := Lib.hid b0
      have Bd := Lib.hid b1
      clear hW hs hb b0 b1
      (with_reducible refine (parse_any t hs_t).mono ?_)
      rintro e w6 ⟨n_6, a_6, k_6, c_6, rfl, hu_6, hb⟩
      replace HB := Lib.hid (bt HB.out hb)
      replace HT := Lib.hid (HT.out.below hb)
      replace HML := Lib.hid (HML.out.below hb)
      replace HX := Lib.hid (HX.out.below hb)
      replace HN := Lib.hid (HN.out.below hb)
      replace HD := Lib.hid (HD.out.below hb)
      replace Bx := Lib.hid (blk_next Bx.out hb)
      replace Bn := Lib.hid (blk_next Bn.out hb)
      replace Bd := Lib.hid (blk_next Bd.out hb)
      have HK := Lib.hid hu_6
      clear hu_6
      clear hb
      rw [HC.out]
      rw [HK0.out] at HK
      have lt3_x : w2.heap.size < w6.heap.size := (Array.getElem?_eq_some_iff.1 Bx.out).1
      have lt4_n : w4.heap.size < w6.heap.size := (Array.getElem?_eq_some_iff.1 Bn.out).1
      have lt5_d : w4.heap.size + 1 < w6.heap.size := (Array.getElem?_eq_some_iff.1 Bd.out).1
      obtain ⟨cd0, cd1, fd0, fd1⟩ := res_facts Bd.out
      go_wp2_with fail
      clear cd0 cd1 fd0 fd1
      obtain ⟨W7, hW, hs, hb, b0⟩ := alloc1 w6 (.cells #[.bool n_6, .slice a_6 k_6 c_6] 25)
      rw [← hW]
      replace HB := Lib.hid (bt HB.out hb)
      replace HT := Lib.hid (HT.out.below hb)
      replace HML := Lib.hid (HML.out.below hb)
      replace HX := Lib.hid (HX.out.below hb)
      replace HN := Lib.hid (HN.out.below hb)
      replace HD := Lib.hid (HD.out.below hb)
      replace HK := Lib.hid (HK.out.below hb)
      replace Bx := Lib.hid (blk_next Bx.out hb)
      replace Bn := Lib.hid (blk_next Bn.out hb)
      replace Bd := Lib.hid (blk_next Bd.out hb)
      have Bk := Lib.hid b0
      clear hW hs hb b0
      (with_reducible refine (sign_any HD.out).mono ?_)
      rintro e w8 ⟨rfl, hb⟩
      replace HB := Lib.hid (bt HB.out hb)
      replace HT := Lib.hid (HT.out.below hb)
      replace HML := Lib.hid (HML.out.below hb)
      replace HX := Lib.hid (HX.out.below hb)
      replace HN := Lib.hid (HN.out.below hb)
      replace HD := Lib.hid (HD.out.below hb)
      replace HK := Lib.hid (HK.out.below hb)
      replace Bx := Lib.hid (blk_next Bx.out hb)
      replace Bn := Lib.hid (blk_next Bn.out hb)
      replace Bd := Lib.hid (blk_next Bd.out hb)
      replace Bk := Lib.hid (blk_next Bk.out hb)
      clear hb
      rw [HSG.out]
      have lt6_x : w2.heap.size < w8.heap.size := (Array.getElem?_eq_some_iff.1 Bx.out).1
      have lt7_n : w4.heap.size < w8.heap.size := (Array.getElem?_eq_some_iff.1 Bn.out).1
      have lt8_d : w4.heap.size + 1 < w8.heap.size := (Array.getElem?_eq_some_iff.1 Bd.out).1
      have lt9_k : w6.heap.size < w8.heap.size := (Array.getElem?_eq_some_iff.1 Bk.out).1
      obtain ⟨cn0, cn1, fn0, fn1⟩ := res_facts Bn.out
      obtain ⟨cd0, cd1, fd0, fd1⟩ := res_facts Bd.out
      go_wp2_with fail
      clear cn0 cn1 fn0 fn1 cd0 cd1 fd0 fd1
      (with_reducible refine (gcd_any HN.out HD.out dgn dgd (by decide)).mono ?_)
      rintro e w9 ⟨n_9, a_9, k_9, c_9, rfl, hu_9, hb⟩
      replace HB := Lib.hid (bt HB.out hb)
      replace HT := Lib.hid (HT.out.below hb)
      replace HML := Lib.hid (HML.out.below hb)
      replace HX := Lib.hid (HX.out.below hb)
      replace HN := Lib.hid (HN.out.below hb)
      replace HD := Lib.hid (HD.out.below hb)
      replace HK := Lib.hid (HK.out.below hb)
      replace Bx := Lib.hid (blk_next Bx.out hb)
      replace Bn := Lib.hid (blk_next Bn.out hb)
      replace Bd := Lib.hid (blk_next Bd.out hb)
      replace Bk := Lib.hid (blk_next Bk.out hb)
      have HG := Lib.hid hu_9
      clear hu_9
      clear hb
      go_wp2_with fail
      (with_reducible refine (text_any (HG.out.as HGC.out) HT.out dg1 (by decide)).mono ?_)
      rintro e w10 ⟨rfl, hb⟩
      replace HB := Lib.hid (bt HB.out hb)
      replace HT := Lib.hid (HT.out.below hb)
      replace HML := Lib.hid (HML.out.below hb)
      replace HX := Lib.hid (HX.out.below hb)
      replace HN := Lib.hid (HN.out.below hb)
      replace HD := Lib.hid (HD.out.below hb)
      replace HK := Lib.hid (HK.out.below hb)
      replace HG := Lib.hid (HG.out.below hb)
      replace Bx := Lib.hid (blk_next Bx.out hb)
      replace Bn := Lib.hid (blk_next Bn.out hb)
      replace Bd := Lib.hid (blk_next Bd.out hb)
      replace Bk := Lib.hid (blk_next Bk.out hb)
      clear hb
      rw [HT1.out]
      by_cases hc0 : c = 0
      · skip
        subst hc0
        have lt10_x : w2.heap.size < w10.heap.size := (Array.getElem?_eq_some_iff.1 Bx.out).1
        have lt11_n : w4.heap.size < w10.heap.size := (Array.getElem?_eq_some_iff.1 Bn.out).1
        have lt12_d : w4.heap.size + 1 < w10.heap.size := (Array.getElem?_eq_some_iff.1 Bd.out).1
        have lt13_k : w6.heap.size < w10.heap.size := (Array.getElem?_eq_some_iff.1 Bk.out).1
        obtain ⟨ck0, ck1, fk0, fk1⟩ := res_facts Bk.out
        go_wp2_with fail
        clear ck0 ck1 fk0 fk1
        (with_reducible refine (sign_any HK.out).mono ?_)
        rintro e w11 ⟨rfl, hb⟩
        replace HB := Lib.hid (bt HB.out hb)
        replace HT := Lib.hid (HT.out.below hb)
        replace HML := Lib.hid (HML.out.below hb)
        replace HX := Lib.hid (HX.out.below hb)
        replace HN := Lib.hid (HN.out.below hb)
        replace HD := Lib.hid (HD.out.below hb)
        replace HK := Lib.hid (HK.out.below hb)
        replace HG := Lib.hid (HG.out.below hb)
        replace Bx := Lib.hid (blk_next Bx.out hb)
        replace Bn := Lib.hid (blk_next Bn.out hb)
        replace Bd := Lib.hid (blk_next Bd.out hb)
        replace Bk := Lib.hid (blk_next Bk.out hb)
        clear hb
        by_cases hk0 : k = 0
        · subst hk0
          rw [show Int.sign 0 = 0 from rfl]
          go_wp2
          go_ret
          exact ⟨by simp, HB.out⟩
        · have hks : (k.sign == 0) = false := by
                    rw [beq_eq_false_iff_ne]
                    intro e
                    exact hk0 (Int.sign_eq_zero_iff_zero.1 e)
          have HSR := Lib.hid (same_ratio x hk0)
          have hdk : (x.den : Int) * k ≠ 0 := Int.mul_ne_zero (by have := x.den_pos; omega) hk0
          have dgnk : Dg 500 (x.num * k) := (Dg.mul dgn dgk).mono (by decide)
          have dgdk : Dg 500 ((x.den : Int) * k) := (Dg.mul dgd dgk).mono (by decide)
          have HDK := Lib.hid hdk
          clear hk0 hdk
          have lt14_x : w2.heap.size < w11.heap.size := (Array.getElem?_eq_some_iff.1 Bx.out).1
          have lt15_n : w4.heap.size < w11.heap.size := (Array.getElem?_eq_some_iff.1 Bn.out).1
          have lt16_d : w4.heap.size + 1 < w11.heap.size := (Array.getElem?_eq_some_iff.1 Bd.out).1
          have lt17_k : w6.heap.size < w11.heap.size := (Array.getElem?_eq_some_iff.1 Bk.out).1
          obtain ⟨cn0, cn1, fn0, fn1⟩ := res_facts Bn.out
          obtain ⟨ck0, ck1, fk0, fk1⟩ := res_facts Bk.out
          obtain ⟨cd0, cd1, fd0, fd1⟩ := res_facts Bd.out
          go_wp2_with fail
          clear cn0 cn1 fn0 fn1 ck0 ck1 fk0 fk1 cd0 cd1 fd0 fd1
          obtain ⟨cn0, cn1, fn0, fn1⟩ := res_facts Bn.out
          obtain ⟨ck0, ck1, fk0, fk1⟩ := res_facts Bk.out
          obtain ⟨cd0, cd1, fd0, fd1⟩ := res_facts Bd.out
          go_cut [14, 15] (fun s14 s15 wx => s15 = .int .i64 0 ∧ BlkR w11.heap.size 27 (Rat.divInt (x.num * k) ((x.den : Int) * k)) s14 wx ∧ Below w11.heap.size w11 wx)
          case first =>
            have HL12 := Lib.hid (fun (w' : World) (hb : Below w11.heap.size w11 w') => (⟨hb, keepc hb cn0, keepc hb cn1, keepc hb ck0, keepc hb ck1, keepc hb cd0, keepc hb cd1⟩ : Below w11.heap.size w11 w' ∧ w'.cell? ⟨w4.heap.size, 0, none⟩ = some (.bool n_4) ∧ w'.cell? ⟨w4.heap.size, 1, none⟩ = some (.slice a_4 k_4 c_4) ∧ w'.cell? ⟨w6.heap.size, 0, none⟩ = some (.bool n_6) ∧ w'.cell? ⟨w6.heap.size, 1, none⟩ = some (.slice a_6 k_6 c_6) ∧ w'.cell? ⟨w4.heap.size + 1, 0, none⟩ = some (.bool n2_4) ∧ w'.cell? ⟨w4.heap.size + 1, 1, none⟩ = some (.slice a2_4 k2_4 c2_4)))
            have HI12 := Lib.hid (fun (w' : World) (hs : Below w11.heap.size w11 w' ∧ w'.cell? ⟨w4.heap.size, 0, none⟩ = some (.bool n_4) ∧ w'.cell? ⟨w4.heap.size, 1, none⟩ = some (.slice a_4 k_4 c_4) ∧ w'.cell? ⟨w6.heap.size, 0, none⟩ = some (.bool n_6) ∧ w'.cell? ⟨w6.heap.size, 1, none⟩ = some (.slice a_6 k_6 c_6) ∧ w'.cell? ⟨w4.heap.size + 1, 0, none⟩ = some (.bool n2_4) ∧ w'.cell? ⟨w4.heap.size + 1, 1, none⟩ = some (.slice a2_4 k2_4 c2_4)) => hs.1)
            have HS12 := Lib.hid (Below.refl w11.heap.size w11)
            clear cn0 cn1 fn0 fn1 ck0 ck1 fk0 fk1 cd0 cd1 fd0 fd1 HB Bx Bn Bd Bk HT HML HX HG HSR HK0 HC HGC HSG HT1 dg1 rx
            go_region_held3 (fun w' => Below w11.heap.size w11 w' ∧ w'.cell? ⟨w4.heap.size, 0, none⟩ = some (.bool n_4) ∧ w'.cell? ⟨w4.heap.size, 1, none⟩ = some (.slice a_4 k_4 c_4) ∧ w'.cell? ⟨w6.heap.size, 0, none⟩ = some (.bool n_6) ∧ w'.cell? ⟨w6.heap.size, 1, none⟩ = some (.slice a_6 k_6 c_6) ∧ w'.cell? ⟨w4.heap.size + 1, 0, none⟩ = some (.bool n2_4) ∧ w'.cell? ⟨w4.heap.size + 1, 1, none⟩ = some (.slice a2_4 k2_4 c2_4))
              (first | assumption | with_reducible exact HL12.out _ HZ0.out | with_reducible exact HL12.out _ HZ1.out | with_reducible exact HL12.out _ HZ2.out | with_reducible exact HL12.out _ (Below.drew HS12.out) | with_reducible exact HL12.out _ (Below.drew (allocs_below1 _ _)) | with_reducible exact HL12.out _ (bt (HI12.out _ (by assumption)) (allocs_below1 _ _)) | with_reducible exact HL12.out _ (bt HZ2.out (allocs_below1 _ _)) | with_reducible exact HL12.out _ (held_set4 HZ2.out (by first | exact Nat.le_refl _ | exact HZ0.out.size | exact HZ1.out.size | exact HZ2.out.size)))
              (first | (go_at_call 32; (with_reducible refine (mul_any (HN.out.below (HI12.out _ (by assumption))) (HK.out.below (HI12.out _ (by assumption))) dgn (dgk.mono (show 100 ≤ 400 by decide)) (by decide)).mono ?_); rintro e wk0 ⟨m1, b1, j1, q1, rfl, hu1, hbr0⟩; have HNA := Lib.hid hu1; clear hu1; have HZ0 := Lib.hid (bt (HI12.out _ (by assumption)) hbr0); (first | with_reducible (replace HP1 := Lib.hid (blk_next HP1.out hbr0)) | with_reducible (have HP1 := Lib.hid (one_next_d hbr0)) | with_reducible (have HP1 := Lib.hid (one_next hbr0)) | skip)) | (go_at_call 32; (with_reducible refine (mul_any (HD.out.below (HI12.out _ (by assumption))) (HK.out.below (HI12.out _ (by assumption))) dgd (dgk.mono (show 100 ≤ 400 by decide)) (by decide)).mono ?_); rintro e wk1 ⟨m2, b2, j2, q2, rfl, hu2, hbr1⟩; have HNB := Lib.hid hu2; clear hu2; have HZ1 := Lib.hid (bt (HI12.out _ (by assumption)) hbr1); (first | with_reducible (replace HP1 := Lib.hid (blk_next HP1.out hbr1)) | with_reducible (have HP1 := Lib.hid (one_next_d hbr1)) | with_reducible (have HP1 := Lib.hid (one_next hbr1)) | skip)) | (go_at_call 31; (with_reducible refine ((new_any (by first | exact HNA.out | exact HNA.out.below hbr1 | exact (HNA.out.below (allocs_below1 _ _)).below hbr1 | exact (HNA.out.below hbr1).below (allocs_below1 _ _) | exact (HNA.out.below (allocs_below2 _ _ _)).below hbr1 | exact (HNA.out.below hbr1).below (allocs_below2 _ _ _) | exact HNA.out.below (allocs_below1 _ _) | exact HNA.out.below (allocs_below2 _ _ _) | exact ((HNA.out.below (allocs_below1 _ _)).below hbr1).below (allocs_below1 _ _)) (by first | exact HNB.out | exact HNB.out.below hbr1 | exact (HNB.out.below (allocs_below1 _ _)).below hbr1 | exact (HNB.out.below hbr1).below (allocs_below1 _ _) | exact (HNB.out.below (allocs_below2 _ _ _)).below hbr1 | exact (HNB.out.below hbr1).below (allocs_below2 _ _ _) | exact HNB.out.below (allocs_below1 _ _) | exact HNB.out.below (allocs_below2 _ _ _) | exact ((HNB.out.below (allocs_below1 _ _)).below hbr1).below (allocs_below1 _ _)) HDK.out dgnk dgdk (by decide)).mono fun _ _ h => h.plain).mono ?_); rintro e wk2 ⟨m3, b3, j3, q3, m4, b4, j4, q4, rfl, hu3, hbr2⟩; have HY := Lib.hid hu3; clear hu3; have HZ2 := Lib.hid (bt (HI12.out _ (by assumption)) hbr2); (first | with_reducible (replace HP1 := Lib.hid (blk_next HP1.out hbr2)) | with_reducible (have HP1 := Lib.hid (one_next_d hbr2)) | with_reducible (have HP1 := Lib.hid (one_next hbr2)) | skip); try (have HPC := res4_facts HP1.out; obtain ⟨⟨d0, d1, d2, d3⟩, e0, e1, e2, e3⟩ := HPC)))
            all_goals (try go_wp2_with fail)
            all_goals go_meet
            all_goals (first | with_reducible exact ⟨rfl, blkR_set HP1.out HY.out (by first | exact Nat.le_refl _ | exact HZ0.out.size | exact HZ1.out.size | exact HZ2.out.size) HZ2.out⟩ | with_reducible exact ⟨rfl, blkR_new HY.out (Nat.le_refl _) HZ2.out⟩)
          case rest =>
          obtain ⟨rfl, ⟨g, m3, b3, j3, q3, m4, b4, j4, q4, rfl, hblk, hy, hg⟩, hb⟩ := hcut
          replace HB := Lib.hid (bt HB.out hb)
          replace HT := Lib.hid (HT.out.below hb)
          replace HML := Lib.hid (HML.out.below hb)
          replace HX := Lib.hid (HX.out.below hb)
          replace HN := Lib.hid (HN.out.below hb)
          replace HD := Lib.hid (HD.out.below hb)
          replace HK := Lib.hid (HK.out.below hb)
          replace HG := Lib.hid (HG.out.below hb)
          replace Bx := Lib.hid (blk_next Bx.out hb)
          replace Bn := Lib.hid (blk_next Bn.out hb)
          replace Bd := Lib.hid (blk_next Bd.out hb)
          replace Bk := Lib.hid (blk_next Bk.out hb)
          have HY := Lib.hid hy
          have By := Lib.hid hblk
          clear hb hy hblk hg
          have lt18_x : w2.heap.size < wc.heap.size := (Array.getElem?_eq_some_iff.1 Bx.out).1
          have lt19_n : w4.heap.size < wc.heap.size := (Array.getElem?_eq_some_iff.1 Bn.out).1
          have lt20_d : w4.heap.size + 1 < wc.heap.size := (Array.getElem?_eq_some_iff.1 Bd.out).1
          have lt21_k : w6.heap.size < wc.heap.size := (Array.getElem?_eq_some_iff.1 Bk.out).1
          have lt22_y : g < wc.heap.size := (Array.getElem?_eq_some_iff.1 By.out).1
          obtain ⟨⟨cx0, cx1, cx2, cx3⟩, fx0, fx1, fx2, fx3⟩ := res4_facts Bx.out
          obtain ⟨⟨cy0, cy1, cy2, cy3⟩, fy0, fy1, fy2, fy3⟩ := res4_facts By.out
          go_wp2_with fail
          clear cx0 cx1 cx2 cx3 fx0 fx1 fx2 fx3 cy0 cy1 cy2 cy3 fy0 fy1 fy2 fy3
          (with_reducible refine (ratequal_any HX.out (HY.out.as HSR.out) HT.out rx (by decide)).mono ?_)
          rintro e w13 ⟨rfl, hb⟩
          replace HB := Lib.hid (bt HB.out hb)
          replace HT := Lib.hid (HT.out.below hb)
          replace HML := Lib.hid (HML.out.below hb)
          replace HX := Lib.hid (HX.out.below hb)
          replace HN := Lib.hid (HN.out.below hb)
          replace HD := Lib.hid (HD.out.below hb)
          replace HK := Lib.hid (HK.out.below hb)
          replace HG := Lib.hid (HG.out.below hb)
          replace HY := Lib.hid (HY.out.below hb)
          replace Bx := Lib.hid (blk_next Bx.out hb)
          replace Bn := Lib.hid (blk_next Bn.out hb)
          replace Bd := Lib.hid (blk_next Bd.out hb)
          replace Bk := Lib.hid (blk_next Bk.out hb)
          replace By := Lib.hid (blk_next By.out hb)
          clear hb
          go_wp2
          go_ret
          exact ⟨by simp, HB.out⟩
      · have ehc0 : (c == 0) = false := by rw [beq_eq_false_iff_ne]; exact hc0
        have fhc0 : (c != 0) = true := by rw [bne, ehc0]; rfl
        go_wp2
        go_ret
        exact ⟨by simp, HB.out⟩
    · have hz : (100 : Int) < (t.size : Int) := by omega
      go_wp2
      go_ret
      exact ⟨rfl, bt HB.out (allocs_below4 _ _ _ _ _)⟩

end Go.Proofs.YtikpafocankggaaGreatDoor
