/- The law RationalParse answers true. -/
import Derived.Test.YtikpafocankggaaGreatDoorRatBoth
import Derived.Test.YtikpafocankggaaGreatDoorRatLaw
import Derived.Test.YtikpafocankggaaGreatDoorLawProducts
namespace Go.Proofs.YtikpafocankggaaGreatDoor
open Go.RowKit Tally Go.Lib

set_option maxHeartbeats 8000000 in
set_option maxRecDepth 100000 in
theorem lawRationalParse {w : World} (s : ByteArray) (hs_s : s.size ≤ 9223372036854775807) (htab : Tab w) (hlen : Mlen w) :
    Calls Tryz.prog 5 #[.string s] w (True1 w) := by
  have HT := Lib.hid htab
  have HML := Lib.hid hlen
  clear htab hlen
  by_cases hbig : s.size ≤ 4100
  · have hz : ¬ (4100 : Int) < (s.size : Int) := by omega
    obtain ⟨c, hc⟩ : ∃ c, qcode s.data.toList = c := ⟨_, rfl⟩
    have HCC := Lib.hid hc
    obtain ⟨q, hq⟩ : ∃ q, qval s.data.toList = q := ⟨_, rfl⟩
    have HQ := Lib.hid hq
    have rq : Rg 4100 q := hq ▸ Rg.of (qval_few s.data.toList (by rw [bs_len]; exact hbig) (by omega))
    clear hc hq
    go_enter Tryz.func5, Tryz.ntmps5
    go_wp2_with fail
    (with_reducible refine (ratawake_any HT.out).mono ?_)
    rintro e w1 ⟨rfl, hb⟩
    have HB := Lib.hid hb
    replace HT := Lib.hid (HT.out.below hb)
    replace HML := Lib.hid (HML.out.below hb)
    clear hb
    go_wp2_with fail
    (with_reducible refine (ratparse_any s (by omega) HML.out).mono ?_)
    rintro e w2 ⟨n_2, a_2, k_2, c_2, n2_2, a2_2, k2_2, c2_2, rfl, hu_2, hb⟩
    replace HB := Lib.hid (bt HB.out hb)
    replace HT := Lib.hid (HT.out.below hb)
    replace HML := Lib.hid (HML.out.below hb)
    have HX := Lib.hid hu_2
    clear hu_2
    clear hb
    rw [HCC.out]
    rw [HQ.out] at HX
    go_wp2_with fail
    obtain ⟨W3, hW, hs, hb, b0⟩ := alloc1 w2 (.cells #[.bool n_2, .slice a_2 k_2 c_2, .bool n2_2, .slice a2_2 k2_2 c2_2] 27)
    rw [← hW]
    replace HB := Lib.hid (bt HB.out hb)
    replace HT := Lib.hid (HT.out.below hb)
    replace HML := Lib.hid (HML.out.below hb)
    replace HX := Lib.hid (HX.out.below hb)
    have Bx := Lib.hid b0
    clear hW hs hb b0
    (with_reducible refine (rratparse_any s (by omega)).mono ?_)
    rintro e w4 ⟨n_4, a_4, k_4, c_4, n2_4, a2_4, k2_4, c2_4, rfl, hu_4, hb⟩
    replace HB := Lib.hid (bt HB.out hb)
    replace HT := Lib.hid (HT.out.below hb)
    replace HML := Lib.hid (HML.out.below hb)
    replace HX := Lib.hid (HX.out.below hb)
    replace Bx := Lib.hid (blk_next Bx.out hb)
    have HA := Lib.hid hu_4
    clear hu_4
    clear hb
    rw [HCC.out]
    rw [HQ.out] at HA
    by_cases hc0 : c = 0
    · subst hc0
      have HTX := Lib.hid (show ratText q = s from by rw [rtext_lit HCC.out HQ.out])
      have lt1_x : w2.heap.size < w4.heap.size := (Array.getElem?_eq_some_iff.1 Bx.out).1
      obtain ⟨⟨cx0, cx1, cx2, cx3⟩, fx0, fx1, fx2, fx3⟩ := res4_facts Bx.out
      go_wp2_with fail
      clear cx0 cx1 cx2 cx3 fx0 fx1 fx2 fx3
      obtain ⟨W5, hW, hs, hb, b0⟩ := alloc1 w4 (.cells #[.bool n_4, .slice a_4 k_4 c_4, .bool n2_4, .slice a2_4 k2_4 c2_4] 32)
      rw [← hW]
      replace HB := Lib.hid (bt HB.out hb)
      replace HT := Lib.hid (HT.out.below hb)
      replace HML := Lib.hid (HML.out.below hb)
      replace HX := Lib.hid (HX.out.below hb)
      replace HA := Lib.hid (HA.out.below hb)
      replace Bx := Lib.hid (blk_next Bx.out hb)
      have Ba := Lib.hid b0
      clear hW hs hb b0
      (with_reducible refine (rattext_any HX.out HT.out rq (by omega)).mono ?_)
      rintro e w6 ⟨rfl, hb⟩
      replace HB := Lib.hid (bt HB.out hb)
      replace HT := Lib.hid (HT.out.below hb)
      replace HML := Lib.hid (HML.out.below hb)
      replace HX := Lib.hid (HX.out.below hb)
      replace HA := Lib.hid (HA.out.below hb)
      replace Bx := Lib.hid (blk_next Bx.out hb)
      replace Ba := Lib.hid (blk_next Ba.out hb)
      clear hb
      rw [HTX.out]
      have lt2_x : w2.heap.size < w6.heap.size := (Array.getElem?_eq_some_iff.1 Bx.out).1
      have lt3_a : w4.heap.size < w6.heap.size := (Array.getElem?_eq_some_iff.1 Ba.out).1
      obtain ⟨⟨cx0, cx1, cx2, cx3⟩, fx0, fx1, fx2, fx3⟩ := res4_facts Bx.out
      obtain ⟨⟨ca0, ca1, ca2, ca3⟩, fa0, fa1, fa2, fa3⟩ := res4_facts Ba.out
      go_wp2_with fail
      clear cx0 cx1 cx2 cx3 fx0 fx1 fx2 fx3 ca0 ca1 ca2 ca3 fa0 fa1 fa2 fa3
      (with_reducible refine (ratsame_any HX.out HA.out HT.out rq (by omega)).mono ?_)
      rintro e w7 ⟨rfl, hb⟩
      replace HB := Lib.hid (bt HB.out hb)
      replace HT := Lib.hid (HT.out.below hb)
      replace HML := Lib.hid (HML.out.below hb)
      replace HX := Lib.hid (HX.out.below hb)
      replace HA := Lib.hid (HA.out.below hb)
      replace Bx := Lib.hid (blk_next Bx.out hb)
      replace Ba := Lib.hid (blk_next Ba.out hb)
      clear hb
      go_wp2
      go_ret
      exact ⟨by simp, HB.out⟩
    · have cz : (c == 0) = false := by rw [beq_eq_false_iff_ne]; exact hc0
      have cz2 : (c != 0) = true := by rw [bne, cz]; rfl
      have HQ0 := Lib.hid (show q.num.sign = 0 from by rw [← HQ.out, (qv_bad HCC.out hc0).2]; rfl)
      clear hc0
      have lt1_x : w2.heap.size < w4.heap.size := (Array.getElem?_eq_some_iff.1 Bx.out).1
      obtain ⟨⟨cx0, cx1, cx2, cx3⟩, fx0, fx1, fx2, fx3⟩ := res4_facts Bx.out
      go_wp2_with fail
      clear cx0 cx1 cx2 cx3 fx0 fx1 fx2 fx3
      obtain ⟨W5, hW, hs, hb, b0⟩ := alloc1 w4 (.cells #[.bool n_4, .slice a_4 k_4 c_4, .bool n2_4, .slice a2_4 k2_4 c2_4] 32)
      rw [← hW]
      replace HB := Lib.hid (bt HB.out hb)
      replace HT := Lib.hid (HT.out.below hb)
      replace HML := Lib.hid (HML.out.below hb)
      replace HX := Lib.hid (HX.out.below hb)
      replace HA := Lib.hid (HA.out.below hb)
      replace Bx := Lib.hid (blk_next Bx.out hb)
      have Ba := Lib.hid b0
      clear hW hs hb b0
      (with_reducible refine (ratsign_any HX.out).mono ?_)
      rintro e w6 ⟨rfl, hb⟩
      replace HB := Lib.hid (bt HB.out hb)
      replace HT := Lib.hid (HT.out.below hb)
      replace HML := Lib.hid (HML.out.below hb)
      replace HX := Lib.hid (HX.out.below hb)
      replace HA := Lib.hid (HA.out.below hb)
      replace Bx := Lib.hid (blk_next Bx.out hb)
      replace Ba := Lib.hid (blk_next Ba.out hb)
      clear hb
      rw [HQ0.out]
      go_wp2
      go_ret
      exact ⟨by simp, HB.out⟩
  · have hz : (4100 : Int) < (s.size : Int) := by omega
    go_enter Tryz.func5, Tryz.ntmps5
    go_wp2_with fail
    (with_reducible refine (ratawake_any HT.out).mono ?_)
    rintro e w1 ⟨rfl, hb⟩
    have HB := Lib.hid hb
    replace HT := Lib.hid (HT.out.below hb)
    replace HML := Lib.hid (HML.out.below hb)
    clear hb
    go_wp2
    go_ret
    exact ⟨rfl, HB.out⟩

end Go.Proofs.YtikpafocankggaaGreatDoor
