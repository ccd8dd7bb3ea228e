/- The law RationalShares answers true. -/
import Derived.Test.YtikpafocankggaaGreatDoorRatOps
import Derived.Test.YtikpafocankggaaGreatDoorRScale
import Derived.Test.YtikpafocankggaaGreatDoorPlainR
import Derived.IntWalk
namespace Go.Proofs.YtikpafocankggaaGreatDoor
open Go.RowKit Tally Go.Lib
theorem scale_zero {n : Int} {q : Rat} (h : scaleC n q = 0) : -1000000000000 ≤ roundQ ((n : Rat) * q) ∧ roundQ ((n : Rat) * q) ≤ 1000000000000 ∧ scaleV n q = roundQ ((n : Rat) * q) := by
 have h2 := h
 unfold scaleC at h2
 split at h2
 ·split at h2
  ·rename_i h3
   exact ⟨h3.1, h3.2, by unfold scaleV; rw [if_pos h]⟩
  ·cases h2
 ·cases h2
theorem shares_law {n m : Int} {x : Rat} (h1 : scaleC n x = 0) (h2 : scaleC m x = 0) (h3 : scaleC (n + m) x = 0) :
  -1000000000000 ≤ scaleV n x ∧ scaleV n x ≤ 1000000000000 ∧ -1000000000000 ≤ scaleV m x ∧ scaleV m x ≤ 1000000000000 ∧ -1000000000000 ≤ scaleV (n + m) x ∧ scaleV (n + m) x ≤ 1000000000000 ∧ -1 ≤ scaleV (n + m) x - scaleV n x - scaleV m x ∧ scaleV (n + m) x - scaleV n x - scaleV m x ≤ 1 := by
 obtain ⟨a1, a2, a3⟩ := scale_zero h1
 obtain ⟨b1, b2, b3⟩ := scale_zero h2
 obtain ⟨d1, d2, d3⟩ := scale_zero h3
 have e : ((n + m : Int) : Rat) * x = (n : Rat) * x + (m : Rat) * x := by rw [Rat.intCast_add, Rat.add_mul]
 have r := round_parts ((n : Rat) * x) ((m : Rat) * x)
 rw [← e] at r
 rw [a3, b3, d3]
 exact ⟨a1, a2, b1, b2, d1, d2, r.2, r.1⟩
set_option maxHeartbeats 8000000 in
set_option maxRecDepth 100000 in
theorem lawRationalShares {w : World} (n : Int) (m : Int) (s : ByteArray) (hs_n : -9223372036854775808 ≤ n ∧ n ≤ 9223372036854775807) (hs_m : -9223372036854775808 ≤ m ∧ m ≤ 9223372036854775807) (hs_s : s.size ≤ 9223372036854775807) (htab : Tab w) (hlen : Mlen w) :
  Calls Tryz.prog 4 #[.int .i64 n, .int .i64 m, .string s] w (True1 w) := by
 have HT := hid htab
 have HML := hid hlen
 clear htab hlen
 obtain ⟨hn1, hn2⟩ := hs_n
 obtain ⟨hm1, hm2⟩ := hs_m
 go_enter Tryz.func4, Tryz.ntmps4
 go_wp2_with fail
 (with_reducible refine (ratawake_any HT.out).mono ?_)
 rintro e w1 ⟨rfl, hb⟩
 have HB := hid hb
 replace HT := hid (HT.out.below hb)
 replace HML := hid (HML.out.below hb)
 clear hb
 go_wp2_with fail
 (with_reducible refine (ratboth_any s ⟨#[48]⟩ hs_s (by decide) HML.out).mono ?_)
 rintro e w2 ⟨n0_2, a0_2, k0_2, c0_2, n1_2, a1_2, k1_2, c1_2, n2_2, a2_2, k2_2, c2_2, n3_2, a3_2, k3_2, c3_2, n4_2, a4_2, k4_2, c4_2, n5_2, a5_2, k5_2, c5_2, n6_2, a6_2, k6_2, c6_2, n7_2, a7_2, k7_2, c7_2, ok2, rfl, hok2, hb⟩
 have HOK2 := hid hok2
 clear hok2
 replace HB := hid (bt HB.out hb)
 replace HT := hid (HT.out.below hb)
 replace HML := hid (HML.out.below hb)
 clear hb
 cases ok2
 ·go_wp2
  go_ret
  exact ⟨rfl, bt HB.out (allocs_below4 _ _ _ _ _ )⟩
 ·skip
  obtain ⟨s4_2, -, -, -, h0_2, -, -, -⟩ := HOK2.out rfl
  clear HOK2
  have HX := hid h0_2
  clear h0_2
  have rx : Rg 400 (qval s.data.toList) := rg_qval s4_2 (by decide)
  generalize qval s.data.toList = x at *
  clear s4_2
  go_wp2_with fail
  obtain ⟨W3, hW, hs, hb, b0, b1, b2, b3⟩ := alloc4 w2 (.cells #[.bool n0_2, .slice a0_2 k0_2 c0_2, .bool n1_2, .slice a1_2 k1_2 c1_2] 27) (.cells #[.bool n2_2, .slice a2_2 k2_2 c2_2, .bool n3_2, .slice a3_2 k3_2 c3_2] 27) (.cells #[.bool n4_2, .slice a4_2 k4_2 c4_2, .bool n5_2, .slice a5_2 k5_2 c5_2] 32) (.cells #[.bool n6_2, .slice a6_2 k6_2 c6_2, .bool n7_2, .slice a7_2 k7_2 c7_2] 32)
  rw [← hW]
  replace HB := hid (bt HB.out hb)
  replace HT := hid (HT.out.below hb)
  replace HML := hid (HML.out.below hb)
  replace HX := hid (HX.out.below hb)
  have Bx := hid b0
  have Bzz1 := hid b1
  have Bzz2 := hid b2
  have Bzz3 := hid b3
  clear hW hs hb b0 b1 b2 b3
  clear Bzz1
  clear Bzz2
  clear Bzz3
  refine ramount_any.mono ?_
  rintro e w' ⟨rfl, hww⟩
  obtain rfl := hww.symm
  by_cases a0 : -1000000000000 ≤ n ∧ n ≤ 1000000000000
  ·skip
   rw [decide_eq_true a0]
   go_wp2_with fail
   refine ramount_any.mono ?_
   rintro e w' ⟨rfl, hww⟩
   obtain rfl := hww.symm
   by_cases a1 : -1000000000000 ≤ m ∧ m ≤ 1000000000000
   ·skip
    rw [decide_eq_true a1]
    have wr1 : IntKind.i64.wrap (n + m) = n + m := IntWalk.i64_in _ (by omega)
    go_wp2_with fail
    refine ramount_any.mono ?_
    rintro e w' ⟨rfl, hww⟩
    obtain rfl := hww.symm
    by_cases a2 : -1000000000000 ≤ n + m ∧ n + m ≤ 1000000000000
    ·skip
     rw [decide_eq_true a2]
     obtain ⟨k1, hk1⟩ : ∃ zz, scaleV n x = zz := ⟨_, rfl⟩
     have HK1 := hid hk1
     clear hk1
     obtain ⟨c1, hc1⟩ : ∃ zz, scaleC n x = zz := ⟨_, rfl⟩
     have HC1 := hid hc1
     clear hc1
     obtain ⟨k2, hk2⟩ : ∃ zz, scaleV m x = zz := ⟨_, rfl⟩
     have HK2 := hid hk2
     clear hk2
     obtain ⟨c2, hc2⟩ : ∃ zz, scaleC m x = zz := ⟨_, rfl⟩
     have HC2 := hid hc2
     clear hc2
     obtain ⟨k3, hk3⟩ : ∃ zz, scaleV (n + m) x = zz := ⟨_, rfl⟩
     have HK3 := hid hk3
     clear hk3
     obtain ⟨c3, hc3⟩ : ∃ zz, scaleC (n + m) x = zz := ⟨_, rfl⟩
     have HC3 := hid hc3
     clear hc3
     have lt1_x : w2.heap.size < W3.heap.size := (Array.getElem?_eq_some_iff.1 Bx.out).1
     obtain ⟨⟨cx0, cx1, cx2, cx3⟩, fx0, fx1, fx2, fx3⟩ := res4_facts Bx.out
     go_wp2_with fail
     clear cx0 cx1 cx2 cx3 fx0 fx1 fx2 fx3
     (with_reducible refine (ratscale_any (n := n) HX.out rx hn1 hn2 (by decide)).mono ?_)
     rintro e w4 ⟨rfl, hb⟩
     replace HB := hid (bt HB.out hb)
     replace HT := hid (HT.out.below hb)
     replace HML := hid (HML.out.below hb)
     replace HX := hid (HX.out.below hb)
     replace Bx := hid (blk_next Bx.out hb)
     clear hb
     rw [HK1.out, HC1.out]
     have lt2_x : w2.heap.size < w4.heap.size := (Array.getElem?_eq_some_iff.1 Bx.out).1
     obtain ⟨⟨cx0, cx1, cx2, cx3⟩, fx0, fx1, fx2, fx3⟩ := res4_facts Bx.out
     go_wp2_with fail
     clear cx0 cx1 cx2 cx3 fx0 fx1 fx2 fx3
     (with_reducible refine (ratscale_any (n := m) HX.out rx hm1 hm2 (by decide)).mono ?_)
     rintro e w5 ⟨rfl, hb⟩
     replace HB := hid (bt HB.out hb)
     replace HT := hid (HT.out.below hb)
     replace HML := hid (HML.out.below hb)
     replace HX := hid (HX.out.below hb)
     replace Bx := hid (blk_next Bx.out hb)
     clear hb
     rw [HK2.out, HC2.out]
     have lt3_x : w2.heap.size < w5.heap.size := (Array.getElem?_eq_some_iff.1 Bx.out).1
     obtain ⟨⟨cx0, cx1, cx2, cx3⟩, fx0, fx1, fx2, fx3⟩ := res4_facts Bx.out
     go_wp2_with fail
     clear cx0 cx1 cx2 cx3 fx0 fx1 fx2 fx3
     (with_reducible refine (ratscale_any (n := n + m) HX.out rx (by omega) (by omega) (by decide)).mono ?_)
     rintro e w6 ⟨rfl, hb⟩
     replace HB := hid (bt HB.out hb)
     replace HT := hid (HT.out.below hb)
     replace HML := hid (HML.out.below hb)
     replace HX := hid (HX.out.below hb)
     replace Bx := hid (blk_next Bx.out hb)
     clear hb
     rw [HK3.out, HC3.out]
     by_cases z1 : c1 = 0
     ·skip
      subst z1
      by_cases z2 : c2 = 0
      ·skip
       subst z2
       by_cases z3 : c3 = 0
       ·skip
        subst z3
        obtain ⟨q1, q2, q3, q4, q5, q6, q7, q8⟩ := shares_law HC1.out HC2.out HC3.out
        rw [HK1.out, HK2.out, HK3.out] at q7 q8
        rw [HK1.out] at q1 q2
        rw [HK2.out] at q3 q4
        rw [HK3.out] at q5 q6
        have v1 : IntKind.i64.wrap (k3 - k1) = k3 - k1 := IntWalk.i64_in _ (by omega)
        have v2 : IntKind.i64.wrap (k3 - k1 - k2) = k3 - k1 - k2 := IntWalk.i64_in _ (by omega)
        go_wp2
        go_ret
        exact ⟨by simp <;> omega, HB.out⟩
       ·have ez3 : (c3 == 0) = false := by rw [beq_eq_false_iff_ne]; exact z3
        have fz3 : (c3 != 0) = true := by rw [bne, ez3]; rfl
        go_wp2
        go_ret
        exact ⟨by simp, HB.out⟩
      ·have ez2 : (c2 == 0) = false := by rw [beq_eq_false_iff_ne]; exact z2
       have fz2 : (c2 != 0) = true := by rw [bne, ez2]; rfl
       go_wp2
       go_ret
       exact ⟨by simp, HB.out⟩
     ·have ez1 : (c1 == 0) = false := by rw [beq_eq_false_iff_ne]; exact z1
      have fz1 : (c1 != 0) = true := by rw [bne, ez1]; rfl
      go_wp2
      go_ret
      exact ⟨by simp, HB.out⟩
    ·rw [decide_eq_false a2]
     go_wp2
     go_ret
     exact ⟨rfl, HB.out⟩
   ·rw [decide_eq_false a1]
    go_wp2
    go_ret
    exact ⟨rfl, HB.out⟩
  ·rw [decide_eq_false a0]
   go_wp2
   go_ret
   exact ⟨rfl, HB.out⟩
end Go.Proofs.YtikpafocankggaaGreatDoor
