/- The law IntegerSums answers true. -/
import Derived.Test.YtihjaakkpnjolaaDoorEqual
namespace Go.Proofs.YtihjaakkpnjolaaDoor
open Go.RowKit Tally Go.Lib

set_option maxHeartbeats 8000000 in
set_option maxRecDepth 100000 in
theorem lawIntegerSums {w : World} (s : ByteArray) (t : ByteArray) (hs_s : s.size ≤ 9223372036854775807) (hs_t : t.size ≤ 9223372036854775807) (htab : Tab w) :
    Calls Tryd.prog 6 #[.string s, .string t] w (True1 w) := by
  have HT := Lib.hid htab
  clear htab
  go_enter Tryd.func6, Tryd.ntmps6
  go_wp2_with fail
  refine (awake_any HT.out).mono ?_
  rintro e w0 ⟨rfl, hb0⟩
  have HB0 := Lib.hid hb0
  clear hb0
  go_wp2_with fail
  refine (both_any (w := w0) s t hs_s hs_t).mono ?_
  rintro e w1 ⟨n0_1, a0_1, k0_1, c0_1, n1_1, a1_1, k1_1, c1_1, n2_1, a2_1, k2_1, c2_1, n3_1, a3_1, k3_1, c3_1, ok1, rfl, hok1, hb1⟩
  have HOK1 := Lib.hid hok1
  have HB1 := Lib.hid (bt HB0.out hb1)
  clear hok1 hb1
  have BF1 := Lib.hid (cells4_of w1 (.bool n0_1) (.slice a0_1 k0_1 c0_1) (.bool n1_1) (.slice a1_1 k1_1 c1_1) (.bool n2_1) (.slice a2_1 k2_1 c2_1) (.bool n3_1) (.slice a3_1 k3_1 c3_1))
  cases ok1
  · go_wp2
    go_ret
    exact ⟨rfl, bt HB1.out BF1.out.2⟩
  · obtain ⟨s6, t6, cs, ct, hx, hy, ha, hb⟩ := HOK1.out (by simp)
    have HX := Lib.hid hx
    have HY := Lib.hid hy
    have HA := Lib.hid ha
    have HBB := Lib.hid hb
    have dgx := dg_of s6
    have dgy := dg_of t6
    clear HOK1 cs ct hx hy ha hb
    generalize pval s.data.toList = x at *
    generalize pval t.data.toList = y at *
    go_wp2_with fail
    revert BF1
    generalize ((((w1.alloc (.cells #[(.bool n0_1), (.slice a0_1 k0_1 c0_1)] 25)).alloc (.cells #[(.bool n1_1), (.slice a1_1 k1_1 c1_1)] 25)).alloc (.cells #[(.bool n2_1), (.slice a2_1 k2_1 c2_1)] 28)).alloc (.cells #[(.bool n3_1), (.slice a3_1 k3_1 c3_1)] 28)) = W
    intro BF1
    have HL := Lib.hid (fun (w' : World) (hb : Below W.heap.size W w') => (⟨hb, (BF1.out.1.next hb).cells⟩ : Below W.heap.size W w' ∧ w'.cell? ⟨w1.heap.size, 0, none⟩ = some (.bool n0_1) ∧ w'.cell? ⟨w1.heap.size, 1, none⟩ = some (.slice a0_1 k0_1 c0_1) ∧ w'.cell? ⟨w1.heap.size + 1, 0, none⟩ = some (.bool n1_1) ∧ w'.cell? ⟨w1.heap.size + 1, 1, none⟩ = some (.slice a1_1 k1_1 c1_1) ∧ w'.cell? ⟨w1.heap.size + 1 + 1, 0, none⟩ = some (.bool n2_1) ∧ w'.cell? ⟨w1.heap.size + 1 + 1, 1, none⟩ = some (.slice a2_1 k2_1 c2_1) ∧ w'.cell? ⟨w1.heap.size + 1 + 1 + 1, 0, none⟩ = some (.bool n3_1) ∧ w'.cell? ⟨w1.heap.size + 1 + 1 + 1, 1, none⟩ = some (.slice a3_1 k3_1 c3_1)))
    have HI1 := Lib.hid (fun (w' : World) (hs : Below W.heap.size W w' ∧ w'.cell? ⟨w1.heap.size, 0, none⟩ = some (.bool n0_1) ∧ w'.cell? ⟨w1.heap.size, 1, none⟩ = some (.slice a0_1 k0_1 c0_1) ∧ w'.cell? ⟨w1.heap.size + 1, 0, none⟩ = some (.bool n1_1) ∧ w'.cell? ⟨w1.heap.size + 1, 1, none⟩ = some (.slice a1_1 k1_1 c1_1) ∧ w'.cell? ⟨w1.heap.size + 1 + 1, 0, none⟩ = some (.bool n2_1) ∧ w'.cell? ⟨w1.heap.size + 1 + 1, 1, none⟩ = some (.slice a2_1 k2_1 c2_1) ∧ w'.cell? ⟨w1.heap.size + 1 + 1 + 1, 0, none⟩ = some (.bool n3_1) ∧ w'.cell? ⟨w1.heap.size + 1 + 1 + 1, 1, none⟩ = some (.slice a3_1 k3_1 c3_1)) => HX.out.below (bt BF1.out.2 hs.1))
    have HI2 := Lib.hid (fun (w' : World) (hs : Below W.heap.size W w' ∧ w'.cell? ⟨w1.heap.size, 0, none⟩ = some (.bool n0_1) ∧ w'.cell? ⟨w1.heap.size, 1, none⟩ = some (.slice a0_1 k0_1 c0_1) ∧ w'.cell? ⟨w1.heap.size + 1, 0, none⟩ = some (.bool n1_1) ∧ w'.cell? ⟨w1.heap.size + 1, 1, none⟩ = some (.slice a1_1 k1_1 c1_1) ∧ w'.cell? ⟨w1.heap.size + 1 + 1, 0, none⟩ = some (.bool n2_1) ∧ w'.cell? ⟨w1.heap.size + 1 + 1, 1, none⟩ = some (.slice a2_1 k2_1 c2_1) ∧ w'.cell? ⟨w1.heap.size + 1 + 1 + 1, 0, none⟩ = some (.bool n3_1) ∧ w'.cell? ⟨w1.heap.size + 1 + 1 + 1, 1, none⟩ = some (.slice a3_1 k3_1 c3_1)) => HY.out.below (bt BF1.out.2 hs.1))
    have HR1 := Lib.hid (fun (w' : World) (hs : Below W.heap.size W w' ∧ w'.cell? ⟨w1.heap.size, 0, none⟩ = some (.bool n0_1) ∧ w'.cell? ⟨w1.heap.size, 1, none⟩ = some (.slice a0_1 k0_1 c0_1) ∧ w'.cell? ⟨w1.heap.size + 1, 0, none⟩ = some (.bool n1_1) ∧ w'.cell? ⟨w1.heap.size + 1, 1, none⟩ = some (.slice a1_1 k1_1 c1_1) ∧ w'.cell? ⟨w1.heap.size + 1 + 1, 0, none⟩ = some (.bool n2_1) ∧ w'.cell? ⟨w1.heap.size + 1 + 1, 1, none⟩ = some (.slice a2_1 k2_1 c2_1) ∧ w'.cell? ⟨w1.heap.size + 1 + 1 + 1, 0, none⟩ = some (.bool n3_1) ∧ w'.cell? ⟨w1.heap.size + 1 + 1 + 1, 1, none⟩ = some (.slice a3_1 k3_1 c3_1)) => HA.out.below (bt BF1.out.2 hs.1))
    have HR2 := Lib.hid (fun (w' : World) (hs : Below W.heap.size W w' ∧ w'.cell? ⟨w1.heap.size, 0, none⟩ = some (.bool n0_1) ∧ w'.cell? ⟨w1.heap.size, 1, none⟩ = some (.slice a0_1 k0_1 c0_1) ∧ w'.cell? ⟨w1.heap.size + 1, 0, none⟩ = some (.bool n1_1) ∧ w'.cell? ⟨w1.heap.size + 1, 1, none⟩ = some (.slice a1_1 k1_1 c1_1) ∧ w'.cell? ⟨w1.heap.size + 1 + 1, 0, none⟩ = some (.bool n2_1) ∧ w'.cell? ⟨w1.heap.size + 1 + 1, 1, none⟩ = some (.slice a2_1 k2_1 c2_1) ∧ w'.cell? ⟨w1.heap.size + 1 + 1 + 1, 0, none⟩ = some (.bool n3_1) ∧ w'.cell? ⟨w1.heap.size + 1 + 1 + 1, 1, none⟩ = some (.slice a3_1 k3_1 c3_1)) => HBB.out.below (bt BF1.out.2 hs.1))
    have HT0 := Lib.hid (fun (w' : World) (hs : Below W.heap.size W w' ∧ w'.cell? ⟨w1.heap.size, 0, none⟩ = some (.bool n0_1) ∧ w'.cell? ⟨w1.heap.size, 1, none⟩ = some (.slice a0_1 k0_1 c0_1) ∧ w'.cell? ⟨w1.heap.size + 1, 0, none⟩ = some (.bool n1_1) ∧ w'.cell? ⟨w1.heap.size + 1, 1, none⟩ = some (.slice a1_1 k1_1 c1_1) ∧ w'.cell? ⟨w1.heap.size + 1 + 1, 0, none⟩ = some (.bool n2_1) ∧ w'.cell? ⟨w1.heap.size + 1 + 1, 1, none⟩ = some (.slice a2_1 k2_1 c2_1) ∧ w'.cell? ⟨w1.heap.size + 1 + 1 + 1, 0, none⟩ = some (.bool n3_1) ∧ w'.cell? ⟨w1.heap.size + 1 + 1 + 1, 1, none⟩ = some (.slice a3_1 k3_1 c3_1)) => HT.out.below (bt HB1.out (bt BF1.out.2 hs.1)))
    have HCUR := Lib.hid (Below.refl W.heap.size W)
    have dgz_1 : Dg 601 (x + y) := Dg.add (dgx.mono (by omega : 600 ≤ 600)) (dgy.mono (by omega : 600 ≤ 600))
    have dgz_2 : Dg 601 (x + y) := Dg.add (dgx.mono (by omega : 600 ≤ 600)) (dgy.mono (by omega : 600 ≤ 600))
    have dgz_4 : Dg 601 (x - y) := Dg.sub (dgx.mono (by omega : 600 ≤ 600)) (dgy.mono (by omega : 600 ≤ 600))
    have dgz_5 : Dg 601 (x - y) := Dg.sub (dgx.mono (by omega : 600 ≤ 600)) (dgy.mono (by omega : 600 ≤ 600))
    have dgz_7 : Dg 600 (-x) := dgx.neg
    have dgz_8 : Dg 600 (-x) := dgx.neg
    go_region_held3 (fun w' => Below W.heap.size W w' ∧ w'.cell? ⟨w1.heap.size, 0, none⟩ = some (.bool n0_1) ∧ w'.cell? ⟨w1.heap.size, 1, none⟩ = some (.slice a0_1 k0_1 c0_1) ∧ w'.cell? ⟨w1.heap.size + 1, 0, none⟩ = some (.bool n1_1) ∧ w'.cell? ⟨w1.heap.size + 1, 1, none⟩ = some (.slice a1_1 k1_1 c1_1) ∧ w'.cell? ⟨w1.heap.size + 1 + 1, 0, none⟩ = some (.bool n2_1) ∧ w'.cell? ⟨w1.heap.size + 1 + 1, 1, none⟩ = some (.slice a2_1 k2_1 c2_1) ∧ w'.cell? ⟨w1.heap.size + 1 + 1 + 1, 0, none⟩ = some (.bool n3_1) ∧ w'.cell? ⟨w1.heap.size + 1 + 1 + 1, 1, none⟩ = some (.slice a3_1 k3_1 c3_1))
      (first | exact HL.out _ (Below.drew HCUR.out) | exact HL.out _ (bt (And.left (by assumption)) (by assumption)))
      (first | (go_at_call 30; (with_reducible refine (add_any (HI1.out _ (by assumption)) (HI2.out _ (by assumption)) (dgx.mono (by omega : 600 ≤ 600)) (dgy.mono (by omega : 600 ≤ 600)) (by omega)).mono ?_); rintro e wr1 ⟨nr1, ar1, kr1, cr1, rfl, hur1, hbr1⟩; have HUR1 := Lib.hid hur1; clear hur1) | (go_at_call 31; (with_reducible refine (radd_any (HR1.out _ (by assumption)) (HR2.out _ (by assumption)) (dgx.mono (by omega : 600 ≤ 600)) (dgy.mono (by omega : 600 ≤ 600)) (by omega)).mono ?_); rintro e wr2 ⟨nr2, ar2, kr2, cr2, rfl, hur2, hbr2⟩; have HUR2 := Lib.hid hur2; clear hur2) | (go_at_call 18; (with_reducible refine (same_any (HUR1.out.below hbr2) HUR2.out (HT0.out _ (by assumption)) dgz_1 (by omega)).mono ?_); rintro e wr3 ⟨rfl, hbr3⟩) | (go_at_call 32; (with_reducible refine (sub_any (HI1.out _ (by assumption)) (HI2.out _ (by assumption)) (dgx.mono (by omega : 600 ≤ 600)) (dgy.mono (by omega : 600 ≤ 600)) (by omega)).mono ?_); rintro e wr4 ⟨nr4, ar4, kr4, cr4, rfl, hur4, hbr4⟩; have HUR4 := Lib.hid hur4; clear hur4) | (go_at_call 33; (with_reducible refine (rsub_any (HR1.out _ (by assumption)) (HR2.out _ (by assumption)) (dgx.mono (by omega : 600 ≤ 600)) (dgy.mono (by omega : 600 ≤ 600)) (by omega)).mono ?_); rintro e wr5 ⟨nr5, ar5, kr5, cr5, rfl, hur5, hbr5⟩; have HUR5 := Lib.hid hur5; clear hur5) | (go_at_call 18; (with_reducible refine (same_any (HUR4.out.below hbr5) HUR5.out (HT0.out _ (by assumption)) dgz_4 (by omega)).mono ?_); rintro e wr6 ⟨rfl, hbr6⟩) | (go_at_call 34; (with_reducible refine (neg_any (HI1.out _ (by assumption))).mono ?_); rintro e wr7 ⟨nr7, ar7, kr7, cr7, rfl, hur7, hbr7⟩; have HUR7 := Lib.hid hur7; clear hur7) | (go_at_call 35; (with_reducible refine (rneg_any (HR1.out _ (by assumption))).mono ?_); rintro e wr8 ⟨nr8, ar8, kr8, cr8, rfl, hur8, hbr8⟩; have HUR8 := Lib.hid hur8; clear hur8) | (go_at_call 18; (with_reducible refine (same_any (HUR7.out.below hbr8) HUR8.out (HT0.out _ (by assumption)) dgz_7 (by omega)).mono ?_); rintro e wr9 ⟨rfl, hbr9⟩) | (go_at_call 36; (with_reducible refine (cmp_any (HI1.out _ (by assumption)) (HI2.out _ (by assumption))).mono ?_); rintro e wr10 ⟨rfl, hbr10⟩) | (go_at_call 37; (with_reducible refine (rcmp_any (HR1.out _ (by assumption)) (HR2.out _ (by assumption)) (dgx.mono (by omega : 600 ≤ 600)) (dgy.mono (by omega : 600 ≤ 600)) (by omega)).mono ?_); rintro e wr11 ⟨rfl, hbr11⟩) | (go_at_call 18; (with_reducible refine (same_any (HI1.out _ (by assumption)) (HR1.out _ (by assumption)) (HT0.out _ (by assumption)) dgx (by omega)).mono ?_); rintro e wr12 ⟨rfl, hbr12⟩))
    have HCUR1 := Lib.hid (bt (bt (bt (bt (bt (bt (bt (bt (bt (bt (bt (bt (Below.drew HCUR.out) hbr1) hbr2) hbr3) hbr4) hbr5) hbr6) hbr7) hbr8) hbr9) hbr10) hbr11) hbr12)
    clear HCUR hbr1 hbr2 hbr3 hbr4 hbr5 hbr6 hbr7 hbr8 hbr9 hbr10 hbr11 hbr12
    have HCUR := HCUR1
    go_wp2
    go_ret
    exact ⟨by simp, bt HB1.out (bt BF1.out.2 HCUR.out)⟩
end Go.Proofs.YtihjaakkpnjolaaDoor
