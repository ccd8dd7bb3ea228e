/- The law IntegerRing answers true. -/
import Derived.Test.YtihjaakkpnjolaaDoorEqual
namespace Go.Proofs.YtihjaakkpnjolaaDoor
open Go.RowKit Tally Go.Lib

set_option maxHeartbeats 8000000 in
set_option maxRecDepth 100000 in
theorem lawIntegerRing {w : World} (s : ByteArray) (t : ByteArray) (u : ByteArray) (hs_s : s.size ≤ 9223372036854775807) (hs_t : t.size ≤ 9223372036854775807) (hs_u : u.size ≤ 9223372036854775807) (htab : Tab w) :
    Calls Tryd.prog 7 #[.string s, .string t, .string u] w (True1 w) := by
  have HT := Lib.hid htab
  clear htab
  go_enter Tryd.func7, Tryd.ntmps7
  go_wp2_with fail
  refine (awake_any HT.out).mono ?_
  rintro e w0 ⟨rfl, hb0⟩
  have HB0 := Lib.hid hb0
  clear hb0
  go_wp2_with fail
  refine (both_any (w := w0) s t hs_s hs_t).mono ?_
  rintro e w1 ⟨n0_1, a0_1, k0_1, c0_1, n1_1, a1_1, k1_1, c1_1, n2_1, a2_1, k2_1, c2_1, n3_1, a3_1, k3_1, c3_1, ok1, rfl, hok1, hb1⟩
  have HOK1 := Lib.hid hok1
  have HB1 := Lib.hid (bt HB0.out hb1)
  clear hok1 hb1
  have BF1 := Lib.hid (cells4_of w1 (.bool n0_1) (.slice a0_1 k0_1 c0_1) (.bool n1_1) (.slice a1_1 k1_1 c1_1) (.bool n2_1) (.slice a2_1 k2_1 c2_1) (.bool n3_1) (.slice a3_1 k3_1 c3_1))
  go_wp2_with fail
  revert BF1
  generalize ((((w1.alloc (.cells #[(.bool n0_1), (.slice a0_1 k0_1 c0_1)] 25)).alloc (.cells #[(.bool n1_1), (.slice a1_1 k1_1 c1_1)] 25)).alloc (.cells #[(.bool n2_1), (.slice a2_1 k2_1 c2_1)] 28)).alloc (.cells #[(.bool n3_1), (.slice a3_1 k3_1 c3_1)] 28)) = W1
  intro BF1
  have HW1 := Lib.hid (bt HB1.out BF1.out.2)
  refine (both_any (w := W1) u ⟨#[48]⟩ hs_u (by decide)).mono ?_
  rintro e w2 ⟨n0_2, a0_2, k0_2, c0_2, n1_2, a1_2, k1_2, c1_2, n2_2, a2_2, k2_2, c2_2, n3_2, a3_2, k3_2, c3_2, ok2, rfl, hok2, hb2⟩
  have HOK2 := Lib.hid hok2
  have HV2 := Lib.hid hb2
  have HB2 := Lib.hid (bt HW1.out hb2)
  clear hok2 hb2
  have BF2 := Lib.hid (cells4_of w2 (.bool n0_2) (.slice a0_2 k0_2 c0_2) (.bool n1_2) (.slice a1_2 k1_2 c1_2) (.bool n2_2) (.slice a2_2 k2_2 c2_2) (.bool n3_2) (.slice a3_2 k3_2 c3_2))
  cases ok1
  · cases ok2
    all_goals
      go_wp2
      go_ret
      exact ⟨rfl, bt HB2.out BF2.out.2⟩
  · cases ok2
    · go_wp2
      go_ret
      exact ⟨rfl, bt HB2.out BF2.out.2⟩
    · obtain ⟨s6, t6, cs, ct, hx, hy, ha, hb⟩ := HOK1.out (by simp)
      obtain ⟨u6, u06, cu, cu0, hz, hz0, hza, hzb⟩ := HOK2.out (by simp)
      have HX := Lib.hid hx
      have HY := Lib.hid hy
      have HA := Lib.hid ha
      have HBB := Lib.hid hb
      have HZ := Lib.hid hz
      have dgx := dg_of s6
      have dgy := dg_of t6
      have dgz := dg_of u6
      clear HOK1 HOK2 cs ct hx hy ha hb cu cu0 hz hz0 hza hzb u06
      generalize pval s.data.toList = x at *
      generalize pval t.data.toList = y at *
      generalize pval u.data.toList = z at *
      go_wp2_with fail
      revert BF2
      generalize ((((w2.alloc (.cells #[(.bool n0_2), (.slice a0_2 k0_2 c0_2)] 25)).alloc (.cells #[(.bool n1_2), (.slice a1_2 k1_2 c1_2)] 25)).alloc (.cells #[(.bool n2_2), (.slice a2_2 k2_2 c2_2)] 28)).alloc (.cells #[(.bool n3_2), (.slice a3_2 k3_2 c3_2)] 28)) = W
      intro BF2
      have HC1 := Lib.hid (BF1.out.1.next (bt HV2.out BF2.out.2))
      have HL := Lib.hid (fun (w' : World) (hb : Below W.heap.size W w') => (⟨hb, (HC1.out.next hb).cells, (BF2.out.1.next hb).cells⟩ : Below W.heap.size W w' ∧ (w'.cell? ⟨w1.heap.size, 0, none⟩ = some (.bool n0_1) ∧ w'.cell? ⟨w1.heap.size, 1, none⟩ = some (.slice a0_1 k0_1 c0_1) ∧ w'.cell? ⟨w1.heap.size + 1, 0, none⟩ = some (.bool n1_1) ∧ w'.cell? ⟨w1.heap.size + 1, 1, none⟩ = some (.slice a1_1 k1_1 c1_1) ∧ w'.cell? ⟨w1.heap.size + 1 + 1, 0, none⟩ = some (.bool n2_1) ∧ w'.cell? ⟨w1.heap.size + 1 + 1, 1, none⟩ = some (.slice a2_1 k2_1 c2_1) ∧ w'.cell? ⟨w1.heap.size + 1 + 1 + 1, 0, none⟩ = some (.bool n3_1) ∧ w'.cell? ⟨w1.heap.size + 1 + 1 + 1, 1, none⟩ = some (.slice a3_1 k3_1 c3_1)) ∧ (w'.cell? ⟨w2.heap.size, 0, none⟩ = some (.bool n0_2) ∧ w'.cell? ⟨w2.heap.size, 1, none⟩ = some (.slice a0_2 k0_2 c0_2) ∧ w'.cell? ⟨w2.heap.size + 1, 0, none⟩ = some (.bool n1_2) ∧ w'.cell? ⟨w2.heap.size + 1, 1, none⟩ = some (.slice a1_2 k1_2 c1_2) ∧ w'.cell? ⟨w2.heap.size + 1 + 1, 0, none⟩ = some (.bool n2_2) ∧ w'.cell? ⟨w2.heap.size + 1 + 1, 1, none⟩ = some (.slice a2_2 k2_2 c2_2) ∧ w'.cell? ⟨w2.heap.size + 1 + 1 + 1, 0, none⟩ = some (.bool n3_2) ∧ w'.cell? ⟨w2.heap.size + 1 + 1 + 1, 1, none⟩ = some (.slice a3_2 k3_2 c3_2))))
      have HI1 := Lib.hid (fun (w' : World) (hs : Below W.heap.size W w' ∧ (w'.cell? ⟨w1.heap.size, 0, none⟩ = some (.bool n0_1) ∧ w'.cell? ⟨w1.heap.size, 1, none⟩ = some (.slice a0_1 k0_1 c0_1) ∧ w'.cell? ⟨w1.heap.size + 1, 0, none⟩ = some (.bool n1_1) ∧ w'.cell? ⟨w1.heap.size + 1, 1, none⟩ = some (.slice a1_1 k1_1 c1_1) ∧ w'.cell? ⟨w1.heap.size + 1 + 1, 0, none⟩ = some (.bool n2_1) ∧ w'.cell? ⟨w1.heap.size + 1 + 1, 1, none⟩ = some (.slice a2_1 k2_1 c2_1) ∧ w'.cell? ⟨w1.heap.size + 1 + 1 + 1, 0, none⟩ = some (.bool n3_1) ∧ w'.cell? ⟨w1.heap.size + 1 + 1 + 1, 1, none⟩ = some (.slice a3_1 k3_1 c3_1)) ∧ (w'.cell? ⟨w2.heap.size, 0, none⟩ = some (.bool n0_2) ∧ w'.cell? ⟨w2.heap.size, 1, none⟩ = some (.slice a0_2 k0_2 c0_2) ∧ w'.cell? ⟨w2.heap.size + 1, 0, none⟩ = some (.bool n1_2) ∧ w'.cell? ⟨w2.heap.size + 1, 1, none⟩ = some (.slice a1_2 k1_2 c1_2) ∧ w'.cell? ⟨w2.heap.size + 1 + 1, 0, none⟩ = some (.bool n2_2) ∧ w'.cell? ⟨w2.heap.size + 1 + 1, 1, none⟩ = some (.slice a2_2 k2_2 c2_2) ∧ w'.cell? ⟨w2.heap.size + 1 + 1 + 1, 0, none⟩ = some (.bool n3_2) ∧ w'.cell? ⟨w2.heap.size + 1 + 1 + 1, 1, none⟩ = some (.slice a3_2 k3_2 c3_2))) => HX.out.below (bt BF1.out.2 (bt HV2.out (bt BF2.out.2 hs.1))))
      have HI2 := Lib.hid (fun (w' : World) (hs : Below W.heap.size W w' ∧ (w'.cell? ⟨w1.heap.size, 0, none⟩ = some (.bool n0_1) ∧ w'.cell? ⟨w1.heap.size, 1, none⟩ = some (.slice a0_1 k0_1 c0_1) ∧ w'.cell? ⟨w1.heap.size + 1, 0, none⟩ = some (.bool n1_1) ∧ w'.cell? ⟨w1.heap.size + 1, 1, none⟩ = some (.slice a1_1 k1_1 c1_1) ∧ w'.cell? ⟨w1.heap.size + 1 + 1, 0, none⟩ = some (.bool n2_1) ∧ w'.cell? ⟨w1.heap.size + 1 + 1, 1, none⟩ = some (.slice a2_1 k2_1 c2_1) ∧ w'.cell? ⟨w1.heap.size + 1 + 1 + 1, 0, none⟩ = some (.bool n3_1) ∧ w'.cell? ⟨w1.heap.size + 1 + 1 + 1, 1, none⟩ = some (.slice a3_1 k3_1 c3_1)) ∧ (w'.cell? ⟨w2.heap.size, 0, none⟩ = some (.bool n0_2) ∧ w'.cell? ⟨w2.heap.size, 1, none⟩ = some (.slice a0_2 k0_2 c0_2) ∧ w'.cell? ⟨w2.heap.size + 1, 0, none⟩ = some (.bool n1_2) ∧ w'.cell? ⟨w2.heap.size + 1, 1, none⟩ = some (.slice a1_2 k1_2 c1_2) ∧ w'.cell? ⟨w2.heap.size + 1 + 1, 0, none⟩ = some (.bool n2_2) ∧ w'.cell? ⟨w2.heap.size + 1 + 1, 1, none⟩ = some (.slice a2_2 k2_2 c2_2) ∧ w'.cell? ⟨w2.heap.size + 1 + 1 + 1, 0, none⟩ = some (.bool n3_2) ∧ w'.cell? ⟨w2.heap.size + 1 + 1 + 1, 1, none⟩ = some (.slice a3_2 k3_2 c3_2))) => HY.out.below (bt BF1.out.2 (bt HV2.out (bt BF2.out.2 hs.1))))
      have HR1 := Lib.hid (fun (w' : World) (hs : Below W.heap.size W w' ∧ (w'.cell? ⟨w1.heap.size, 0, none⟩ = some (.bool n0_1) ∧ w'.cell? ⟨w1.heap.size, 1, none⟩ = some (.slice a0_1 k0_1 c0_1) ∧ w'.cell? ⟨w1.heap.size + 1, 0, none⟩ = some (.bool n1_1) ∧ w'.cell? ⟨w1.heap.size + 1, 1, none⟩ = some (.slice a1_1 k1_1 c1_1) ∧ w'.cell? ⟨w1.heap.size + 1 + 1, 0, none⟩ = some (.bool n2_1) ∧ w'.cell? ⟨w1.heap.size + 1 + 1, 1, none⟩ = some (.slice a2_1 k2_1 c2_1) ∧ w'.cell? ⟨w1.heap.size + 1 + 1 + 1, 0, none⟩ = some (.bool n3_1) ∧ w'.cell? ⟨w1.heap.size + 1 + 1 + 1, 1, none⟩ = some (.slice a3_1 k3_1 c3_1)) ∧ (w'.cell? ⟨w2.heap.size, 0, none⟩ = some (.bool n0_2) ∧ w'.cell? ⟨w2.heap.size, 1, none⟩ = some (.slice a0_2 k0_2 c0_2) ∧ w'.cell? ⟨w2.heap.size + 1, 0, none⟩ = some (.bool n1_2) ∧ w'.cell? ⟨w2.heap.size + 1, 1, none⟩ = some (.slice a1_2 k1_2 c1_2) ∧ w'.cell? ⟨w2.heap.size + 1 + 1, 0, none⟩ = some (.bool n2_2) ∧ w'.cell? ⟨w2.heap.size + 1 + 1, 1, none⟩ = some (.slice a2_2 k2_2 c2_2) ∧ w'.cell? ⟨w2.heap.size + 1 + 1 + 1, 0, none⟩ = some (.bool n3_2) ∧ w'.cell? ⟨w2.heap.size + 1 + 1 + 1, 1, none⟩ = some (.slice a3_2 k3_2 c3_2))) => HA.out.below (bt BF1.out.2 (bt HV2.out (bt BF2.out.2 hs.1))))
      have HR2 := Lib.hid (fun (w' : World) (hs : Below W.heap.size W w' ∧ (w'.cell? ⟨w1.heap.size, 0, none⟩ = some (.bool n0_1) ∧ w'.cell? ⟨w1.heap.size, 1, none⟩ = some (.slice a0_1 k0_1 c0_1) ∧ w'.cell? ⟨w1.heap.size + 1, 0, none⟩ = some (.bool n1_1) ∧ w'.cell? ⟨w1.heap.size + 1, 1, none⟩ = some (.slice a1_1 k1_1 c1_1) ∧ w'.cell? ⟨w1.heap.size + 1 + 1, 0, none⟩ = some (.bool n2_1) ∧ w'.cell? ⟨w1.heap.size + 1 + 1, 1, none⟩ = some (.slice a2_1 k2_1 c2_1) ∧ w'.cell? ⟨w1.heap.size + 1 + 1 + 1, 0, none⟩ = some (.bool n3_1) ∧ w'.cell? ⟨w1.heap.size + 1 + 1 + 1, 1, none⟩ = some (.slice a3_1 k3_1 c3_1)) ∧ (w'.cell? ⟨w2.heap.size, 0, none⟩ = some (.bool n0_2) ∧ w'.cell? ⟨w2.heap.size, 1, none⟩ = some (.slice a0_2 k0_2 c0_2) ∧ w'.cell? ⟨w2.heap.size + 1, 0, none⟩ = some (.bool n1_2) ∧ w'.cell? ⟨w2.heap.size + 1, 1, none⟩ = some (.slice a1_2 k1_2 c1_2) ∧ w'.cell? ⟨w2.heap.size + 1 + 1, 0, none⟩ = some (.bool n2_2) ∧ w'.cell? ⟨w2.heap.size + 1 + 1, 1, none⟩ = some (.slice a2_2 k2_2 c2_2) ∧ w'.cell? ⟨w2.heap.size + 1 + 1 + 1, 0, none⟩ = some (.bool n3_2) ∧ w'.cell? ⟨w2.heap.size + 1 + 1 + 1, 1, none⟩ = some (.slice a3_2 k3_2 c3_2))) => HBB.out.below (bt BF1.out.2 (bt HV2.out (bt BF2.out.2 hs.1))))
      have HI3 := Lib.hid (fun (w' : World) (hs : Below W.heap.size W w' ∧ (w'.cell? ⟨w1.heap.size, 0, none⟩ = some (.bool n0_1) ∧ w'.cell? ⟨w1.heap.size, 1, none⟩ = some (.slice a0_1 k0_1 c0_1) ∧ w'.cell? ⟨w1.heap.size + 1, 0, none⟩ = some (.bool n1_1) ∧ w'.cell? ⟨w1.heap.size + 1, 1, none⟩ = some (.slice a1_1 k1_1 c1_1) ∧ w'.cell? ⟨w1.heap.size + 1 + 1, 0, none⟩ = some (.bool n2_1) ∧ w'.cell? ⟨w1.heap.size + 1 + 1, 1, none⟩ = some (.slice a2_1 k2_1 c2_1) ∧ w'.cell? ⟨w1.heap.size + 1 + 1 + 1, 0, none⟩ = some (.bool n3_1) ∧ w'.cell? ⟨w1.heap.size + 1 + 1 + 1, 1, none⟩ = some (.slice a3_1 k3_1 c3_1)) ∧ (w'.cell? ⟨w2.heap.size, 0, none⟩ = some (.bool n0_2) ∧ w'.cell? ⟨w2.heap.size, 1, none⟩ = some (.slice a0_2 k0_2 c0_2) ∧ w'.cell? ⟨w2.heap.size + 1, 0, none⟩ = some (.bool n1_2) ∧ w'.cell? ⟨w2.heap.size + 1, 1, none⟩ = some (.slice a1_2 k1_2 c1_2) ∧ w'.cell? ⟨w2.heap.size + 1 + 1, 0, none⟩ = some (.bool n2_2) ∧ w'.cell? ⟨w2.heap.size + 1 + 1, 1, none⟩ = some (.slice a2_2 k2_2 c2_2) ∧ w'.cell? ⟨w2.heap.size + 1 + 1 + 1, 0, none⟩ = some (.bool n3_2) ∧ w'.cell? ⟨w2.heap.size + 1 + 1 + 1, 1, none⟩ = some (.slice a3_2 k3_2 c3_2))) => HZ.out.below (bt BF2.out.2 hs.1))
      have HT0 := Lib.hid (fun (w' : World) (hs : Below W.heap.size W w' ∧ (w'.cell? ⟨w1.heap.size, 0, none⟩ = some (.bool n0_1) ∧ w'.cell? ⟨w1.heap.size, 1, none⟩ = some (.slice a0_1 k0_1 c0_1) ∧ w'.cell? ⟨w1.heap.size + 1, 0, none⟩ = some (.bool n1_1) ∧ w'.cell? ⟨w1.heap.size + 1, 1, none⟩ = some (.slice a1_1 k1_1 c1_1) ∧ w'.cell? ⟨w1.heap.size + 1 + 1, 0, none⟩ = some (.bool n2_1) ∧ w'.cell? ⟨w1.heap.size + 1 + 1, 1, none⟩ = some (.slice a2_1 k2_1 c2_1) ∧ w'.cell? ⟨w1.heap.size + 1 + 1 + 1, 0, none⟩ = some (.bool n3_1) ∧ w'.cell? ⟨w1.heap.size + 1 + 1 + 1, 1, none⟩ = some (.slice a3_1 k3_1 c3_1)) ∧ (w'.cell? ⟨w2.heap.size, 0, none⟩ = some (.bool n0_2) ∧ w'.cell? ⟨w2.heap.size, 1, none⟩ = some (.slice a0_2 k0_2 c0_2) ∧ w'.cell? ⟨w2.heap.size + 1, 0, none⟩ = some (.bool n1_2) ∧ w'.cell? ⟨w2.heap.size + 1, 1, none⟩ = some (.slice a1_2 k1_2 c1_2) ∧ w'.cell? ⟨w2.heap.size + 1 + 1, 0, none⟩ = some (.bool n2_2) ∧ w'.cell? ⟨w2.heap.size + 1 + 1, 1, none⟩ = some (.slice a2_2 k2_2 c2_2) ∧ w'.cell? ⟨w2.heap.size + 1 + 1 + 1, 0, none⟩ = some (.bool n3_2) ∧ w'.cell? ⟨w2.heap.size + 1 + 1 + 1, 1, none⟩ = some (.slice a3_2 k3_2 c3_2))) => HT.out.below (bt HB2.out (bt BF2.out.2 hs.1)))
      have HCUR := Lib.hid (Below.refl W.heap.size W)
      have dgz_1 : Dg 601 (x + y) := Dg.add (dgx.mono (by omega : 600 ≤ 600)) (dgy.mono (by omega : 600 ≤ 600))
      have dgz_2 : Dg 601 (y + x) := Dg.add (dgy.mono (by omega : 600 ≤ 600)) (dgx.mono (by omega : 600 ≤ 600))
      have ez_3' : (y + x) = (x + y) := by grind
      have ez_3 := Lib.hid ez_3'
      clear ez_3'
      have dgz_4 : Dg 1200 (x * y) := (Dg.mul (dgx.mono (by omega : 600 ≤ 600)) (dgy.mono (by omega : 600 ≤ 600))).mono (by omega)
      have dgz_5 : Dg 1200 (y * x) := (Dg.mul (dgy.mono (by omega : 600 ≤ 600)) (dgx.mono (by omega : 600 ≤ 600))).mono (by omega)
      have ez_6' : (y * x) = (x * y) := by grind
      have ez_6 := Lib.hid ez_6'
      clear ez_6'
      go_region_held3 (fun w' => Below W.heap.size W w' ∧ (w'.cell? ⟨w1.heap.size, 0, none⟩ = some (.bool n0_1) ∧ w'.cell? ⟨w1.heap.size, 1, none⟩ = some (.slice a0_1 k0_1 c0_1) ∧ w'.cell? ⟨w1.heap.size + 1, 0, none⟩ = some (.bool n1_1) ∧ w'.cell? ⟨w1.heap.size + 1, 1, none⟩ = some (.slice a1_1 k1_1 c1_1) ∧ w'.cell? ⟨w1.heap.size + 1 + 1, 0, none⟩ = some (.bool n2_1) ∧ w'.cell? ⟨w1.heap.size + 1 + 1, 1, none⟩ = some (.slice a2_1 k2_1 c2_1) ∧ w'.cell? ⟨w1.heap.size + 1 + 1 + 1, 0, none⟩ = some (.bool n3_1) ∧ w'.cell? ⟨w1.heap.size + 1 + 1 + 1, 1, none⟩ = some (.slice a3_1 k3_1 c3_1)) ∧ (w'.cell? ⟨w2.heap.size, 0, none⟩ = some (.bool n0_2) ∧ w'.cell? ⟨w2.heap.size, 1, none⟩ = some (.slice a0_2 k0_2 c0_2) ∧ w'.cell? ⟨w2.heap.size + 1, 0, none⟩ = some (.bool n1_2) ∧ w'.cell? ⟨w2.heap.size + 1, 1, none⟩ = some (.slice a1_2 k1_2 c1_2) ∧ w'.cell? ⟨w2.heap.size + 1 + 1, 0, none⟩ = some (.bool n2_2) ∧ w'.cell? ⟨w2.heap.size + 1 + 1, 1, none⟩ = some (.slice a2_2 k2_2 c2_2) ∧ w'.cell? ⟨w2.heap.size + 1 + 1 + 1, 0, none⟩ = some (.bool n3_2) ∧ w'.cell? ⟨w2.heap.size + 1 + 1 + 1, 1, none⟩ = some (.slice a3_2 k3_2 c3_2)))
        (first | exact HL.out _ (Below.drew HCUR.out) | exact HL.out _ (bt (And.left (by assumption)) (by assumption)))
        (first | (go_at_call 30; (with_reducible refine (add_any (HI1.out _ (by assumption)) (HI2.out _ (by assumption)) (dgx.mono (by omega : 600 ≤ 600)) (dgy.mono (by omega : 600 ≤ 600)) (by omega)).mono ?_); rintro e wr1 ⟨nr1, ar1, kr1, cr1, rfl, hur1, hbr1⟩; have HUR1 := Lib.hid hur1; clear hur1) | (go_at_call 30; (with_reducible refine (add_any (HI2.out _ (by assumption)) (HI1.out _ (by assumption)) (dgy.mono (by omega : 600 ≤ 600)) (dgx.mono (by omega : 600 ≤ 600)) (by omega)).mono ?_); rintro e wr2 ⟨nr2, ar2, kr2, cr2, rfl, hur2, hbr2⟩; have HUR2 := Lib.hid hur2; clear hur2) | (go_at_call 38; (with_reducible refine (equal_any (HUR1.out.below hbr2) (HUR2.out.cast ez_3.out) (HT0.out _ (by assumption)) dgz_1 (by omega)).mono ?_); rintro e wr3 ⟨rfl, hbr3⟩) | (go_at_call 19; (with_reducible refine (mul_any (HI1.out _ (by assumption)) (HI2.out _ (by assumption)) (dgx.mono (by omega : 600 ≤ 600)) (dgy.mono (by omega : 600 ≤ 600)) (by omega)).mono ?_); rintro e wr4 ⟨nr4, ar4, kr4, cr4, rfl, hur4, hbr4⟩; have HUR4 := Lib.hid hur4; clear hur4) | (go_at_call 19; (with_reducible refine (mul_any (HI2.out _ (by assumption)) (HI1.out _ (by assumption)) (dgy.mono (by omega : 600 ≤ 600)) (dgx.mono (by omega : 600 ≤ 600)) (by omega)).mono ?_); rintro e wr5 ⟨nr5, ar5, kr5, cr5, rfl, hur5, hbr5⟩; have HUR5 := Lib.hid hur5; clear hur5) | (go_at_call 38; (with_reducible refine (equal_any (HUR4.out.below hbr5) (HUR5.out.cast ez_6.out) (HT0.out _ (by assumption)) dgz_4 (by omega)).mono ?_); rintro e wr6 ⟨rfl, hbr6⟩))
      have HCUR1 := Lib.hid (bt (bt (bt (bt (bt (bt (Below.drew HCUR.out) hbr1) hbr2) hbr3) hbr4) hbr5) hbr6)
      clear HCUR hbr1 hbr2 hbr3 hbr4 hbr5 hbr6
      have HCUR := HCUR1
      go_wp2_with fail
      have dgz_7 : Dg 601 (x + y) := Dg.add (dgx.mono (by omega : 600 ≤ 600)) (dgy.mono (by omega : 600 ≤ 600))
      have dgz_8 : Dg 602 ((x + y) + z) := Dg.add (dgz_7.mono (by omega : 601 ≤ 601)) (dgz.mono (by omega : 600 ≤ 601))
      have dgz_9 : Dg 601 (y + z) := Dg.add (dgy.mono (by omega : 600 ≤ 600)) (dgz.mono (by omega : 600 ≤ 600))
      have dgz_10 : Dg 602 (x + (y + z)) := Dg.add (dgx.mono (by omega : 600 ≤ 601)) (dgz_9.mono (by omega : 601 ≤ 601))
      have ez_11' : (x + (y + z)) = ((x + y) + z) := by grind
      have ez_11 := Lib.hid ez_11'
      clear ez_11'
      have dgz_12 : Dg 1200 (x * y) := (Dg.mul (dgx.mono (by omega : 600 ≤ 600)) (dgy.mono (by omega : 600 ≤ 600))).mono (by omega)
      have dgz_13 : Dg 2400 ((x * y) * z) := (Dg.mul (dgz_12.mono (by omega : 1200 ≤ 1200)) (dgz.mono (by omega : 600 ≤ 1200))).mono (by omega)
      have dgz_14 : Dg 1200 (y * z) := (Dg.mul (dgy.mono (by omega : 600 ≤ 600)) (dgz.mono (by omega : 600 ≤ 600))).mono (by omega)
      have dgz_15 : Dg 2400 (x * (y * z)) := (Dg.mul (dgx.mono (by omega : 600 ≤ 1200)) (dgz_14.mono (by omega : 1200 ≤ 1200))).mono (by omega)
      have ez_16' : (x * (y * z)) = ((x * y) * z) := by grind
      have ez_16 := Lib.hid ez_16'
      clear ez_16'
      go_region_held3 (fun w' => Below W.heap.size W w' ∧ (w'.cell? ⟨w1.heap.size, 0, none⟩ = some (.bool n0_1) ∧ w'.cell? ⟨w1.heap.size, 1, none⟩ = some (.slice a0_1 k0_1 c0_1) ∧ w'.cell? ⟨w1.heap.size + 1, 0, none⟩ = some (.bool n1_1) ∧ w'.cell? ⟨w1.heap.size + 1, 1, none⟩ = some (.slice a1_1 k1_1 c1_1) ∧ w'.cell? ⟨w1.heap.size + 1 + 1, 0, none⟩ = some (.bool n2_1) ∧ w'.cell? ⟨w1.heap.size + 1 + 1, 1, none⟩ = some (.slice a2_1 k2_1 c2_1) ∧ w'.cell? ⟨w1.heap.size + 1 + 1 + 1, 0, none⟩ = some (.bool n3_1) ∧ w'.cell? ⟨w1.heap.size + 1 + 1 + 1, 1, none⟩ = some (.slice a3_1 k3_1 c3_1)) ∧ (w'.cell? ⟨w2.heap.size, 0, none⟩ = some (.bool n0_2) ∧ w'.cell? ⟨w2.heap.size, 1, none⟩ = some (.slice a0_2 k0_2 c0_2) ∧ w'.cell? ⟨w2.heap.size + 1, 0, none⟩ = some (.bool n1_2) ∧ w'.cell? ⟨w2.heap.size + 1, 1, none⟩ = some (.slice a1_2 k1_2 c1_2) ∧ w'.cell? ⟨w2.heap.size + 1 + 1, 0, none⟩ = some (.bool n2_2) ∧ w'.cell? ⟨w2.heap.size + 1 + 1, 1, none⟩ = some (.slice a2_2 k2_2 c2_2) ∧ w'.cell? ⟨w2.heap.size + 1 + 1 + 1, 0, none⟩ = some (.bool n3_2) ∧ w'.cell? ⟨w2.heap.size + 1 + 1 + 1, 1, none⟩ = some (.slice a3_2 k3_2 c3_2)))
        (first | exact HL.out _ (Below.drew HCUR.out) | exact HL.out _ (bt (And.left (by assumption)) (by assumption)))
        (first | (go_at_call 30; (with_reducible refine (add_any (HI1.out _ (by assumption)) (HI2.out _ (by assumption)) (dgx.mono (by omega : 600 ≤ 600)) (dgy.mono (by omega : 600 ≤ 600)) (by omega)).mono ?_); rintro e wr7 ⟨nr7, ar7, kr7, cr7, rfl, hur7, hbr7⟩; have HUR7 := Lib.hid hur7; clear hur7) | (go_at_call 30; (with_reducible refine (add_any HUR7.out (HI3.out _ (by assumption)) (dgz_7.mono (by omega : 601 ≤ 601)) (dgz.mono (by omega : 600 ≤ 601)) (by omega)).mono ?_); rintro e wr8 ⟨nr8, ar8, kr8, cr8, rfl, hur8, hbr8⟩; have HUR8 := Lib.hid hur8; clear hur8) | (go_at_call 30; (with_reducible refine (add_any (HI2.out _ (by assumption)) (HI3.out _ (by assumption)) (dgy.mono (by omega : 600 ≤ 600)) (dgz.mono (by omega : 600 ≤ 600)) (by omega)).mono ?_); rintro e wr9 ⟨nr9, ar9, kr9, cr9, rfl, hur9, hbr9⟩; have HUR9 := Lib.hid hur9; clear hur9) | (go_at_call 30; (with_reducible refine (add_any (HI1.out _ (by assumption)) HUR9.out (dgx.mono (by omega : 600 ≤ 601)) (dgz_9.mono (by omega : 601 ≤ 601)) (by omega)).mono ?_); rintro e wr10 ⟨nr10, ar10, kr10, cr10, rfl, hur10, hbr10⟩; have HUR10 := Lib.hid hur10; clear hur10) | (go_at_call 38; (with_reducible refine (equal_any ((HUR8.out.below hbr9).below hbr10) (HUR10.out.cast ez_11.out) (HT0.out _ (by assumption)) dgz_8 (by omega)).mono ?_); rintro e wr11 ⟨rfl, hbr11⟩) | (go_at_call 19; (with_reducible refine (mul_any (HI1.out _ (by assumption)) (HI2.out _ (by assumption)) (dgx.mono (by omega : 600 ≤ 600)) (dgy.mono (by omega : 600 ≤ 600)) (by omega)).mono ?_); rintro e wr12 ⟨nr12, ar12, kr12, cr12, rfl, hur12, hbr12⟩; have HUR12 := Lib.hid hur12; clear hur12) | (go_at_call 19; (with_reducible refine (mul_any HUR12.out (HI3.out _ (by assumption)) (dgz_12.mono (by omega : 1200 ≤ 1200)) (dgz.mono (by omega : 600 ≤ 1200)) (by omega)).mono ?_); rintro e wr13 ⟨nr13, ar13, kr13, cr13, rfl, hur13, hbr13⟩; have HUR13 := Lib.hid hur13; clear hur13) | (go_at_call 19; (with_reducible refine (mul_any (HI2.out _ (by assumption)) (HI3.out _ (by assumption)) (dgy.mono (by omega : 600 ≤ 600)) (dgz.mono (by omega : 600 ≤ 600)) (by omega)).mono ?_); rintro e wr14 ⟨nr14, ar14, kr14, cr14, rfl, hur14, hbr14⟩; have HUR14 := Lib.hid hur14; clear hur14) | (go_at_call 19; (with_reducible refine (mul_any (HI1.out _ (by assumption)) HUR14.out (dgx.mono (by omega : 600 ≤ 1200)) (dgz_14.mono (by omega : 1200 ≤ 1200)) (by omega)).mono ?_); rintro e wr15 ⟨nr15, ar15, kr15, cr15, rfl, hur15, hbr15⟩; have HUR15 := Lib.hid hur15; clear hur15) | (go_at_call 38; (with_reducible refine (equal_any ((HUR13.out.below hbr14).below hbr15) (HUR15.out.cast ez_16.out) (HT0.out _ (by assumption)) dgz_13 (by omega)).mono ?_); rintro e wr16 ⟨rfl, hbr16⟩))
      have HCUR2 := Lib.hid (bt (bt (bt (bt (bt (bt (bt (bt (bt (bt (Below.drew HCUR.out) hbr7) hbr8) hbr9) hbr10) hbr11) hbr12) hbr13) hbr14) hbr15) hbr16)
      clear HCUR hbr7 hbr8 hbr9 hbr10 hbr11 hbr12 hbr13 hbr14 hbr15 hbr16
      have HCUR := HCUR2
      have EXX := Lib.hid (show (x - x).sign = 0 by simp)
      go_wp2_with fail
      have dgz_17 : Dg 601 (y + z) := Dg.add (dgy.mono (by omega : 600 ≤ 600)) (dgz.mono (by omega : 600 ≤ 600))
      have dgz_18 : Dg 1202 (x * (y + z)) := (Dg.mul (dgx.mono (by omega : 600 ≤ 601)) (dgz_17.mono (by omega : 601 ≤ 601))).mono (by omega)
      have dgz_19 : Dg 1200 (x * y) := (Dg.mul (dgx.mono (by omega : 600 ≤ 600)) (dgy.mono (by omega : 600 ≤ 600))).mono (by omega)
      have dgz_20 : Dg 1200 (x * z) := (Dg.mul (dgx.mono (by omega : 600 ≤ 600)) (dgz.mono (by omega : 600 ≤ 600))).mono (by omega)
      have dgz_21 : Dg 1201 ((x * y) + (x * z)) := Dg.add (dgz_19.mono (by omega : 1200 ≤ 1200)) (dgz_20.mono (by omega : 1200 ≤ 1200))
      have ez_22' : ((x * y) + (x * z)) = (x * (y + z)) := by grind
      have ez_22 := Lib.hid ez_22'
      clear ez_22'
      have dgz_23 : Dg 601 (x - y) := Dg.sub (dgx.mono (by omega : 600 ≤ 600)) (dgy.mono (by omega : 600 ≤ 600))
      have dgz_24 : Dg 600 (-y) := dgy.neg
      have dgz_25 : Dg 601 (x + (-y)) := Dg.add (dgx.mono (by omega : 600 ≤ 600)) (dgz_24.mono (by omega : 600 ≤ 600))
      have ez_26' : (x + (-y)) = (x - y) := by grind
      have ez_26 := Lib.hid ez_26'
      clear ez_26'
      have dgz_27 : Dg 601 (x - x) := Dg.sub (dgx.mono (by omega : 600 ≤ 600)) (dgx.mono (by omega : 600 ≤ 600))
      go_region_held3 (fun w' => Below W.heap.size W w' ∧ (w'.cell? ⟨w1.heap.size, 0, none⟩ = some (.bool n0_1) ∧ w'.cell? ⟨w1.heap.size, 1, none⟩ = some (.slice a0_1 k0_1 c0_1) ∧ w'.cell? ⟨w1.heap.size + 1, 0, none⟩ = some (.bool n1_1) ∧ w'.cell? ⟨w1.heap.size + 1, 1, none⟩ = some (.slice a1_1 k1_1 c1_1) ∧ w'.cell? ⟨w1.heap.size + 1 + 1, 0, none⟩ = some (.bool n2_1) ∧ w'.cell? ⟨w1.heap.size + 1 + 1, 1, none⟩ = some (.slice a2_1 k2_1 c2_1) ∧ w'.cell? ⟨w1.heap.size + 1 + 1 + 1, 0, none⟩ = some (.bool n3_1) ∧ w'.cell? ⟨w1.heap.size + 1 + 1 + 1, 1, none⟩ = some (.slice a3_1 k3_1 c3_1)) ∧ (w'.cell? ⟨w2.heap.size, 0, none⟩ = some (.bool n0_2) ∧ w'.cell? ⟨w2.heap.size, 1, none⟩ = some (.slice a0_2 k0_2 c0_2) ∧ w'.cell? ⟨w2.heap.size + 1, 0, none⟩ = some (.bool n1_2) ∧ w'.cell? ⟨w2.heap.size + 1, 1, none⟩ = some (.slice a1_2 k1_2 c1_2) ∧ w'.cell? ⟨w2.heap.size + 1 + 1, 0, none⟩ = some (.bool n2_2) ∧ w'.cell? ⟨w2.heap.size + 1 + 1, 1, none⟩ = some (.slice a2_2 k2_2 c2_2) ∧ w'.cell? ⟨w2.heap.size + 1 + 1 + 1, 0, none⟩ = some (.bool n3_2) ∧ w'.cell? ⟨w2.heap.size + 1 + 1 + 1, 1, none⟩ = some (.slice a3_2 k3_2 c3_2)))
        (first | exact HL.out _ (Below.drew HCUR.out) | exact HL.out _ (bt (And.left (by assumption)) (by assumption)))
        (first | (go_at_call 30; (with_reducible refine (add_any (HI2.out _ (by assumption)) (HI3.out _ (by assumption)) (dgy.mono (by omega : 600 ≤ 600)) (dgz.mono (by omega : 600 ≤ 600)) (by omega)).mono ?_); rintro e wr17 ⟨nr17, ar17, kr17, cr17, rfl, hur17, hbr17⟩; have HUR17 := Lib.hid hur17; clear hur17) | (go_at_call 19; (with_reducible refine (mul_any (HI1.out _ (by assumption)) HUR17.out (dgx.mono (by omega : 600 ≤ 601)) (dgz_17.mono (by omega : 601 ≤ 601)) (by omega)).mono ?_); rintro e wr18 ⟨nr18, ar18, kr18, cr18, rfl, hur18, hbr18⟩; have HUR18 := Lib.hid hur18; clear hur18) | (go_at_call 19; (with_reducible refine (mul_any (HI1.out _ (by assumption)) (HI2.out _ (by assumption)) (dgx.mono (by omega : 600 ≤ 600)) (dgy.mono (by omega : 600 ≤ 600)) (by omega)).mono ?_); rintro e wr19 ⟨nr19, ar19, kr19, cr19, rfl, hur19, hbr19⟩; have HUR19 := Lib.hid hur19; clear hur19) | (go_at_call 19; (with_reducible refine (mul_any (HI1.out _ (by assumption)) (HI3.out _ (by assumption)) (dgx.mono (by omega : 600 ≤ 600)) (dgz.mono (by omega : 600 ≤ 600)) (by omega)).mono ?_); rintro e wr20 ⟨nr20, ar20, kr20, cr20, rfl, hur20, hbr20⟩; have HUR20 := Lib.hid hur20; clear hur20) | (go_at_call 30; (with_reducible refine (add_any (HUR19.out.below hbr20) HUR20.out (dgz_19.mono (by omega : 1200 ≤ 1200)) (dgz_20.mono (by omega : 1200 ≤ 1200)) (by omega)).mono ?_); rintro e wr21 ⟨nr21, ar21, kr21, cr21, rfl, hur21, hbr21⟩; have HUR21 := Lib.hid hur21; clear hur21) | (go_at_call 38; (with_reducible refine (equal_any (((HUR18.out.below hbr19).below hbr20).below hbr21) (HUR21.out.cast ez_22.out) (HT0.out _ (by assumption)) dgz_18 (by omega)).mono ?_); rintro e wr22 ⟨rfl, hbr22⟩) | (go_at_call 32; (with_reducible refine (sub_any (HI1.out _ (by assumption)) (HI2.out _ (by assumption)) (dgx.mono (by omega : 600 ≤ 600)) (dgy.mono (by omega : 600 ≤ 600)) (by omega)).mono ?_); rintro e wr23 ⟨nr23, ar23, kr23, cr23, rfl, hur23, hbr23⟩; have HUR23 := Lib.hid hur23; clear hur23) | (go_at_call 34; (with_reducible refine (neg_any (HI2.out _ (by assumption))).mono ?_); rintro e wr24 ⟨nr24, ar24, kr24, cr24, rfl, hur24, hbr24⟩; have HUR24 := Lib.hid hur24; clear hur24) | (go_at_call 30; (with_reducible refine (add_any (HI1.out _ (by assumption)) HUR24.out (dgx.mono (by omega : 600 ≤ 600)) (dgz_24.mono (by omega : 600 ≤ 600)) (by omega)).mono ?_); rintro e wr25 ⟨nr25, ar25, kr25, cr25, rfl, hur25, hbr25⟩; have HUR25 := Lib.hid hur25; clear hur25) | (go_at_call 38; (with_reducible refine (equal_any ((HUR23.out.below hbr24).below hbr25) (HUR25.out.cast ez_26.out) (HT0.out _ (by assumption)) dgz_23 (by omega)).mono ?_); rintro e wr26 ⟨rfl, hbr26⟩) | (go_at_call 32; (with_reducible refine (sub_any (HI1.out _ (by assumption)) (HI1.out _ (by assumption)) (dgx.mono (by omega : 600 ≤ 600)) (dgx.mono (by omega : 600 ≤ 600)) (by omega)).mono ?_); rintro e wr27 ⟨nr27, ar27, kr27, cr27, rfl, hur27, hbr27⟩; have HUR27 := Lib.hid hur27; clear hur27) | (go_at_call 23; (with_reducible refine (sign_any HUR27.out).mono ?_); rintro e wr28 ⟨rfl, hbr28⟩; rw [EXX.out]))
      have HCUR3 := Lib.hid (bt (bt (bt (bt (bt (bt (bt (bt (bt (bt (bt (bt (Below.drew HCUR.out) hbr17) hbr18) hbr19) hbr20) hbr21) hbr22) hbr23) hbr24) hbr25) hbr26) hbr27) hbr28)
      clear HCUR hbr17 hbr18 hbr19 hbr20 hbr21 hbr22 hbr23 hbr24 hbr25 hbr26 hbr27 hbr28
      have HCUR := HCUR3
      go_wp2
      go_ret
      exact ⟨by simp, bt HB2.out (bt BF2.out.2 HCUR.out)⟩
end Go.Proofs.YtihjaakkpnjolaaDoor
