/- The law IntegerOrder answers true. -/
import Derived.Test.YtihjaakkpnjolaaDoorEqual
namespace Go.Proofs.YtihjaakkpnjolaaDoor
open Go.RowKit Tally Go.Lib

theorem sign_bd (z : Int) : -1 ≤ z.sign ∧ z.sign ≤ 1 := by
  rcases Int.lt_trichotomy z 0 with h | h | h
  · rw [Int.sign_eq_neg_one_of_neg h]; decide
  · subst h; decide
  · rw [Int.sign_eq_one_of_pos h]; decide

set_option maxHeartbeats 8000000 in
set_option maxRecDepth 100000 in
theorem lawIntegerOrder {w : World} (s : ByteArray) (t : ByteArray) (u : ByteArray) (hs_s : s.size ≤ 9223372036854775807) (hs_t : t.size ≤ 9223372036854775807) (hs_u : u.size ≤ 9223372036854775807) (htab : Tab w) :
    Calls Tryd.prog 8 #[.string s, .string t, .string u] w (True1 w) := by
  have HT := Lib.hid htab
  clear htab
  go_enter Tryd.func8, Tryd.ntmps8
  go_wp2_with fail
  refine (awake_any HT.out).mono ?_
  rintro e w0 ⟨rfl, hb0⟩
  have HB0 := Lib.hid hb0
  clear hb0
  go_wp2_with fail
  refine (both_any (w := w0) s t hs_s hs_t).mono ?_
  rintro e w1 ⟨n0_1, a0_1, k0_1, c0_1, n1_1, a1_1, k1_1, c1_1, n2_1, a2_1, k2_1, c2_1, n3_1, a3_1, k3_1, c3_1, ok1, rfl, hok1, hb1⟩
  have HOK1 := Lib.hid hok1
  have HB1 := Lib.hid (bt HB0.out hb1)
  clear hok1 hb1
  have BF1 := Lib.hid (cells4_of w1 (.bool n0_1) (.slice a0_1 k0_1 c0_1) (.bool n1_1) (.slice a1_1 k1_1 c1_1) (.bool n2_1) (.slice a2_1 k2_1 c2_1) (.bool n3_1) (.slice a3_1 k3_1 c3_1))
  go_wp2_with fail
  revert BF1
  generalize ((((w1.alloc (.cells #[(.bool n0_1), (.slice a0_1 k0_1 c0_1)] 25)).alloc (.cells #[(.bool n1_1), (.slice a1_1 k1_1 c1_1)] 25)).alloc (.cells #[(.bool n2_1), (.slice a2_1 k2_1 c2_1)] 28)).alloc (.cells #[(.bool n3_1), (.slice a3_1 k3_1 c3_1)] 28)) = W1
  intro BF1
  have HW1 := Lib.hid (bt HB1.out BF1.out.2)
  refine (both_any (w := W1) u ⟨#[48]⟩ hs_u (by decide)).mono ?_
  rintro e w2 ⟨n0_2, a0_2, k0_2, c0_2, n1_2, a1_2, k1_2, c1_2, n2_2, a2_2, k2_2, c2_2, n3_2, a3_2, k3_2, c3_2, ok2, rfl, hok2, hb2⟩
  have HOK2 := Lib.hid hok2
  have HV2 := Lib.hid hb2
  have HB2 := Lib.hid (bt HW1.out hb2)
  clear hok2 hb2
  have BF2 := Lib.hid (cells4_of w2 (.bool n0_2) (.slice a0_2 k0_2 c0_2) (.bool n1_2) (.slice a1_2 k1_2 c1_2) (.bool n2_2) (.slice a2_2 k2_2 c2_2) (.bool n3_2) (.slice a3_2 k3_2 c3_2))
  cases ok1
  · cases ok2
    all_goals
      go_wp2
      go_ret
      exact ⟨rfl, bt HB2.out BF2.out.2⟩
  · cases ok2
    · go_wp2
      go_ret
      exact ⟨rfl, bt HB2.out BF2.out.2⟩
    · obtain ⟨s6, t6, cs, ct, hx, hy, ha, hb⟩ := HOK1.out (by simp)
      obtain ⟨u6, u06, cu, cu0, hz, hz0, hza, hzb⟩ := HOK2.out (by simp)
      have HX := Lib.hid hx
      have HY := Lib.hid hy
      have HA := Lib.hid ha
      have HBB := Lib.hid hb
      have HZ := Lib.hid hz
      have dgx := dg_of s6
      have dgy := dg_of t6
      have dgz := dg_of u6
      clear HOK1 HOK2 cs ct hx hy ha hb cu cu0 hz hz0 hza hzb u06
      generalize pval s.data.toList = x at *
      generalize pval t.data.toList = y at *
      generalize pval u.data.toList = z at *
      obtain ⟨q0, q1, q2, q3, q4, q5, q6, q7⟩ := (BF1.out.1.next (bt HV2.out BF2.out.2)).cells
      go_wp2_with fail
      clear q0 q1 q2 q3 q4 q5 q6 q7
      revert BF2
      generalize ((((w2.alloc (.cells #[(.bool n0_2), (.slice a0_2 k0_2 c0_2)] 25)).alloc (.cells #[(.bool n1_2), (.slice a1_2 k1_2 c1_2)] 25)).alloc (.cells #[(.bool n2_2), (.slice a2_2 k2_2 c2_2)] 28)).alloc (.cells #[(.bool n3_2), (.slice a3_2 k3_2 c3_2)] 28)) = W
      intro BF2
      have HC1 := Lib.hid (BF1.out.1.next (bt HV2.out BF2.out.2))
      have HL := Lib.hid (fun (w' : World) (hb : Below W.heap.size W w') => (⟨hb, (HC1.out.next hb).cells, (BF2.out.1.next hb).cells⟩ : Below W.heap.size W w' ∧ (w'.cell? ⟨w1.heap.size, 0, none⟩ = some (.bool n0_1) ∧ w'.cell? ⟨w1.heap.size, 1, none⟩ = some (.slice a0_1 k0_1 c0_1) ∧ w'.cell? ⟨w1.heap.size + 1, 0, none⟩ = some (.bool n1_1) ∧ w'.cell? ⟨w1.heap.size + 1, 1, none⟩ = some (.slice a1_1 k1_1 c1_1) ∧ w'.cell? ⟨w1.heap.size + 1 + 1, 0, none⟩ = some (.bool n2_1) ∧ w'.cell? ⟨w1.heap.size + 1 + 1, 1, none⟩ = some (.slice a2_1 k2_1 c2_1) ∧ w'.cell? ⟨w1.heap.size + 1 + 1 + 1, 0, none⟩ = some (.bool n3_1) ∧ w'.cell? ⟨w1.heap.size + 1 + 1 + 1, 1, none⟩ = some (.slice a3_1 k3_1 c3_1)) ∧ (w'.cell? ⟨w2.heap.size, 0, none⟩ = some (.bool n0_2) ∧ w'.cell? ⟨w2.heap.size, 1, none⟩ = some (.slice a0_2 k0_2 c0_2) ∧ w'.cell? ⟨w2.heap.size + 1, 0, none⟩ = some (.bool n1_2) ∧ w'.cell? ⟨w2.heap.size + 1, 1, none⟩ = some (.slice a1_2 k1_2 c1_2) ∧ w'.cell? ⟨w2.heap.size + 1 + 1, 0, none⟩ = some (.bool n2_2) ∧ w'.cell? ⟨w2.heap.size + 1 + 1, 1, none⟩ = some (.slice a2_2 k2_2 c2_2) ∧ w'.cell? ⟨w2.heap.size + 1 + 1 + 1, 0, none⟩ = some (.bool n3_2) ∧ w'.cell? ⟨w2.heap.size + 1 + 1 + 1, 1, none⟩ = some (.slice a3_2 k3_2 c3_2))))
      have HI1 := Lib.hid (fun (w' : World) (hs : Below W.heap.size W w' ∧ (w'.cell? ⟨w1.heap.size, 0, none⟩ = some (.bool n0_1) ∧ w'.cell? ⟨w1.heap.size, 1, none⟩ = some (.slice a0_1 k0_1 c0_1) ∧ w'.cell? ⟨w1.heap.size + 1, 0, none⟩ = some (.bool n1_1) ∧ w'.cell? ⟨w1.heap.size + 1, 1, none⟩ = some (.slice a1_1 k1_1 c1_1) ∧ w'.cell? ⟨w1.heap.size + 1 + 1, 0, none⟩ = some (.bool n2_1) ∧ w'.cell? ⟨w1.heap.size + 1 + 1, 1, none⟩ = some (.slice a2_1 k2_1 c2_1) ∧ w'.cell? ⟨w1.heap.size + 1 + 1 + 1, 0, none⟩ = some (.bool n3_1) ∧ w'.cell? ⟨w1.heap.size + 1 + 1 + 1, 1, none⟩ = some (.slice a3_1 k3_1 c3_1)) ∧ (w'.cell? ⟨w2.heap.size, 0, none⟩ = some (.bool n0_2) ∧ w'.cell? ⟨w2.heap.size, 1, none⟩ = some (.slice a0_2 k0_2 c0_2) ∧ w'.cell? ⟨w2.heap.size + 1, 0, none⟩ = some (.bool n1_2) ∧ w'.cell? ⟨w2.heap.size + 1, 1, none⟩ = some (.slice a1_2 k1_2 c1_2) ∧ w'.cell? ⟨w2.heap.size + 1 + 1, 0, none⟩ = some (.bool n2_2) ∧ w'.cell? ⟨w2.heap.size + 1 + 1, 1, none⟩ = some (.slice a2_2 k2_2 c2_2) ∧ w'.cell? ⟨w2.heap.size + 1 + 1 + 1, 0, none⟩ = some (.bool n3_2) ∧ w'.cell? ⟨w2.heap.size + 1 + 1 + 1, 1, none⟩ = some (.slice a3_2 k3_2 c3_2))) => HX.out.below (bt BF1.out.2 (bt HV2.out (bt BF2.out.2 hs.1))))
      have HI2 := Lib.hid (fun (w' : World) (hs : Below W.heap.size W w' ∧ (w'.cell? ⟨w1.heap.size, 0, none⟩ = some (.bool n0_1) ∧ w'.cell? ⟨w1.heap.size, 1, none⟩ = some (.slice a0_1 k0_1 c0_1) ∧ w'.cell? ⟨w1.heap.size + 1, 0, none⟩ = some (.bool n1_1) ∧ w'.cell? ⟨w1.heap.size + 1, 1, none⟩ = some (.slice a1_1 k1_1 c1_1) ∧ w'.cell? ⟨w1.heap.size + 1 + 1, 0, none⟩ = some (.bool n2_1) ∧ w'.cell? ⟨w1.heap.size + 1 + 1, 1, none⟩ = some (.slice a2_1 k2_1 c2_1) ∧ w'.cell? ⟨w1.heap.size + 1 + 1 + 1, 0, none⟩ = some (.bool n3_1) ∧ w'.cell? ⟨w1.heap.size + 1 + 1 + 1, 1, none⟩ = some (.slice a3_1 k3_1 c3_1)) ∧ (w'.cell? ⟨w2.heap.size, 0, none⟩ = some (.bool n0_2) ∧ w'.cell? ⟨w2.heap.size, 1, none⟩ = some (.slice a0_2 k0_2 c0_2) ∧ w'.cell? ⟨w2.heap.size + 1, 0, none⟩ = some (.bool n1_2) ∧ w'.cell? ⟨w2.heap.size + 1, 1, none⟩ = some (.slice a1_2 k1_2 c1_2) ∧ w'.cell? ⟨w2.heap.size + 1 + 1, 0, none⟩ = some (.bool n2_2) ∧ w'.cell? ⟨w2.heap.size + 1 + 1, 1, none⟩ = some (.slice a2_2 k2_2 c2_2) ∧ w'.cell? ⟨w2.heap.size + 1 + 1 + 1, 0, none⟩ = some (.bool n3_2) ∧ w'.cell? ⟨w2.heap.size + 1 + 1 + 1, 1, none⟩ = some (.slice a3_2 k3_2 c3_2))) => HY.out.below (bt BF1.out.2 (bt HV2.out (bt BF2.out.2 hs.1))))
      have HR1 := Lib.hid (fun (w' : World) (hs : Below W.heap.size W w' ∧ (w'.cell? ⟨w1.heap.size, 0, none⟩ = some (.bool n0_1) ∧ w'.cell? ⟨w1.heap.size, 1, none⟩ = some (.slice a0_1 k0_1 c0_1) ∧ w'.cell? ⟨w1.heap.size + 1, 0, none⟩ = some (.bool n1_1) ∧ w'.cell? ⟨w1.heap.size + 1, 1, none⟩ = some (.slice a1_1 k1_1 c1_1) ∧ w'.cell? ⟨w1.heap.size + 1 + 1, 0, none⟩ = some (.bool n2_1) ∧ w'.cell? ⟨w1.heap.size + 1 + 1, 1, none⟩ = some (.slice a2_1 k2_1 c2_1) ∧ w'.cell? ⟨w1.heap.size + 1 + 1 + 1, 0, none⟩ = some (.bool n3_1) ∧ w'.cell? ⟨w1.heap.size + 1 + 1 + 1, 1, none⟩ = some (.slice a3_1 k3_1 c3_1)) ∧ (w'.cell? ⟨w2.heap.size, 0, none⟩ = some (.bool n0_2) ∧ w'.cell? ⟨w2.heap.size, 1, none⟩ = some (.slice a0_2 k0_2 c0_2) ∧ w'.cell? ⟨w2.heap.size + 1, 0, none⟩ = some (.bool n1_2) ∧ w'.cell? ⟨w2.heap.size + 1, 1, none⟩ = some (.slice a1_2 k1_2 c1_2) ∧ w'.cell? ⟨w2.heap.size + 1 + 1, 0, none⟩ = some (.bool n2_2) ∧ w'.cell? ⟨w2.heap.size + 1 + 1, 1, none⟩ = some (.slice a2_2 k2_2 c2_2) ∧ w'.cell? ⟨w2.heap.size + 1 + 1 + 1, 0, none⟩ = some (.bool n3_2) ∧ w'.cell? ⟨w2.heap.size + 1 + 1 + 1, 1, none⟩ = some (.slice a3_2 k3_2 c3_2))) => HA.out.below (bt BF1.out.2 (bt HV2.out (bt BF2.out.2 hs.1))))
      have HR2 := Lib.hid (fun (w' : World) (hs : Below W.heap.size W w' ∧ (w'.cell? ⟨w1.heap.size, 0, none⟩ = some (.bool n0_1) ∧ w'.cell? ⟨w1.heap.size, 1, none⟩ = some (.slice a0_1 k0_1 c0_1) ∧ w'.cell? ⟨w1.heap.size + 1, 0, none⟩ = some (.bool n1_1) ∧ w'.cell? ⟨w1.heap.size + 1, 1, none⟩ = some (.slice a1_1 k1_1 c1_1) ∧ w'.cell? ⟨w1.heap.size + 1 + 1, 0, none⟩ = some (.bool n2_1) ∧ w'.cell? ⟨w1.heap.size + 1 + 1, 1, none⟩ = some (.slice a2_1 k2_1 c2_1) ∧ w'.cell? ⟨w1.heap.size + 1 + 1 + 1, 0, none⟩ = some (.bool n3_1) ∧ w'.cell? ⟨w1.heap.size + 1 + 1 + 1, 1, none⟩ = some (.slice a3_1 k3_1 c3_1)) ∧ (w'.cell? ⟨w2.heap.size, 0, none⟩ = some (.bool n0_2) ∧ w'.cell? ⟨w2.heap.size, 1, none⟩ = some (.slice a0_2 k0_2 c0_2) ∧ w'.cell? ⟨w2.heap.size + 1, 0, none⟩ = some (.bool n1_2) ∧ w'.cell? ⟨w2.heap.size + 1, 1, none⟩ = some (.slice a1_2 k1_2 c1_2) ∧ w'.cell? ⟨w2.heap.size + 1 + 1, 0, none⟩ = some (.bool n2_2) ∧ w'.cell? ⟨w2.heap.size + 1 + 1, 1, none⟩ = some (.slice a2_2 k2_2 c2_2) ∧ w'.cell? ⟨w2.heap.size + 1 + 1 + 1, 0, none⟩ = some (.bool n3_2) ∧ w'.cell? ⟨w2.heap.size + 1 + 1 + 1, 1, none⟩ = some (.slice a3_2 k3_2 c3_2))) => HBB.out.below (bt BF1.out.2 (bt HV2.out (bt BF2.out.2 hs.1))))
      have HI3 := Lib.hid (fun (w' : World) (hs : Below W.heap.size W w' ∧ (w'.cell? ⟨w1.heap.size, 0, none⟩ = some (.bool n0_1) ∧ w'.cell? ⟨w1.heap.size, 1, none⟩ = some (.slice a0_1 k0_1 c0_1) ∧ w'.cell? ⟨w1.heap.size + 1, 0, none⟩ = some (.bool n1_1) ∧ w'.cell? ⟨w1.heap.size + 1, 1, none⟩ = some (.slice a1_1 k1_1 c1_1) ∧ w'.cell? ⟨w1.heap.size + 1 + 1, 0, none⟩ = some (.bool n2_1) ∧ w'.cell? ⟨w1.heap.size + 1 + 1, 1, none⟩ = some (.slice a2_1 k2_1 c2_1) ∧ w'.cell? ⟨w1.heap.size + 1 + 1 + 1, 0, none⟩ = some (.bool n3_1) ∧ w'.cell? ⟨w1.heap.size + 1 + 1 + 1, 1, none⟩ = some (.slice a3_1 k3_1 c3_1)) ∧ (w'.cell? ⟨w2.heap.size, 0, none⟩ = some (.bool n0_2) ∧ w'.cell? ⟨w2.heap.size, 1, none⟩ = some (.slice a0_2 k0_2 c0_2) ∧ w'.cell? ⟨w2.heap.size + 1, 0, none⟩ = some (.bool n1_2) ∧ w'.cell? ⟨w2.heap.size + 1, 1, none⟩ = some (.slice a1_2 k1_2 c1_2) ∧ w'.cell? ⟨w2.heap.size + 1 + 1, 0, none⟩ = some (.bool n2_2) ∧ w'.cell? ⟨w2.heap.size + 1 + 1, 1, none⟩ = some (.slice a2_2 k2_2 c2_2) ∧ w'.cell? ⟨w2.heap.size + 1 + 1 + 1, 0, none⟩ = some (.bool n3_2) ∧ w'.cell? ⟨w2.heap.size + 1 + 1 + 1, 1, none⟩ = some (.slice a3_2 k3_2 c3_2))) => HZ.out.below (bt BF2.out.2 hs.1))
      have HT0 := Lib.hid (fun (w' : World) (hs : Below W.heap.size W w' ∧ (w'.cell? ⟨w1.heap.size, 0, none⟩ = some (.bool n0_1) ∧ w'.cell? ⟨w1.heap.size, 1, none⟩ = some (.slice a0_1 k0_1 c0_1) ∧ w'.cell? ⟨w1.heap.size + 1, 0, none⟩ = some (.bool n1_1) ∧ w'.cell? ⟨w1.heap.size + 1, 1, none⟩ = some (.slice a1_1 k1_1 c1_1) ∧ w'.cell? ⟨w1.heap.size + 1 + 1, 0, none⟩ = some (.bool n2_1) ∧ w'.cell? ⟨w1.heap.size + 1 + 1, 1, none⟩ = some (.slice a2_1 k2_1 c2_1) ∧ w'.cell? ⟨w1.heap.size + 1 + 1 + 1, 0, none⟩ = some (.bool n3_1) ∧ w'.cell? ⟨w1.heap.size + 1 + 1 + 1, 1, none⟩ = some (.slice a3_1 k3_1 c3_1)) ∧ (w'.cell? ⟨w2.heap.size, 0, none⟩ = some (.bool n0_2) ∧ w'.cell? ⟨w2.heap.size, 1, none⟩ = some (.slice a0_2 k0_2 c0_2) ∧ w'.cell? ⟨w2.heap.size + 1, 0, none⟩ = some (.bool n1_2) ∧ w'.cell? ⟨w2.heap.size + 1, 1, none⟩ = some (.slice a1_2 k1_2 c1_2) ∧ w'.cell? ⟨w2.heap.size + 1 + 1, 0, none⟩ = some (.bool n2_2) ∧ w'.cell? ⟨w2.heap.size + 1 + 1, 1, none⟩ = some (.slice a2_2 k2_2 c2_2) ∧ w'.cell? ⟨w2.heap.size + 1 + 1 + 1, 0, none⟩ = some (.bool n3_2) ∧ w'.cell? ⟨w2.heap.size + 1 + 1 + 1, 1, none⟩ = some (.slice a3_2 k3_2 c3_2))) => HT.out.below (bt HB2.out (bt BF2.out.2 hs.1)))
      have HCUR := Lib.hid (Below.refl W.heap.size W)
      obtain ⟨cc, hcc⟩ : ∃ cc, (x - y).sign = cc := ⟨_, rfl⟩
      have hcb : -1 ≤ cc ∧ cc ≤ 1 := by rw [← hcc]; exact sign_bd _
      have e1 : (y - x).sign = -cc := by rw [← hcc, ← Int.sign_neg]; congr 1; omega
      have e2 : (x - x).sign = 0 := by simp
      have HCC := Lib.hid hcc
      have E1 := Lib.hid e1
      have E2 := Lib.hid e2
      clear hcc e1 e2
      have HSa := Lib.hid (HL.out _ HCUR.out)
      obtain ⟨_, ⟨p0, p1, p2, p3, p4, p5, p6, p7⟩, ⟨p8, p9, _, _, _, _, _, _⟩⟩ := HL.out _ HCUR.out
      refine (cmp_any (HI1.out _ HSa.out) (HI2.out _ HSa.out)).mono ?_
      rintro e wa ⟨rfl, hba⟩
      rw [HCC.out]
      have HCURa := Lib.hid (bt HCUR.out hba)
      clear HCUR hba p0 p1 p2 p3 p4 p5 p6 p7 p8 p9
      have HCUR := HCURa
      have HSb := Lib.hid (HL.out _ HCUR.out)
      obtain ⟨_, ⟨p0, p1, p2, p3, p4, p5, p6, p7⟩, ⟨p8, p9, _, _, _, _, _, _⟩⟩ := HL.out _ HCUR.out
      go_wp2_with fail
      refine (sub_any (HI1.out _ HSb.out) (HI2.out _ HSb.out) dgx dgy (by omega)).mono ?_
      rintro e wb ⟨nb, ab, kb, cb, rfl, hub, hbb⟩
      have HUB := Lib.hid hub
      clear hub
      have HCURb := Lib.hid (bt HCUR.out hbb)
      clear HCUR hbb p0 p1 p2 p3 p4 p5 p6 p7 p8 p9
      have HCUR := HCURb
      have HSc := Lib.hid (HL.out _ HCUR.out)
      obtain ⟨_, ⟨p0, p1, p2, p3, p4, p5, p6, p7⟩, ⟨p8, p9, _, _, _, _, _, _⟩⟩ := HL.out _ HCUR.out
      go_wp2_with fail
      refine (sign_any HUB.out).mono ?_
      rintro e wc ⟨rfl, hbc⟩
      rw [HCC.out]
      have HCURc := Lib.hid (bt HCUR.out hbc)
      clear HCUR hbc p0 p1 p2 p3 p4 p5 p6 p7 p8 p9
      have HCUR := HCURc
      have HSd := Lib.hid (HL.out _ HCUR.out)
      obtain ⟨_, ⟨p0, p1, p2, p3, p4, p5, p6, p7⟩, ⟨p8, p9, _, _, _, _, _, _⟩⟩ := HL.out _ HCUR.out
      go_wp2_with fail
      refine (cmp_any (HI2.out _ HSd.out) (HI1.out _ HSd.out)).mono ?_
      rintro e wd ⟨rfl, hbd⟩
      rw [E1.out]
      have HCURd := Lib.hid (bt HCUR.out hbd)
      clear HCUR hbd p0 p1 p2 p3 p4 p5 p6 p7 p8 p9
      have HCUR := HCURd
      have HSe := Lib.hid (HL.out _ HCUR.out)
      obtain ⟨_, ⟨p0, p1, p2, p3, p4, p5, p6, p7⟩, ⟨p8, p9, _, _, _, _, _, _⟩⟩ := HL.out _ HCUR.out
      go_wp2_with fail
      refine (cmp_any (HI1.out _ HSe.out) (HI1.out _ HSe.out)).mono ?_
      rintro e we ⟨rfl, hbe⟩
      rw [E2.out]
      have HCURe := Lib.hid (bt HCUR.out hbe)
      clear HCUR hbe p0 p1 p2 p3 p4 p5 p6 p7 p8 p9
      have HCUR := HCURe
      have HSf := Lib.hid (HL.out _ HCUR.out)
      obtain ⟨_, ⟨p0, p1, p2, p3, p4, p5, p6, p7⟩, ⟨p8, p9, _, _, _, _, _, _⟩⟩ := HL.out _ HCUR.out
      go_wp2_with fail
      clear p0 p1 p2 p3 p4 p5 p6 p7 p8 p9
      have E3 := Lib.hid (show ((x + z) - (y + z)).sign = cc by rw [← HCC.out]; congr 1; omega)
      have dg1 := dgx.add dgz
      have dg2 := dgy.add dgz
      obtain ⟨c2, hc2⟩ : ∃ c, (y - z).sign = c := ⟨_, rfl⟩
      obtain ⟨c3, hc3⟩ : ∃ c, (x - z).sign = c := ⟨_, rfl⟩
      have hle : ¬ 0 < cc → ¬ 0 < c2 → c3 ≤ 0 := fun h1 h2 => by rw [← HCC.out, Int.sign_pos_iff] at h1; rw [← hc2, Int.sign_pos_iff] at h2; rw [← hc3]; exact Int.not_lt.1 (fun h3 => by rw [Int.sign_pos_iff] at h3; omega)
      have HC2 := Lib.hid hc2
      have HC3 := Lib.hid hc3
      have HLE := Lib.hid hle
      clear hc2 hc3 hle
      by_cases h1 : 0 < cc
      · have g1 : decide (0 < cc) = true := by simp [h1]
        refine wp_region_held_drew (S := fun w' => Below W.heap.size W w' ∧ (w'.cell? ⟨w1.heap.size, 0, none⟩ = some (.bool n0_1) ∧ w'.cell? ⟨w1.heap.size, 1, none⟩ = some (.slice a0_1 k0_1 c0_1) ∧ w'.cell? ⟨w1.heap.size + 1, 0, none⟩ = some (.bool n1_1) ∧ w'.cell? ⟨w1.heap.size + 1, 1, none⟩ = some (.slice a1_1 k1_1 c1_1) ∧ w'.cell? ⟨w1.heap.size + 1 + 1, 0, none⟩ = some (.bool n2_1) ∧ w'.cell? ⟨w1.heap.size + 1 + 1, 1, none⟩ = some (.slice a2_1 k2_1 c2_1) ∧ w'.cell? ⟨w1.heap.size + 1 + 1 + 1, 0, none⟩ = some (.bool n3_1) ∧ w'.cell? ⟨w1.heap.size + 1 + 1 + 1, 1, none⟩ = some (.slice a3_1 k3_1 c3_1)) ∧ (w'.cell? ⟨w2.heap.size, 0, none⟩ = some (.bool n0_2) ∧ w'.cell? ⟨w2.heap.size, 1, none⟩ = some (.slice a0_2 k0_2 c0_2) ∧ w'.cell? ⟨w2.heap.size + 1, 0, none⟩ = some (.bool n1_2) ∧ w'.cell? ⟨w2.heap.size + 1, 1, none⟩ = some (.slice a1_2 k1_2 c1_2) ∧ w'.cell? ⟨w2.heap.size + 1 + 1, 0, none⟩ = some (.bool n2_2) ∧ w'.cell? ⟨w2.heap.size + 1 + 1, 1, none⟩ = some (.slice a2_2 k2_2 c2_2) ∧ w'.cell? ⟨w2.heap.size + 1 + 1 + 1, 0, none⟩ = some (.bool n3_2) ∧ w'.cell? ⟨w2.heap.size + 1 + 1 + 1, 1, none⟩ = some (.slice a3_2 k3_2 c3_2))) (by kernel_rfl) ?_ (fun hHeld => ?_)
        · first | exact HL.out _ (Below.drew HCUR.out) | exact HL.out _ (bt hHeld.1 (by assumption))
        (try dsimp only at hHeld)
        refine wpAnyH_take (i := 0) (oi := ({ dst := some 66, op := Op.load 25 (Operand.tmp 7), type := 25, pos := "law.go:191", after := #[], guard := none } : Oper)) (v := ?x1_v0) rfl (by kernel_rfl) (by kernel_rfl) (by kernel_rfl) (fun _ _ _ h => h) (Or.inl ⟨by rfl, ?x1_h0⟩) hHeld ?x1_r0
        case x1_h0 => (intro w hSw; (try dsimp only at hSw); go_simp; all_goals with_reducible rfl)
        (try simp only [Act.put, List.setIfInBounds_toArray, List.set_cons_zero, List.set_cons_succ])
        refine wpAnyH_take (i := 1) (oi := ({ dst := some 67, op := Op.load 25 (Operand.tmp 12), type := 25, pos := "law.go:191", after := #[], guard := none } : Oper)) (v := ?x1_v1) rfl (by kernel_rfl) (by kernel_rfl) (by kernel_rfl) (fun _ _ _ h => h) (Or.inl ⟨by rfl, ?x1_h1⟩) hHeld ?x1_r1
        case x1_h1 => (intro w hSw; (try dsimp only at hSw); go_simp; all_goals with_reducible rfl)
        (try simp only [Act.put, List.setIfInBounds_toArray, List.set_cons_zero, List.set_cons_succ])
        refine wpAnyH_take (i := 3) (oi := ({ dst := some 69, op := Op.load 25 (Operand.tmp 8), type := 25, pos := "law.go:191", after := #[], guard := none } : Oper)) (v := ?x1_v3) rfl (by kernel_rfl) (by kernel_rfl) (by kernel_rfl) (fun _ _ _ h => h) (Or.inl ⟨by rfl, ?x1_h3⟩) hHeld ?x1_r3
        case x1_h3 => (intro w hSw; (try dsimp only at hSw); go_simp; all_goals with_reducible rfl)
        (try simp only [Act.put, List.setIfInBounds_toArray, List.set_cons_zero, List.set_cons_succ])
        refine wpAnyH_take (i := 4) (oi := ({ dst := some 70, op := Op.load 25 (Operand.tmp 12), type := 25, pos := "law.go:191", after := #[], guard := none } : Oper)) (v := ?x1_v4) rfl (by kernel_rfl) (by kernel_rfl) (by kernel_rfl) (fun _ _ _ h => h) (Or.inl ⟨by rfl, ?x1_h4⟩) hHeld ?x1_r4
        case x1_h4 => (intro w hSw; (try dsimp only at hSw); go_simp; all_goals with_reducible rfl)
        (try simp only [Act.put, List.setIfInBounds_toArray, List.set_cons_zero, List.set_cons_succ])
        refine wpAnyH_take (i := 7) (oi := ({ dst := some 73, op := Op.move (Operand.tmp 17), type := 3, pos := "law.go:191", after := #[], guard := none } : Oper)) (v := ?x1_v7) rfl (by kernel_rfl) (by kernel_rfl) (by kernel_rfl) (fun _ _ _ h => h) (Or.inl ⟨by rfl, ?x1_h7⟩) hHeld ?x1_r7
        case x1_h7 => (intro w hSw; (try dsimp only at hSw); go_simp; all_goals with_reducible rfl)
        (try simp only [Act.put, List.setIfInBounds_toArray, List.set_cons_zero, List.set_cons_succ])
        refine wpAnyH_ready (rs := [2]) (by kernel_rfl) (by simp) ?_
        refine AllReadyH.cons (o := ({ dst := some 68, op := Op.call { callee := Callee.value (Operand.func 30), args := #[Operand.tmp 66, Operand.tmp 67], argTypes := #[25, 25] }, type := 25, pos := "law.go:191", after := #[{ on := 0, ground := Ground.data }, { on := 1, ground := Ground.data }], guard := none } : Oper)) rfl (fun K hK => ?_) AllReadyH.nil
        go_simp
        go_at_call 30; (with_reducible refine (add_any (HI1.out _ hHeld) (HI3.out _ hHeld) dgx dgz (by omega)).mono ?_); rintro e v1 ⟨m1, b1, j1, d1, rfl, hg1, hq1⟩; have HG1 := Lib.hid hg1; clear hg1
        first | refine hK.out _ _ ?_ (fun hHeld => ?_) | (go_wp2_with fail; refine hK.out _ _ ?_ (fun hHeld => ?_))
        · first | exact HL.out _ (Below.drew HCUR.out) | exact HL.out _ (bt hHeld.1 (by assumption))
        clear hK K
        (try dsimp only at hHeld)
        (try simp only [Act.put, List.setIfInBounds_toArray, List.set_cons_zero, List.set_cons_succ])
        refine wpAnyH_ready (rs := [5]) (by kernel_rfl) (by simp) ?_
        refine AllReadyH.cons (o := ({ dst := some 71, op := Op.call { callee := Callee.value (Operand.func 30), args := #[Operand.tmp 69, Operand.tmp 70], argTypes := #[25, 25] }, type := 25, pos := "law.go:191", after := #[{ on := 3, ground := Ground.data }, { on := 4, ground := Ground.data }, { on := 2, ground := Ground.chain }], guard := none } : Oper)) rfl (fun K hK => ?_) AllReadyH.nil
        go_simp
        go_at_call 30; (with_reducible refine (add_any (HI2.out _ hHeld) (HI3.out _ hHeld) dgy dgz (by omega)).mono ?_); rintro e v2 ⟨m2, b2, j2, d2, rfl, hg2, hq2⟩; have HG2 := Lib.hid hg2; clear hg2
        first | refine hK.out _ _ ?_ (fun hHeld => ?_) | (go_wp2_with fail; refine hK.out _ _ ?_ (fun hHeld => ?_))
        · first | exact HL.out _ (Below.drew HCUR.out) | exact HL.out _ (bt hHeld.1 (by assumption))
        clear hK K
        (try dsimp only at hHeld)
        (try simp only [Act.put, List.setIfInBounds_toArray, List.set_cons_zero, List.set_cons_succ])
        refine wpAnyH_ready (rs := [6]) (by kernel_rfl) (by simp) ?_
        refine AllReadyH.cons (o := ({ dst := some 72, op := Op.call { callee := Callee.value (Operand.func 36), args := #[Operand.tmp 68, Operand.tmp 71], argTypes := #[25, 25] }, type := 3, pos := "law.go:191", after := #[{ on := 2, ground := Ground.data }, { on := 5, ground := Ground.data }, { on := 5, ground := Ground.chain }], guard := none } : Oper)) rfl (fun K hK => ?_) AllReadyH.nil
        go_simp
        go_at_call 36; (with_reducible refine (cmp_any (HG1.out.below hq2) HG2.out).mono ?_); rintro e v3 ⟨rfl, hq3⟩; rw [E3.out]
        first | refine hK.out _ _ ?_ (fun hHeld => ?_) | (go_wp2_with fail; refine hK.out _ _ ?_ (fun hHeld => ?_))
        · first | exact HL.out _ (Below.drew HCUR.out) | exact HL.out _ (bt hHeld.1 (by assumption))
        clear hK K
        (try dsimp only at hHeld)
        (try simp only [Act.put, List.setIfInBounds_toArray, List.set_cons_zero, List.set_cons_succ])
        refine wpAnyH_take (i := 8) (oi := ({ dst := some 74, op := Op.binOp BinOp.eql 3 (Operand.tmp 72) (Operand.tmp 73) 3, type := 4, pos := "law.go:191", after := #[{ on := 6, ground := Ground.data }, { on := 7, ground := Ground.data }], guard := none } : Oper)) (v := ?x1_v8) rfl (by kernel_rfl) (by kernel_rfl) (by kernel_rfl) (fun _ _ _ h => h) (Or.inl ⟨by rfl, ?x1_h8⟩) hHeld ?x1_r8
        case x1_h8 => (intro w hSw; (try dsimp only at hSw); go_simp; all_goals with_reducible rfl)
        (try simp only [Act.put, List.setIfInBounds_toArray, List.set_cons_zero, List.set_cons_succ])
        refine wpAnyH_take (i := 9) (oi := ({ dst := some 75, op := Op.move (Operand.tmp 74), type := 4, pos := "law.go:191", after := #[{ on := 8, ground := Ground.data }, { on := 6, ground := Ground.chain }], guard := none } : Oper)) (v := ?x1_v9) rfl (by kernel_rfl) (by kernel_rfl) (by kernel_rfl) (fun _ _ _ h => h) (Or.inl ⟨by rfl, ?x1_h9⟩) hHeld ?x1_r9
        case x1_h9 => (intro w hSw; (try dsimp only at hSw); go_simp; all_goals with_reducible rfl)
        (try simp only [Act.put, List.setIfInBounds_toArray, List.set_cons_zero, List.set_cons_succ])
        refine wpAnyH_take (i := 10) (oi := ({ dst := some 76, op := Op.move (Operand.tmp 17), type := 3, pos := "law.go:191", after := #[{ on := 9, ground := Ground.guard }], guard := some (9, true) } : Oper)) (v := ?x1_v10) rfl (by kernel_rfl) (by kernel_rfl) (by kernel_rfl) (fun _ _ _ h => h) (Or.inl ⟨by rfl, ?x1_h10⟩) hHeld ?x1_r10
        case x1_h10 => (intro w hSw; (try dsimp only at hSw); go_simp; all_goals with_reducible rfl)
        (try simp only [Act.put, List.setIfInBounds_toArray, List.set_cons_zero, List.set_cons_succ])
        refine wpAnyH_take (i := 11) (oi := ({ dst := some 77, op := Op.binOp BinOp.gtr 3 (Operand.tmp 76) (Operand.const (Value.int IntKind.i64 0)) 3, type := 4, pos := "law.go:191", after := #[{ on := 10, ground := Ground.data }, { on := 9, ground := Ground.guard }], guard := some (9, true) } : Oper)) (v := ?x1_v11) rfl (by kernel_rfl) (by kernel_rfl) (by kernel_rfl) (fun _ _ _ h => h) (Or.inl ⟨by rfl, ?x1_h11⟩) hHeld ?x1_r11
        case x1_h11 => (intro w hSw; (try dsimp only at hSw); go_simp; all_goals with_reducible rfl)
        (try simp only [Act.put, List.setIfInBounds_toArray, List.set_cons_zero, List.set_cons_succ])
        refine wpAnyH_take (i := 12) (oi := ({ dst := some 78, op := Op.move (Operand.tmp 77), type := 4, pos := "law.go:191", after := #[{ on := 11, ground := Ground.data }, { on := 9, ground := Ground.chain }, { on := 9, ground := Ground.guard }], guard := some (9, true) } : Oper)) (v := ?x1_v12) rfl (by kernel_rfl) (by kernel_rfl) (by kernel_rfl) (fun _ _ _ h => h) (Or.inl ⟨by rfl, ?x1_h12⟩) hHeld ?x1_r12
        case x1_h12 => (intro w hSw; (try dsimp only at hSw); go_simp; all_goals with_reducible rfl)
        (try simp only [Act.put, List.setIfInBounds_toArray, List.set_cons_zero, List.set_cons_succ])
        refine wpAnyH_take (i := 13) (oi := ({ dst := some 79, op := Op.load 25 (Operand.tmp 8), type := 25, pos := "law.go:191", after := #[{ on := 12, ground := Ground.guard }], guard := some (12, false) } : Oper)) (v := undef) rfl (by kernel_rfl) (by kernel_rfl) (by kernel_rfl) (fun _ _ _ h => h) (Or.inr ⟨by rfl, rfl⟩) hHeld ?_
        (try simp only [Act.put, List.setIfInBounds_toArray, List.set_cons_zero, List.set_cons_succ])
        refine wpAnyH_take (i := 14) (oi := ({ dst := some 80, op := Op.load 25 (Operand.tmp 12), type := 25, pos := "law.go:191", after := #[{ on := 12, ground := Ground.guard }], guard := some (12, false) } : Oper)) (v := undef) rfl (by kernel_rfl) (by kernel_rfl) (by kernel_rfl) (fun _ _ _ h => h) (Or.inr ⟨by rfl, rfl⟩) hHeld ?_
        (try simp only [Act.put, List.setIfInBounds_toArray, List.set_cons_zero, List.set_cons_succ])
        refine wpAnyH_take (i := 15) (oi := ({ dst := some 81, op := Op.call { callee := Callee.value (Operand.func 36), args := #[Operand.tmp 79, Operand.tmp 80], argTypes := #[25, 25] }, type := 3, pos := "law.go:191", after := #[{ on := 13, ground := Ground.data }, { on := 14, ground := Ground.data }, { on := 12, ground := Ground.chain }, { on := 12, ground := Ground.guard }], guard := some (12, false) } : Oper)) (v := undef) rfl (by kernel_rfl) (by kernel_rfl) (by kernel_rfl) (fun _ _ _ h => h) (Or.inr ⟨by rfl, rfl⟩) hHeld ?_
        (try simp only [Act.put, List.setIfInBounds_toArray, List.set_cons_zero, List.set_cons_succ])
        refine wpAnyH_take (i := 16) (oi := ({ dst := some 82, op := Op.binOp BinOp.gtr 3 (Operand.tmp 81) (Operand.const (Value.int IntKind.i64 0)) 3, type := 4, pos := "law.go:191", after := #[{ on := 15, ground := Ground.data }, { on := 12, ground := Ground.guard }], guard := some (12, false) } : Oper)) (v := undef) rfl (by kernel_rfl) (by kernel_rfl) (by kernel_rfl) (fun _ _ _ h => h) (Or.inr ⟨by rfl, rfl⟩) hHeld ?_
        (try simp only [Act.put, List.setIfInBounds_toArray, List.set_cons_zero, List.set_cons_succ])
        refine wpAnyH_take (i := 17) (oi := ({ dst := some 83, op := Op.pick (Operand.tmp 78) (Operand.const (Value.bool true)) (Operand.tmp 82), type := 4, pos := "law.go:191", after := #[{ on := 12, ground := Ground.data }, { on := 16, ground := Ground.data }, { on := 9, ground := Ground.guard }], guard := some (9, true) } : Oper)) (v := ?x1_v17) rfl (by kernel_rfl) (by kernel_rfl) (by kernel_rfl) (fun _ _ _ h => h) (Or.inl ⟨by rfl, ?x1_h17⟩) hHeld ?x1_r17
        case x1_h17 => (intro w hSw; (try dsimp only at hSw); go_simp; all_goals with_reducible rfl)
        (try simp only [Act.put, List.setIfInBounds_toArray, List.set_cons_zero, List.set_cons_succ])
        refine wpAnyH_take (i := 18) (oi := ({ dst := some 84, op := Op.move (Operand.tmp 83), type := 4, pos := "law.go:191", after := #[{ on := 17, ground := Ground.data }, { on := 15, ground := Ground.chain }, { on := 9, ground := Ground.guard }], guard := some (9, true) } : Oper)) (v := ?x1_v18) rfl (by kernel_rfl) (by kernel_rfl) (by kernel_rfl) (fun _ _ _ h => h) (Or.inl ⟨by rfl, ?x1_h18⟩) hHeld ?x1_r18
        case x1_h18 => (intro w hSw; (try dsimp only at hSw); go_simp; all_goals with_reducible rfl)
        (try simp only [Act.put, List.setIfInBounds_toArray, List.set_cons_zero, List.set_cons_succ])
        refine wpAnyH_take (i := 19) (oi := ({ dst := some 85, op := Op.load 25 (Operand.tmp 7), type := 25, pos := "law.go:191", after := #[{ on := 18, ground := Ground.guard }], guard := some (18, false) } : Oper)) (v := undef) rfl (by kernel_rfl) (by kernel_rfl) (by kernel_rfl) (fun _ _ _ h => h) (Or.inr ⟨by rfl, rfl⟩) hHeld ?_
        (try simp only [Act.put, List.setIfInBounds_toArray, List.set_cons_zero, List.set_cons_succ])
        refine wpAnyH_take (i := 20) (oi := ({ dst := some 86, op := Op.load 25 (Operand.tmp 12), type := 25, pos := "law.go:191", after := #[{ on := 18, ground := Ground.guard }], guard := some (18, false) } : Oper)) (v := undef) rfl (by kernel_rfl) (by kernel_rfl) (by kernel_rfl) (fun _ _ _ h => h) (Or.inr ⟨by rfl, rfl⟩) hHeld ?_
        (try simp only [Act.put, List.setIfInBounds_toArray, List.set_cons_zero, List.set_cons_succ])
        refine wpAnyH_take (i := 21) (oi := ({ dst := some 87, op := Op.call { callee := Callee.value (Operand.func 36), args := #[Operand.tmp 85, Operand.tmp 86], argTypes := #[25, 25] }, type := 3, pos := "law.go:191", after := #[{ on := 19, ground := Ground.data }, { on := 20, ground := Ground.data }, { on := 18, ground := Ground.chain }, { on := 18, ground := Ground.guard }], guard := some (18, false) } : Oper)) (v := undef) rfl (by kernel_rfl) (by kernel_rfl) (by kernel_rfl) (fun _ _ _ h => h) (Or.inr ⟨by rfl, rfl⟩) hHeld ?_
        (try simp only [Act.put, List.setIfInBounds_toArray, List.set_cons_zero, List.set_cons_succ])
        refine wpAnyH_take (i := 22) (oi := ({ dst := some 88, op := Op.binOp BinOp.leq 3 (Operand.tmp 87) (Operand.const (Value.int IntKind.i64 0)) 3, type := 4, pos := "law.go:191", after := #[{ on := 21, ground := Ground.data }, { on := 18, ground := Ground.guard }], guard := some (18, false) } : Oper)) (v := undef) rfl (by kernel_rfl) (by kernel_rfl) (by kernel_rfl) (fun _ _ _ h => h) (Or.inr ⟨by rfl, rfl⟩) hHeld ?_
        (try simp only [Act.put, List.setIfInBounds_toArray, List.set_cons_zero, List.set_cons_succ])
        refine wpAnyH_take (i := 23) (oi := ({ dst := some 89, op := Op.pick (Operand.tmp 84) (Operand.const (Value.bool true)) (Operand.tmp 88), type := 4, pos := "law.go:191", after := #[{ on := 18, ground := Ground.data }, { on := 22, ground := Ground.data }, { on := 9, ground := Ground.guard }], guard := some (9, true) } : Oper)) (v := ?x1_v23) rfl (by kernel_rfl) (by kernel_rfl) (by kernel_rfl) (fun _ _ _ h => h) (Or.inl ⟨by rfl, ?x1_h23⟩) hHeld ?x1_r23
        case x1_h23 => (intro w hSw; (try dsimp only at hSw); go_simp; all_goals with_reducible rfl)
        (try simp only [Act.put, List.setIfInBounds_toArray, List.set_cons_zero, List.set_cons_succ])
        refine wpAnyH_take (i := 24) (oi := ({ dst := some 90, op := Op.pick (Operand.tmp 75) (Operand.tmp 89) (Operand.const (Value.bool false)), type := 4, pos := "law.go:191", after := #[{ on := 9, ground := Ground.data }, { on := 23, ground := Ground.data }], guard := none } : Oper)) (v := ?x1_v24) rfl (by kernel_rfl) (by kernel_rfl) (by kernel_rfl) (fun _ _ _ h => h) (Or.inl ⟨by rfl, ?x1_h24⟩) hHeld ?x1_r24
        case x1_h24 => (intro w hSw; (try dsimp only at hSw); go_simp; all_goals with_reducible rfl)
        (try simp only [Act.put, List.setIfInBounds_toArray, List.set_cons_zero, List.set_cons_succ])
        refine wpAnyH_take (i := 25) (oi := ({ dst := some 6, op := Op.assign (Operand.tmp 90), type := 4, pos := "law.go:191", after := #[{ on := 24, ground := Ground.data }, { on := 21, ground := Ground.chain }, { on := 0, ground := Ground.phase }, { on := 1, ground := Ground.phase }, { on := 2, ground := Ground.phase }, { on := 3, ground := Ground.phase }, { on := 4, ground := Ground.phase }, { on := 5, ground := Ground.phase }, { on := 6, ground := Ground.phase }, { on := 7, ground := Ground.phase }, { on := 8, ground := Ground.phase }, { on := 9, ground := Ground.phase }, { on := 10, ground := Ground.phase }, { on := 11, ground := Ground.phase }, { on := 12, ground := Ground.phase }, { on := 13, ground := Ground.phase }, { on := 14, ground := Ground.phase }, { on := 15, ground := Ground.phase }, { on := 16, ground := Ground.phase }, { on := 17, ground := Ground.phase }, { on := 18, ground := Ground.phase }, { on := 19, ground := Ground.phase }, { on := 20, ground := Ground.phase }, { on := 21, ground := Ground.phase }, { on := 22, ground := Ground.phase }, { on := 23, ground := Ground.phase }, { on := 24, ground := Ground.phase }], guard := none } : Oper)) (v := ?x1_v25) rfl (by kernel_rfl) (by kernel_rfl) (by kernel_rfl) (fun _ _ _ h => h) (Or.inl ⟨by rfl, ?x1_h25⟩) hHeld ?x1_r25
        case x1_h25 => (intro w hSw; (try dsimp only at hSw); go_simp; all_goals with_reducible rfl)
        (try simp only [Act.put, List.setIfInBounds_toArray, List.set_cons_zero, List.set_cons_succ])
        refine wpAnyH_done (by kernel_rfl) ?_ _
        go_wp2
        go_ret
        exact ⟨by simp, bt HB2.out (bt BF2.out.2 (bt (bt (bt (Below.drew HCUR.out) hq1) hq2) hq3))⟩
      · have g1 : decide (0 < cc) = false := by simp; omega
        by_cases h2 : 0 < c2
        · have g2 : decide (0 < c2) = true := by simp [h2]
          refine wp_region_held_drew (S := fun w' => Below W.heap.size W w' ∧ (w'.cell? ⟨w1.heap.size, 0, none⟩ = some (.bool n0_1) ∧ w'.cell? ⟨w1.heap.size, 1, none⟩ = some (.slice a0_1 k0_1 c0_1) ∧ w'.cell? ⟨w1.heap.size + 1, 0, none⟩ = some (.bool n1_1) ∧ w'.cell? ⟨w1.heap.size + 1, 1, none⟩ = some (.slice a1_1 k1_1 c1_1) ∧ w'.cell? ⟨w1.heap.size + 1 + 1, 0, none⟩ = some (.bool n2_1) ∧ w'.cell? ⟨w1.heap.size + 1 + 1, 1, none⟩ = some (.slice a2_1 k2_1 c2_1) ∧ w'.cell? ⟨w1.heap.size + 1 + 1 + 1, 0, none⟩ = some (.bool n3_1) ∧ w'.cell? ⟨w1.heap.size + 1 + 1 + 1, 1, none⟩ = some (.slice a3_1 k3_1 c3_1)) ∧ (w'.cell? ⟨w2.heap.size, 0, none⟩ = some (.bool n0_2) ∧ w'.cell? ⟨w2.heap.size, 1, none⟩ = some (.slice a0_2 k0_2 c0_2) ∧ w'.cell? ⟨w2.heap.size + 1, 0, none⟩ = some (.bool n1_2) ∧ w'.cell? ⟨w2.heap.size + 1, 1, none⟩ = some (.slice a1_2 k1_2 c1_2) ∧ w'.cell? ⟨w2.heap.size + 1 + 1, 0, none⟩ = some (.bool n2_2) ∧ w'.cell? ⟨w2.heap.size + 1 + 1, 1, none⟩ = some (.slice a2_2 k2_2 c2_2) ∧ w'.cell? ⟨w2.heap.size + 1 + 1 + 1, 0, none⟩ = some (.bool n3_2) ∧ w'.cell? ⟨w2.heap.size + 1 + 1 + 1, 1, none⟩ = some (.slice a3_2 k3_2 c3_2))) (by kernel_rfl) ?_ (fun hHeld => ?_)
          · first | exact HL.out _ (Below.drew HCUR.out) | exact HL.out _ (bt hHeld.1 (by assumption))
          (try dsimp only at hHeld)
          refine wpAnyH_take (i := 0) (oi := ({ dst := some 66, op := Op.load 25 (Operand.tmp 7), type := 25, pos := "law.go:191", after := #[], guard := none } : Oper)) (v := ?x2_v0) rfl (by kernel_rfl) (by kernel_rfl) (by kernel_rfl) (fun _ _ _ h => h) (Or.inl ⟨by rfl, ?x2_h0⟩) hHeld ?x2_r0
          case x2_h0 => (intro w hSw; (try dsimp only at hSw); go_simp; all_goals with_reducible rfl)
          (try simp only [Act.put, List.setIfInBounds_toArray, List.set_cons_zero, List.set_cons_succ])
          refine wpAnyH_take (i := 1) (oi := ({ dst := some 67, op := Op.load 25 (Operand.tmp 12), type := 25, pos := "law.go:191", after := #[], guard := none } : Oper)) (v := ?x2_v1) rfl (by kernel_rfl) (by kernel_rfl) (by kernel_rfl) (fun _ _ _ h => h) (Or.inl ⟨by rfl, ?x2_h1⟩) hHeld ?x2_r1
          case x2_h1 => (intro w hSw; (try dsimp only at hSw); go_simp; all_goals with_reducible rfl)
          (try simp only [Act.put, List.setIfInBounds_toArray, List.set_cons_zero, List.set_cons_succ])
          refine wpAnyH_take (i := 3) (oi := ({ dst := some 69, op := Op.load 25 (Operand.tmp 8), type := 25, pos := "law.go:191", after := #[], guard := none } : Oper)) (v := ?x2_v3) rfl (by kernel_rfl) (by kernel_rfl) (by kernel_rfl) (fun _ _ _ h => h) (Or.inl ⟨by rfl, ?x2_h3⟩) hHeld ?x2_r3
          case x2_h3 => (intro w hSw; (try dsimp only at hSw); go_simp; all_goals with_reducible rfl)
          (try simp only [Act.put, List.setIfInBounds_toArray, List.set_cons_zero, List.set_cons_succ])
          refine wpAnyH_take (i := 4) (oi := ({ dst := some 70, op := Op.load 25 (Operand.tmp 12), type := 25, pos := "law.go:191", after := #[], guard := none } : Oper)) (v := ?x2_v4) rfl (by kernel_rfl) (by kernel_rfl) (by kernel_rfl) (fun _ _ _ h => h) (Or.inl ⟨by rfl, ?x2_h4⟩) hHeld ?x2_r4
          case x2_h4 => (intro w hSw; (try dsimp only at hSw); go_simp; all_goals with_reducible rfl)
          (try simp only [Act.put, List.setIfInBounds_toArray, List.set_cons_zero, List.set_cons_succ])
          refine wpAnyH_take (i := 7) (oi := ({ dst := some 73, op := Op.move (Operand.tmp 17), type := 3, pos := "law.go:191", after := #[], guard := none } : Oper)) (v := ?x2_v7) rfl (by kernel_rfl) (by kernel_rfl) (by kernel_rfl) (fun _ _ _ h => h) (Or.inl ⟨by rfl, ?x2_h7⟩) hHeld ?x2_r7
          case x2_h7 => (intro w hSw; (try dsimp only at hSw); go_simp; all_goals with_reducible rfl)
          (try simp only [Act.put, List.setIfInBounds_toArray, List.set_cons_zero, List.set_cons_succ])
          refine wpAnyH_ready (rs := [2]) (by kernel_rfl) (by simp) ?_
          refine AllReadyH.cons (o := ({ dst := some 68, op := Op.call { callee := Callee.value (Operand.func 30), args := #[Operand.tmp 66, Operand.tmp 67], argTypes := #[25, 25] }, type := 25, pos := "law.go:191", after := #[{ on := 0, ground := Ground.data }, { on := 1, ground := Ground.data }], guard := none } : Oper)) rfl (fun K hK => ?_) AllReadyH.nil
          go_simp
          go_at_call 30; (with_reducible refine (add_any (HI1.out _ hHeld) (HI3.out _ hHeld) dgx dgz (by omega)).mono ?_); rintro e v1 ⟨m1, b1, j1, d1, rfl, hg1, hq1⟩; have HG1 := Lib.hid hg1; clear hg1
          first | refine hK.out _ _ ?_ (fun hHeld => ?_) | (go_wp2_with fail; refine hK.out _ _ ?_ (fun hHeld => ?_))
          · first | exact HL.out _ (Below.drew HCUR.out) | exact HL.out _ (bt hHeld.1 (by assumption))
          clear hK K
          (try dsimp only at hHeld)
          (try simp only [Act.put, List.setIfInBounds_toArray, List.set_cons_zero, List.set_cons_succ])
          refine wpAnyH_ready (rs := [5]) (by kernel_rfl) (by simp) ?_
          refine AllReadyH.cons (o := ({ dst := some 71, op := Op.call { callee := Callee.value (Operand.func 30), args := #[Operand.tmp 69, Operand.tmp 70], argTypes := #[25, 25] }, type := 25, pos := "law.go:191", after := #[{ on := 3, ground := Ground.data }, { on := 4, ground := Ground.data }, { on := 2, ground := Ground.chain }], guard := none } : Oper)) rfl (fun K hK => ?_) AllReadyH.nil
          go_simp
          go_at_call 30; (with_reducible refine (add_any (HI2.out _ hHeld) (HI3.out _ hHeld) dgy dgz (by omega)).mono ?_); rintro e v2 ⟨m2, b2, j2, d2, rfl, hg2, hq2⟩; have HG2 := Lib.hid hg2; clear hg2
          first | refine hK.out _ _ ?_ (fun hHeld => ?_) | (go_wp2_with fail; refine hK.out _ _ ?_ (fun hHeld => ?_))
          · first | exact HL.out _ (Below.drew HCUR.out) | exact HL.out _ (bt hHeld.1 (by assumption))
          clear hK K
          (try dsimp only at hHeld)
          (try simp only [Act.put, List.setIfInBounds_toArray, List.set_cons_zero, List.set_cons_succ])
          refine wpAnyH_ready (rs := [6]) (by kernel_rfl) (by simp) ?_
          refine AllReadyH.cons (o := ({ dst := some 72, op := Op.call { callee := Callee.value (Operand.func 36), args := #[Operand.tmp 68, Operand.tmp 71], argTypes := #[25, 25] }, type := 3, pos := "law.go:191", after := #[{ on := 2, ground := Ground.data }, { on := 5, ground := Ground.data }, { on := 5, ground := Ground.chain }], guard := none } : Oper)) rfl (fun K hK => ?_) AllReadyH.nil
          go_simp
          go_at_call 36; (with_reducible refine (cmp_any (HG1.out.below hq2) HG2.out).mono ?_); rintro e v3 ⟨rfl, hq3⟩; rw [E3.out]
          first | refine hK.out _ _ ?_ (fun hHeld => ?_) | (go_wp2_with fail; refine hK.out _ _ ?_ (fun hHeld => ?_))
          · first | exact HL.out _ (Below.drew HCUR.out) | exact HL.out _ (bt hHeld.1 (by assumption))
          clear hK K
          (try dsimp only at hHeld)
          (try simp only [Act.put, List.setIfInBounds_toArray, List.set_cons_zero, List.set_cons_succ])
          refine wpAnyH_take (i := 8) (oi := ({ dst := some 74, op := Op.binOp BinOp.eql 3 (Operand.tmp 72) (Operand.tmp 73) 3, type := 4, pos := "law.go:191", after := #[{ on := 6, ground := Ground.data }, { on := 7, ground := Ground.data }], guard := none } : Oper)) (v := ?x2_v8) rfl (by kernel_rfl) (by kernel_rfl) (by kernel_rfl) (fun _ _ _ h => h) (Or.inl ⟨by rfl, ?x2_h8⟩) hHeld ?x2_r8
          case x2_h8 => (intro w hSw; (try dsimp only at hSw); go_simp; all_goals with_reducible rfl)
          (try simp only [Act.put, List.setIfInBounds_toArray, List.set_cons_zero, List.set_cons_succ])
          refine wpAnyH_take (i := 9) (oi := ({ dst := some 75, op := Op.move (Operand.tmp 74), type := 4, pos := "law.go:191", after := #[{ on := 8, ground := Ground.data }, { on := 6, ground := Ground.chain }], guard := none } : Oper)) (v := ?x2_v9) rfl (by kernel_rfl) (by kernel_rfl) (by kernel_rfl) (fun _ _ _ h => h) (Or.inl ⟨by rfl, ?x2_h9⟩) hHeld ?x2_r9
          case x2_h9 => (intro w hSw; (try dsimp only at hSw); go_simp; all_goals with_reducible rfl)
          (try simp only [Act.put, List.setIfInBounds_toArray, List.set_cons_zero, List.set_cons_succ])
          refine wpAnyH_take (i := 10) (oi := ({ dst := some 76, op := Op.move (Operand.tmp 17), type := 3, pos := "law.go:191", after := #[{ on := 9, ground := Ground.guard }], guard := some (9, true) } : Oper)) (v := ?x2_v10) rfl (by kernel_rfl) (by kernel_rfl) (by kernel_rfl) (fun _ _ _ h => h) (Or.inl ⟨by rfl, ?x2_h10⟩) hHeld ?x2_r10
          case x2_h10 => (intro w hSw; (try dsimp only at hSw); go_simp; all_goals with_reducible rfl)
          (try simp only [Act.put, List.setIfInBounds_toArray, List.set_cons_zero, List.set_cons_succ])
          refine wpAnyH_take (i := 11) (oi := ({ dst := some 77, op := Op.binOp BinOp.gtr 3 (Operand.tmp 76) (Operand.const (Value.int IntKind.i64 0)) 3, type := 4, pos := "law.go:191", after := #[{ on := 10, ground := Ground.data }, { on := 9, ground := Ground.guard }], guard := some (9, true) } : Oper)) (v := ?x2_v11) rfl (by kernel_rfl) (by kernel_rfl) (by kernel_rfl) (fun _ _ _ h => h) (Or.inl ⟨by rfl, ?x2_h11⟩) hHeld ?x2_r11
          case x2_h11 => (intro w hSw; (try dsimp only at hSw); go_simp; all_goals with_reducible rfl)
          (try simp only [Act.put, List.setIfInBounds_toArray, List.set_cons_zero, List.set_cons_succ])
          refine wpAnyH_take (i := 12) (oi := ({ dst := some 78, op := Op.move (Operand.tmp 77), type := 4, pos := "law.go:191", after := #[{ on := 11, ground := Ground.data }, { on := 9, ground := Ground.chain }, { on := 9, ground := Ground.guard }], guard := some (9, true) } : Oper)) (v := ?x2_v12) rfl (by kernel_rfl) (by kernel_rfl) (by kernel_rfl) (fun _ _ _ h => h) (Or.inl ⟨by rfl, ?x2_h12⟩) hHeld ?x2_r12
          case x2_h12 => (intro w hSw; (try dsimp only at hSw); go_simp; all_goals with_reducible rfl)
          (try simp only [Act.put, List.setIfInBounds_toArray, List.set_cons_zero, List.set_cons_succ])
          refine wpAnyH_take (i := 13) (oi := ({ dst := some 79, op := Op.load 25 (Operand.tmp 8), type := 25, pos := "law.go:191", after := #[{ on := 12, ground := Ground.guard }], guard := some (12, false) } : Oper)) (v := ?x2_v13) rfl (by kernel_rfl) (by kernel_rfl) (by kernel_rfl) (fun _ _ _ h => h) (Or.inl ⟨by rfl, ?x2_h13⟩) hHeld ?x2_r13
          case x2_h13 => (intro w hSw; (try dsimp only at hSw); go_simp; all_goals with_reducible rfl)
          (try simp only [Act.put, List.setIfInBounds_toArray, List.set_cons_zero, List.set_cons_succ])
          refine wpAnyH_take (i := 14) (oi := ({ dst := some 80, op := Op.load 25 (Operand.tmp 12), type := 25, pos := "law.go:191", after := #[{ on := 12, ground := Ground.guard }], guard := some (12, false) } : Oper)) (v := ?x2_v14) rfl (by kernel_rfl) (by kernel_rfl) (by kernel_rfl) (fun _ _ _ h => h) (Or.inl ⟨by rfl, ?x2_h14⟩) hHeld ?x2_r14
          case x2_h14 => (intro w hSw; (try dsimp only at hSw); go_simp; all_goals with_reducible rfl)
          (try simp only [Act.put, List.setIfInBounds_toArray, List.set_cons_zero, List.set_cons_succ])
          refine wpAnyH_ready (rs := [15]) (by kernel_rfl) (by simp) ?_
          refine AllReadyH.cons (o := ({ dst := some 81, op := Op.call { callee := Callee.value (Operand.func 36), args := #[Operand.tmp 79, Operand.tmp 80], argTypes := #[25, 25] }, type := 3, pos := "law.go:191", after := #[{ on := 13, ground := Ground.data }, { on := 14, ground := Ground.data }, { on := 12, ground := Ground.chain }, { on := 12, ground := Ground.guard }], guard := some (12, false) } : Oper)) rfl (fun K hK => ?_) AllReadyH.nil
          go_simp
          go_at_call 36; (with_reducible refine (cmp_any (HI2.out _ hHeld) (HI3.out _ hHeld)).mono ?_); rintro e v4 ⟨rfl, hq4⟩; rw [HC2.out]
          first | refine hK.out _ _ ?_ (fun hHeld => ?_) | (go_wp2_with fail; refine hK.out _ _ ?_ (fun hHeld => ?_))
          · first | exact HL.out _ (Below.drew HCUR.out) | exact HL.out _ (bt hHeld.1 (by assumption))
          clear hK K
          (try dsimp only at hHeld)
          (try simp only [Act.put, List.setIfInBounds_toArray, List.set_cons_zero, List.set_cons_succ])
          refine wpAnyH_take (i := 16) (oi := ({ dst := some 82, op := Op.binOp BinOp.gtr 3 (Operand.tmp 81) (Operand.const (Value.int IntKind.i64 0)) 3, type := 4, pos := "law.go:191", after := #[{ on := 15, ground := Ground.data }, { on := 12, ground := Ground.guard }], guard := some (12, false) } : Oper)) (v := ?x2_v16) rfl (by kernel_rfl) (by kernel_rfl) (by kernel_rfl) (fun _ _ _ h => h) (Or.inl ⟨by rfl, ?x2_h16⟩) hHeld ?x2_r16
          case x2_h16 => (intro w hSw; (try dsimp only at hSw); go_simp; all_goals with_reducible rfl)
          (try simp only [Act.put, List.setIfInBounds_toArray, List.set_cons_zero, List.set_cons_succ])
          refine wpAnyH_take (i := 17) (oi := ({ dst := some 83, op := Op.pick (Operand.tmp 78) (Operand.const (Value.bool true)) (Operand.tmp 82), type := 4, pos := "law.go:191", after := #[{ on := 12, ground := Ground.data }, { on := 16, ground := Ground.data }, { on := 9, ground := Ground.guard }], guard := some (9, true) } : Oper)) (v := ?x2_v17) rfl (by kernel_rfl) (by kernel_rfl) (by kernel_rfl) (fun _ _ _ h => h) (Or.inl ⟨by rfl, ?x2_h17⟩) hHeld ?x2_r17
          case x2_h17 => (intro w hSw; (try dsimp only at hSw); go_simp; all_goals with_reducible rfl)
          (try simp only [Act.put, List.setIfInBounds_toArray, List.set_cons_zero, List.set_cons_succ])
          refine wpAnyH_take (i := 18) (oi := ({ dst := some 84, op := Op.move (Operand.tmp 83), type := 4, pos := "law.go:191", after := #[{ on := 17, ground := Ground.data }, { on := 15, ground := Ground.chain }, { on := 9, ground := Ground.guard }], guard := some (9, true) } : Oper)) (v := ?x2_v18) rfl (by kernel_rfl) (by kernel_rfl) (by kernel_rfl) (fun _ _ _ h => h) (Or.inl ⟨by rfl, ?x2_h18⟩) hHeld ?x2_r18
          case x2_h18 => (intro w hSw; (try dsimp only at hSw); go_simp; all_goals with_reducible rfl)
          (try simp only [Act.put, List.setIfInBounds_toArray, List.set_cons_zero, List.set_cons_succ])
          refine wpAnyH_take (i := 19) (oi := ({ dst := some 85, op := Op.load 25 (Operand.tmp 7), type := 25, pos := "law.go:191", after := #[{ on := 18, ground := Ground.guard }], guard := some (18, false) } : Oper)) (v := undef) rfl (by kernel_rfl) (by kernel_rfl) (by kernel_rfl) (fun _ _ _ h => h) (Or.inr ⟨by rfl, rfl⟩) hHeld ?_
          (try simp only [Act.put, List.setIfInBounds_toArray, List.set_cons_zero, List.set_cons_succ])
          refine wpAnyH_take (i := 20) (oi := ({ dst := some 86, op := Op.load 25 (Operand.tmp 12), type := 25, pos := "law.go:191", after := #[{ on := 18, ground := Ground.guard }], guard := some (18, false) } : Oper)) (v := undef) rfl (by kernel_rfl) (by kernel_rfl) (by kernel_rfl) (fun _ _ _ h => h) (Or.inr ⟨by rfl, rfl⟩) hHeld ?_
          (try simp only [Act.put, List.setIfInBounds_toArray, List.set_cons_zero, List.set_cons_succ])
          refine wpAnyH_take (i := 21) (oi := ({ dst := some 87, op := Op.call { callee := Callee.value (Operand.func 36), args := #[Operand.tmp 85, Operand.tmp 86], argTypes := #[25, 25] }, type := 3, pos := "law.go:191", after := #[{ on := 19, ground := Ground.data }, { on := 20, ground := Ground.data }, { on := 18, ground := Ground.chain }, { on := 18, ground := Ground.guard }], guard := some (18, false) } : Oper)) (v := undef) rfl (by kernel_rfl) (by kernel_rfl) (by kernel_rfl) (fun _ _ _ h => h) (Or.inr ⟨by rfl, rfl⟩) hHeld ?_
          (try simp only [Act.put, List.setIfInBounds_toArray, List.set_cons_zero, List.set_cons_succ])
          refine wpAnyH_take (i := 22) (oi := ({ dst := some 88, op := Op.binOp BinOp.leq 3 (Operand.tmp 87) (Operand.const (Value.int IntKind.i64 0)) 3, type := 4, pos := "law.go:191", after := #[{ on := 21, ground := Ground.data }, { on := 18, ground := Ground.guard }], guard := some (18, false) } : Oper)) (v := undef) rfl (by kernel_rfl) (by kernel_rfl) (by kernel_rfl) (fun _ _ _ h => h) (Or.inr ⟨by rfl, rfl⟩) hHeld ?_
          (try simp only [Act.put, List.setIfInBounds_toArray, List.set_cons_zero, List.set_cons_succ])
          refine wpAnyH_take (i := 23) (oi := ({ dst := some 89, op := Op.pick (Operand.tmp 84) (Operand.const (Value.bool true)) (Operand.tmp 88), type := 4, pos := "law.go:191", after := #[{ on := 18, ground := Ground.data }, { on := 22, ground := Ground.data }, { on := 9, ground := Ground.guard }], guard := some (9, true) } : Oper)) (v := ?x2_v23) rfl (by kernel_rfl) (by kernel_rfl) (by kernel_rfl) (fun _ _ _ h => h) (Or.inl ⟨by rfl, ?x2_h23⟩) hHeld ?x2_r23
          case x2_h23 => (intro w hSw; (try dsimp only at hSw); go_simp; all_goals with_reducible rfl)
          (try simp only [Act.put, List.setIfInBounds_toArray, List.set_cons_zero, List.set_cons_succ])
          refine wpAnyH_take (i := 24) (oi := ({ dst := some 90, op := Op.pick (Operand.tmp 75) (Operand.tmp 89) (Operand.const (Value.bool false)), type := 4, pos := "law.go:191", after := #[{ on := 9, ground := Ground.data }, { on := 23, ground := Ground.data }], guard := none } : Oper)) (v := ?x2_v24) rfl (by kernel_rfl) (by kernel_rfl) (by kernel_rfl) (fun _ _ _ h => h) (Or.inl ⟨by rfl, ?x2_h24⟩) hHeld ?x2_r24
          case x2_h24 => (intro w hSw; (try dsimp only at hSw); go_simp; all_goals with_reducible rfl)
          (try simp only [Act.put, List.setIfInBounds_toArray, List.set_cons_zero, List.set_cons_succ])
          refine wpAnyH_take (i := 25) (oi := ({ dst := some 6, op := Op.assign (Operand.tmp 90), type := 4, pos := "law.go:191", after := #[{ on := 24, ground := Ground.data }, { on := 21, ground := Ground.chain }, { on := 0, ground := Ground.phase }, { on := 1, ground := Ground.phase }, { on := 2, ground := Ground.phase }, { on := 3, ground := Ground.phase }, { on := 4, ground := Ground.phase }, { on := 5, ground := Ground.phase }, { on := 6, ground := Ground.phase }, { on := 7, ground := Ground.phase }, { on := 8, ground := Ground.phase }, { on := 9, ground := Ground.phase }, { on := 10, ground := Ground.phase }, { on := 11, ground := Ground.phase }, { on := 12, ground := Ground.phase }, { on := 13, ground := Ground.phase }, { on := 14, ground := Ground.phase }, { on := 15, ground := Ground.phase }, { on := 16, ground := Ground.phase }, { on := 17, ground := Ground.phase }, { on := 18, ground := Ground.phase }, { on := 19, ground := Ground.phase }, { on := 20, ground := Ground.phase }, { on := 21, ground := Ground.phase }, { on := 22, ground := Ground.phase }, { on := 23, ground := Ground.phase }, { on := 24, ground := Ground.phase }], guard := none } : Oper)) (v := ?x2_v25) rfl (by kernel_rfl) (by kernel_rfl) (by kernel_rfl) (fun _ _ _ h => h) (Or.inl ⟨by rfl, ?x2_h25⟩) hHeld ?x2_r25
          case x2_h25 => (intro w hSw; (try dsimp only at hSw); go_simp; all_goals with_reducible rfl)
          (try simp only [Act.put, List.setIfInBounds_toArray, List.set_cons_zero, List.set_cons_succ])
          refine wpAnyH_done (by kernel_rfl) ?_ _
          go_wp2
          go_ret
          exact ⟨by simp, bt HB2.out (bt BF2.out.2 (bt (bt (bt (bt (Below.drew HCUR.out) hq1) hq2) hq3) hq4))⟩
        · have g2 : decide (0 < c2) = false := by simp; omega
          have g3 : decide (c3 ≤ 0) = true := by simp; exact HLE.out h1 h2
          have g3' := HLE.out h1 h2
          refine wp_region_held_drew (S := fun w' => Below W.heap.size W w' ∧ (w'.cell? ⟨w1.heap.size, 0, none⟩ = some (.bool n0_1) ∧ w'.cell? ⟨w1.heap.size, 1, none⟩ = some (.slice a0_1 k0_1 c0_1) ∧ w'.cell? ⟨w1.heap.size + 1, 0, none⟩ = some (.bool n1_1) ∧ w'.cell? ⟨w1.heap.size + 1, 1, none⟩ = some (.slice a1_1 k1_1 c1_1) ∧ w'.cell? ⟨w1.heap.size + 1 + 1, 0, none⟩ = some (.bool n2_1) ∧ w'.cell? ⟨w1.heap.size + 1 + 1, 1, none⟩ = some (.slice a2_1 k2_1 c2_1) ∧ w'.cell? ⟨w1.heap.size + 1 + 1 + 1, 0, none⟩ = some (.bool n3_1) ∧ w'.cell? ⟨w1.heap.size + 1 + 1 + 1, 1, none⟩ = some (.slice a3_1 k3_1 c3_1)) ∧ (w'.cell? ⟨w2.heap.size, 0, none⟩ = some (.bool n0_2) ∧ w'.cell? ⟨w2.heap.size, 1, none⟩ = some (.slice a0_2 k0_2 c0_2) ∧ w'.cell? ⟨w2.heap.size + 1, 0, none⟩ = some (.bool n1_2) ∧ w'.cell? ⟨w2.heap.size + 1, 1, none⟩ = some (.slice a1_2 k1_2 c1_2) ∧ w'.cell? ⟨w2.heap.size + 1 + 1, 0, none⟩ = some (.bool n2_2) ∧ w'.cell? ⟨w2.heap.size + 1 + 1, 1, none⟩ = some (.slice a2_2 k2_2 c2_2) ∧ w'.cell? ⟨w2.heap.size + 1 + 1 + 1, 0, none⟩ = some (.bool n3_2) ∧ w'.cell? ⟨w2.heap.size + 1 + 1 + 1, 1, none⟩ = some (.slice a3_2 k3_2 c3_2))) (by kernel_rfl) ?_ (fun hHeld => ?_)
          · first | exact HL.out _ (Below.drew HCUR.out) | exact HL.out _ (bt hHeld.1 (by assumption))
          (try dsimp only at hHeld)
          refine wpAnyH_take (i := 0) (oi := ({ dst := some 66, op := Op.load 25 (Operand.tmp 7), type := 25, pos := "law.go:191", after := #[], guard := none } : Oper)) (v := ?x3_v0) rfl (by kernel_rfl) (by kernel_rfl) (by kernel_rfl) (fun _ _ _ h => h) (Or.inl ⟨by rfl, ?x3_h0⟩) hHeld ?x3_r0
          case x3_h0 => (intro w hSw; (try dsimp only at hSw); go_simp; all_goals with_reducible rfl)
          (try simp only [Act.put, List.setIfInBounds_toArray, List.set_cons_zero, List.set_cons_succ])
          refine wpAnyH_take (i := 1) (oi := ({ dst := some 67, op := Op.load 25 (Operand.tmp 12), type := 25, pos := "law.go:191", after := #[], guard := none } : Oper)) (v := ?x3_v1) rfl (by kernel_rfl) (by kernel_rfl) (by kernel_rfl) (fun _ _ _ h => h) (Or.inl ⟨by rfl, ?x3_h1⟩) hHeld ?x3_r1
          case x3_h1 => (intro w hSw; (try dsimp only at hSw); go_simp; all_goals with_reducible rfl)
          (try simp only [Act.put, List.setIfInBounds_toArray, List.set_cons_zero, List.set_cons_succ])
          refine wpAnyH_take (i := 3) (oi := ({ dst := some 69, op := Op.load 25 (Operand.tmp 8), type := 25, pos := "law.go:191", after := #[], guard := none } : Oper)) (v := ?x3_v3) rfl (by kernel_rfl) (by kernel_rfl) (by kernel_rfl) (fun _ _ _ h => h) (Or.inl ⟨by rfl, ?x3_h3⟩) hHeld ?x3_r3
          case x3_h3 => (intro w hSw; (try dsimp only at hSw); go_simp; all_goals with_reducible rfl)
          (try simp only [Act.put, List.setIfInBounds_toArray, List.set_cons_zero, List.set_cons_succ])
          refine wpAnyH_take (i := 4) (oi := ({ dst := some 70, op := Op.load 25 (Operand.tmp 12), type := 25, pos := "law.go:191", after := #[], guard := none } : Oper)) (v := ?x3_v4) rfl (by kernel_rfl) (by kernel_rfl) (by kernel_rfl) (fun _ _ _ h => h) (Or.inl ⟨by rfl, ?x3_h4⟩) hHeld ?x3_r4
          case x3_h4 => (intro w hSw; (try dsimp only at hSw); go_simp; all_goals with_reducible rfl)
          (try simp only [Act.put, List.setIfInBounds_toArray, List.set_cons_zero, List.set_cons_succ])
          refine wpAnyH_take (i := 7) (oi := ({ dst := some 73, op := Op.move (Operand.tmp 17), type := 3, pos := "law.go:191", after := #[], guard := none } : Oper)) (v := ?x3_v7) rfl (by kernel_rfl) (by kernel_rfl) (by kernel_rfl) (fun _ _ _ h => h) (Or.inl ⟨by rfl, ?x3_h7⟩) hHeld ?x3_r7
          case x3_h7 => (intro w hSw; (try dsimp only at hSw); go_simp; all_goals with_reducible rfl)
          (try simp only [Act.put, List.setIfInBounds_toArray, List.set_cons_zero, List.set_cons_succ])
          refine wpAnyH_ready (rs := [2]) (by kernel_rfl) (by simp) ?_
          refine AllReadyH.cons (o := ({ dst := some 68, op := Op.call { callee := Callee.value (Operand.func 30), args := #[Operand.tmp 66, Operand.tmp 67], argTypes := #[25, 25] }, type := 25, pos := "law.go:191", after := #[{ on := 0, ground := Ground.data }, { on := 1, ground := Ground.data }], guard := none } : Oper)) rfl (fun K hK => ?_) AllReadyH.nil
          go_simp
          go_at_call 30; (with_reducible refine (add_any (HI1.out _ hHeld) (HI3.out _ hHeld) dgx dgz (by omega)).mono ?_); rintro e v1 ⟨m1, b1, j1, d1, rfl, hg1, hq1⟩; have HG1 := Lib.hid hg1; clear hg1
          first | refine hK.out _ _ ?_ (fun hHeld => ?_) | (go_wp2_with fail; refine hK.out _ _ ?_ (fun hHeld => ?_))
          · first | exact HL.out _ (Below.drew HCUR.out) | exact HL.out _ (bt hHeld.1 (by assumption))
          clear hK K
          (try dsimp only at hHeld)
          (try simp only [Act.put, List.setIfInBounds_toArray, List.set_cons_zero, List.set_cons_succ])
          refine wpAnyH_ready (rs := [5]) (by kernel_rfl) (by simp) ?_
          refine AllReadyH.cons (o := ({ dst := some 71, op := Op.call { callee := Callee.value (Operand.func 30), args := #[Operand.tmp 69, Operand.tmp 70], argTypes := #[25, 25] }, type := 25, pos := "law.go:191", after := #[{ on := 3, ground := Ground.data }, { on := 4, ground := Ground.data }, { on := 2, ground := Ground.chain }], guard := none } : Oper)) rfl (fun K hK => ?_) AllReadyH.nil
          go_simp
          go_at_call 30; (with_reducible refine (add_any (HI2.out _ hHeld) (HI3.out _ hHeld) dgy dgz (by omega)).mono ?_); rintro e v2 ⟨m2, b2, j2, d2, rfl, hg2, hq2⟩; have HG2 := Lib.hid hg2; clear hg2
          first | refine hK.out _ _ ?_ (fun hHeld => ?_) | (go_wp2_with fail; refine hK.out _ _ ?_ (fun hHeld => ?_))
          · first | exact HL.out _ (Below.drew HCUR.out) | exact HL.out _ (bt hHeld.1 (by assumption))
          clear hK K
          (try dsimp only at hHeld)
          (try simp only [Act.put, List.setIfInBounds_toArray, List.set_cons_zero, List.set_cons_succ])
          refine wpAnyH_ready (rs := [6]) (by kernel_rfl) (by simp) ?_
          refine AllReadyH.cons (o := ({ dst := some 72, op := Op.call { callee := Callee.value (Operand.func 36), args := #[Operand.tmp 68, Operand.tmp 71], argTypes := #[25, 25] }, type := 3, pos := "law.go:191", after := #[{ on := 2, ground := Ground.data }, { on := 5, ground := Ground.data }, { on := 5, ground := Ground.chain }], guard := none } : Oper)) rfl (fun K hK => ?_) AllReadyH.nil
          go_simp
          go_at_call 36; (with_reducible refine (cmp_any (HG1.out.below hq2) HG2.out).mono ?_); rintro e v3 ⟨rfl, hq3⟩; rw [E3.out]
          first | refine hK.out _ _ ?_ (fun hHeld => ?_) | (go_wp2_with fail; refine hK.out _ _ ?_ (fun hHeld => ?_))
          · first | exact HL.out _ (Below.drew HCUR.out) | exact HL.out _ (bt hHeld.1 (by assumption))
          clear hK K
          (try dsimp only at hHeld)
          (try simp only [Act.put, List.setIfInBounds_toArray, List.set_cons_zero, List.set_cons_succ])
          refine wpAnyH_take (i := 8) (oi := ({ dst := some 74, op := Op.binOp BinOp.eql 3 (Operand.tmp 72) (Operand.tmp 73) 3, type := 4, pos := "law.go:191", after := #[{ on := 6, ground := Ground.data }, { on := 7, ground := Ground.data }], guard := none } : Oper)) (v := ?x3_v8) rfl (by kernel_rfl) (by kernel_rfl) (by kernel_rfl) (fun _ _ _ h => h) (Or.inl ⟨by rfl, ?x3_h8⟩) hHeld ?x3_r8
          case x3_h8 => (intro w hSw; (try dsimp only at hSw); go_simp; all_goals with_reducible rfl)
          (try simp only [Act.put, List.setIfInBounds_toArray, List.set_cons_zero, List.set_cons_succ])
          refine wpAnyH_take (i := 9) (oi := ({ dst := some 75, op := Op.move (Operand.tmp 74), type := 4, pos := "law.go:191", after := #[{ on := 8, ground := Ground.data }, { on := 6, ground := Ground.chain }], guard := none } : Oper)) (v := ?x3_v9) rfl (by kernel_rfl) (by kernel_rfl) (by kernel_rfl) (fun _ _ _ h => h) (Or.inl ⟨by rfl, ?x3_h9⟩) hHeld ?x3_r9
          case x3_h9 => (intro w hSw; (try dsimp only at hSw); go_simp; all_goals with_reducible rfl)
          (try simp only [Act.put, List.setIfInBounds_toArray, List.set_cons_zero, List.set_cons_succ])
          refine wpAnyH_take (i := 10) (oi := ({ dst := some 76, op := Op.move (Operand.tmp 17), type := 3, pos := "law.go:191", after := #[{ on := 9, ground := Ground.guard }], guard := some (9, true) } : Oper)) (v := ?x3_v10) rfl (by kernel_rfl) (by kernel_rfl) (by kernel_rfl) (fun _ _ _ h => h) (Or.inl ⟨by rfl, ?x3_h10⟩) hHeld ?x3_r10
          case x3_h10 => (intro w hSw; (try dsimp only at hSw); go_simp; all_goals with_reducible rfl)
          (try simp only [Act.put, List.setIfInBounds_toArray, List.set_cons_zero, List.set_cons_succ])
          refine wpAnyH_take (i := 11) (oi := ({ dst := some 77, op := Op.binOp BinOp.gtr 3 (Operand.tmp 76) (Operand.const (Value.int IntKind.i64 0)) 3, type := 4, pos := "law.go:191", after := #[{ on := 10, ground := Ground.data }, { on := 9, ground := Ground.guard }], guard := some (9, true) } : Oper)) (v := ?x3_v11) rfl (by kernel_rfl) (by kernel_rfl) (by kernel_rfl) (fun _ _ _ h => h) (Or.inl ⟨by rfl, ?x3_h11⟩) hHeld ?x3_r11
          case x3_h11 => (intro w hSw; (try dsimp only at hSw); go_simp; all_goals with_reducible rfl)
          (try simp only [Act.put, List.setIfInBounds_toArray, List.set_cons_zero, List.set_cons_succ])
          refine wpAnyH_take (i := 12) (oi := ({ dst := some 78, op := Op.move (Operand.tmp 77), type := 4, pos := "law.go:191", after := #[{ on := 11, ground := Ground.data }, { on := 9, ground := Ground.chain }, { on := 9, ground := Ground.guard }], guard := some (9, true) } : Oper)) (v := ?x3_v12) rfl (by kernel_rfl) (by kernel_rfl) (by kernel_rfl) (fun _ _ _ h => h) (Or.inl ⟨by rfl, ?x3_h12⟩) hHeld ?x3_r12
          case x3_h12 => (intro w hSw; (try dsimp only at hSw); go_simp; all_goals with_reducible rfl)
          (try simp only [Act.put, List.setIfInBounds_toArray, List.set_cons_zero, List.set_cons_succ])
          refine wpAnyH_take (i := 13) (oi := ({ dst := some 79, op := Op.load 25 (Operand.tmp 8), type := 25, pos := "law.go:191", after := #[{ on := 12, ground := Ground.guard }], guard := some (12, false) } : Oper)) (v := ?x3_v13) rfl (by kernel_rfl) (by kernel_rfl) (by kernel_rfl) (fun _ _ _ h => h) (Or.inl ⟨by rfl, ?x3_h13⟩) hHeld ?x3_r13
          case x3_h13 => (intro w hSw; (try dsimp only at hSw); go_simp; all_goals with_reducible rfl)
          (try simp only [Act.put, List.setIfInBounds_toArray, List.set_cons_zero, List.set_cons_succ])
          refine wpAnyH_take (i := 14) (oi := ({ dst := some 80, op := Op.load 25 (Operand.tmp 12), type := 25, pos := "law.go:191", after := #[{ on := 12, ground := Ground.guard }], guard := some (12, false) } : Oper)) (v := ?x3_v14) rfl (by kernel_rfl) (by kernel_rfl) (by kernel_rfl) (fun _ _ _ h => h) (Or.inl ⟨by rfl, ?x3_h14⟩) hHeld ?x3_r14
          case x3_h14 => (intro w hSw; (try dsimp only at hSw); go_simp; all_goals with_reducible rfl)
          (try simp only [Act.put, List.setIfInBounds_toArray, List.set_cons_zero, List.set_cons_succ])
          refine wpAnyH_ready (rs := [15]) (by kernel_rfl) (by simp) ?_
          refine AllReadyH.cons (o := ({ dst := some 81, op := Op.call { callee := Callee.value (Operand.func 36), args := #[Operand.tmp 79, Operand.tmp 80], argTypes := #[25, 25] }, type := 3, pos := "law.go:191", after := #[{ on := 13, ground := Ground.data }, { on := 14, ground := Ground.data }, { on := 12, ground := Ground.chain }, { on := 12, ground := Ground.guard }], guard := some (12, false) } : Oper)) rfl (fun K hK => ?_) AllReadyH.nil
          go_simp
          go_at_call 36; (with_reducible refine (cmp_any (HI2.out _ hHeld) (HI3.out _ hHeld)).mono ?_); rintro e v4 ⟨rfl, hq4⟩; rw [HC2.out]
          first | refine hK.out _ _ ?_ (fun hHeld => ?_) | (go_wp2_with fail; refine hK.out _ _ ?_ (fun hHeld => ?_))
          · first | exact HL.out _ (Below.drew HCUR.out) | exact HL.out _ (bt hHeld.1 (by assumption))
          clear hK K
          (try dsimp only at hHeld)
          (try simp only [Act.put, List.setIfInBounds_toArray, List.set_cons_zero, List.set_cons_succ])
          refine wpAnyH_take (i := 16) (oi := ({ dst := some 82, op := Op.binOp BinOp.gtr 3 (Operand.tmp 81) (Operand.const (Value.int IntKind.i64 0)) 3, type := 4, pos := "law.go:191", after := #[{ on := 15, ground := Ground.data }, { on := 12, ground := Ground.guard }], guard := some (12, false) } : Oper)) (v := ?x3_v16) rfl (by kernel_rfl) (by kernel_rfl) (by kernel_rfl) (fun _ _ _ h => h) (Or.inl ⟨by rfl, ?x3_h16⟩) hHeld ?x3_r16
          case x3_h16 => (intro w hSw; (try dsimp only at hSw); go_simp; all_goals with_reducible rfl)
          (try simp only [Act.put, List.setIfInBounds_toArray, List.set_cons_zero, List.set_cons_succ])
          refine wpAnyH_take (i := 17) (oi := ({ dst := some 83, op := Op.pick (Operand.tmp 78) (Operand.const (Value.bool true)) (Operand.tmp 82), type := 4, pos := "law.go:191", after := #[{ on := 12, ground := Ground.data }, { on := 16, ground := Ground.data }, { on := 9, ground := Ground.guard }], guard := some (9, true) } : Oper)) (v := ?x3_v17) rfl (by kernel_rfl) (by kernel_rfl) (by kernel_rfl) (fun _ _ _ h => h) (Or.inl ⟨by rfl, ?x3_h17⟩) hHeld ?x3_r17
          case x3_h17 => (intro w hSw; (try dsimp only at hSw); go_simp; all_goals with_reducible rfl)
          (try simp only [Act.put, List.setIfInBounds_toArray, List.set_cons_zero, List.set_cons_succ])
          refine wpAnyH_take (i := 18) (oi := ({ dst := some 84, op := Op.move (Operand.tmp 83), type := 4, pos := "law.go:191", after := #[{ on := 17, ground := Ground.data }, { on := 15, ground := Ground.chain }, { on := 9, ground := Ground.guard }], guard := some (9, true) } : Oper)) (v := ?x3_v18) rfl (by kernel_rfl) (by kernel_rfl) (by kernel_rfl) (fun _ _ _ h => h) (Or.inl ⟨by rfl, ?x3_h18⟩) hHeld ?x3_r18
          case x3_h18 => (intro w hSw; (try dsimp only at hSw); go_simp; all_goals with_reducible rfl)
          (try simp only [Act.put, List.setIfInBounds_toArray, List.set_cons_zero, List.set_cons_succ])
          refine wpAnyH_take (i := 19) (oi := ({ dst := some 85, op := Op.load 25 (Operand.tmp 7), type := 25, pos := "law.go:191", after := #[{ on := 18, ground := Ground.guard }], guard := some (18, false) } : Oper)) (v := ?x3_v19) rfl (by kernel_rfl) (by kernel_rfl) (by kernel_rfl) (fun _ _ _ h => h) (Or.inl ⟨by rfl, ?x3_h19⟩) hHeld ?x3_r19
          case x3_h19 => (intro w hSw; (try dsimp only at hSw); go_simp; all_goals with_reducible rfl)
          (try simp only [Act.put, List.setIfInBounds_toArray, List.set_cons_zero, List.set_cons_succ])
          refine wpAnyH_take (i := 20) (oi := ({ dst := some 86, op := Op.load 25 (Operand.tmp 12), type := 25, pos := "law.go:191", after := #[{ on := 18, ground := Ground.guard }], guard := some (18, false) } : Oper)) (v := ?x3_v20) rfl (by kernel_rfl) (by kernel_rfl) (by kernel_rfl) (fun _ _ _ h => h) (Or.inl ⟨by rfl, ?x3_h20⟩) hHeld ?x3_r20
          case x3_h20 => (intro w hSw; (try dsimp only at hSw); go_simp; all_goals with_reducible rfl)
          (try simp only [Act.put, List.setIfInBounds_toArray, List.set_cons_zero, List.set_cons_succ])
          refine wpAnyH_ready (rs := [21]) (by kernel_rfl) (by simp) ?_
          refine AllReadyH.cons (o := ({ dst := some 87, op := Op.call { callee := Callee.value (Operand.func 36), args := #[Operand.tmp 85, Operand.tmp 86], argTypes := #[25, 25] }, type := 3, pos := "law.go:191", after := #[{ on := 19, ground := Ground.data }, { on := 20, ground := Ground.data }, { on := 18, ground := Ground.chain }, { on := 18, ground := Ground.guard }], guard := some (18, false) } : Oper)) rfl (fun K hK => ?_) AllReadyH.nil
          go_simp
          go_at_call 36; (with_reducible refine (cmp_any (HI1.out _ hHeld) (HI3.out _ hHeld)).mono ?_); rintro e v5 ⟨rfl, hq5⟩; rw [HC3.out]
          first | refine hK.out _ _ ?_ (fun hHeld => ?_) | (go_wp2_with fail; refine hK.out _ _ ?_ (fun hHeld => ?_))
          · first | exact HL.out _ (Below.drew HCUR.out) | exact HL.out _ (bt hHeld.1 (by assumption))
          clear hK K
          (try dsimp only at hHeld)
          (try simp only [Act.put, List.setIfInBounds_toArray, List.set_cons_zero, List.set_cons_succ])
          refine wpAnyH_take (i := 22) (oi := ({ dst := some 88, op := Op.binOp BinOp.leq 3 (Operand.tmp 87) (Operand.const (Value.int IntKind.i64 0)) 3, type := 4, pos := "law.go:191", after := #[{ on := 21, ground := Ground.data }, { on := 18, ground := Ground.guard }], guard := some (18, false) } : Oper)) (v := ?x3_v22) rfl (by kernel_rfl) (by kernel_rfl) (by kernel_rfl) (fun _ _ _ h => h) (Or.inl ⟨by rfl, ?x3_h22⟩) hHeld ?x3_r22
          case x3_h22 => (intro w hSw; (try dsimp only at hSw); go_simp; all_goals with_reducible rfl)
          (try simp only [Act.put, List.setIfInBounds_toArray, List.set_cons_zero, List.set_cons_succ])
          refine wpAnyH_take (i := 23) (oi := ({ dst := some 89, op := Op.pick (Operand.tmp 84) (Operand.const (Value.bool true)) (Operand.tmp 88), type := 4, pos := "law.go:191", after := #[{ on := 18, ground := Ground.data }, { on := 22, ground := Ground.data }, { on := 9, ground := Ground.guard }], guard := some (9, true) } : Oper)) (v := ?x3_v23) rfl (by kernel_rfl) (by kernel_rfl) (by kernel_rfl) (fun _ _ _ h => h) (Or.inl ⟨by rfl, ?x3_h23⟩) hHeld ?x3_r23
          case x3_h23 => (intro w hSw; (try dsimp only at hSw); go_simp; all_goals with_reducible rfl)
          (try simp only [Act.put, List.setIfInBounds_toArray, List.set_cons_zero, List.set_cons_succ])
          refine wpAnyH_take (i := 24) (oi := ({ dst := some 90, op := Op.pick (Operand.tmp 75) (Operand.tmp 89) (Operand.const (Value.bool false)), type := 4, pos := "law.go:191", after := #[{ on := 9, ground := Ground.data }, { on := 23, ground := Ground.data }], guard := none } : Oper)) (v := ?x3_v24) rfl (by kernel_rfl) (by kernel_rfl) (by kernel_rfl) (fun _ _ _ h => h) (Or.inl ⟨by rfl, ?x3_h24⟩) hHeld ?x3_r24
          case x3_h24 => (intro w hSw; (try dsimp only at hSw); go_simp; all_goals with_reducible rfl)
          (try simp only [Act.put, List.setIfInBounds_toArray, List.set_cons_zero, List.set_cons_succ])
          refine wpAnyH_take (i := 25) (oi := ({ dst := some 6, op := Op.assign (Operand.tmp 90), type := 4, pos := "law.go:191", after := #[{ on := 24, ground := Ground.data }, { on := 21, ground := Ground.chain }, { on := 0, ground := Ground.phase }, { on := 1, ground := Ground.phase }, { on := 2, ground := Ground.phase }, { on := 3, ground := Ground.phase }, { on := 4, ground := Ground.phase }, { on := 5, ground := Ground.phase }, { on := 6, ground := Ground.phase }, { on := 7, ground := Ground.phase }, { on := 8, ground := Ground.phase }, { on := 9, ground := Ground.phase }, { on := 10, ground := Ground.phase }, { on := 11, ground := Ground.phase }, { on := 12, ground := Ground.phase }, { on := 13, ground := Ground.phase }, { on := 14, ground := Ground.phase }, { on := 15, ground := Ground.phase }, { on := 16, ground := Ground.phase }, { on := 17, ground := Ground.phase }, { on := 18, ground := Ground.phase }, { on := 19, ground := Ground.phase }, { on := 20, ground := Ground.phase }, { on := 21, ground := Ground.phase }, { on := 22, ground := Ground.phase }, { on := 23, ground := Ground.phase }, { on := 24, ground := Ground.phase }], guard := none } : Oper)) (v := ?x3_v25) rfl (by kernel_rfl) (by kernel_rfl) (by kernel_rfl) (fun _ _ _ h => h) (Or.inl ⟨by rfl, ?x3_h25⟩) hHeld ?x3_r25
          case x3_h25 => (intro w hSw; (try dsimp only at hSw); go_simp; all_goals with_reducible rfl)
          (try simp only [Act.put, List.setIfInBounds_toArray, List.set_cons_zero, List.set_cons_succ])
          refine wpAnyH_done (by kernel_rfl) ?_ _
          go_wp2
          go_ret
          exact ⟨by simp, bt HB2.out (bt BF2.out.2 (bt (bt (bt (bt (bt (Below.drew HCUR.out) hq1) hq2) hq3) hq4) hq5))⟩
end Go.Proofs.YtihjaakkpnjolaaDoor
