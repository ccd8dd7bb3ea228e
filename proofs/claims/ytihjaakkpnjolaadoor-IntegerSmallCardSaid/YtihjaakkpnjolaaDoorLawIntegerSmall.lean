/- The law IntegerSmall answers true. -/
import Derived.Test.YtihjaakkpnjolaaDoorEqual
import Derived.Test.YtihjaakkpnjolaaDoorRSmall
namespace Go.Proofs.YtihjaakkpnjolaaDoor
open Go.RowKit Tally Go.Lib

set_option maxHeartbeats 8000000 in
set_option maxRecDepth 100000 in
theorem lawIntegerSmall {w : World} (n : Int) (s : ByteArray) (hs_n : -9223372036854775808 ≤ n ∧ n ≤ 9223372036854775807) (hs_s : s.size ≤ 9223372036854775807) (htab : Tab w) :
    Calls Tryd.prog 5 #[.int .i64 n, .string s] w (True1 w) := by
  obtain ⟨hn1, hn2⟩ := hs_n
  have HT := Lib.hid htab
  clear htab
  have dgn : Dg 20 n := dg20 hn1 hn2
  have dg0 : Dg 20 (0 : Int) := dg20 (by decide) (by decide)
  have HIN := Lib.hid (show InI n from ⟨hn1, hn2⟩)
  go_enter Tryd.func5, Tryd.ntmps5
  go_wp2_with fail
  refine (awake_any HT.out).mono ?_
  rintro e w0 ⟨rfl, hb0⟩
  have HB0 := Lib.hid hb0
  clear hb0
  go_wp2_with fail
  refine (of_any hn1 hn2).mono ?_
  rintro e w1 ⟨n1, a1, k1, c1, rfl, hu1, hb1⟩
  have HB1 := Lib.hid ((bt HB0.out hb1).alloc (bt HB0.out hb1).size (.cells #[.bool n1, .slice a1 k1 c1] 25))
  have HU1 := Lib.hid (hu1.below ((Below.refl w1.heap.size w1).alloc (Nat.le_refl _) (.cells #[.bool n1, .slice a1 k1 c1] 25)))
  have HC1 := Lib.hid (heap_alloc_new w1 (.cells #[.bool n1, .slice a1 k1 c1] 25))
  clear hu1 hb1
  go_wp2_with fail
  revert HB1 HU1 HC1
  generalize w1.alloc (.cells #[.bool n1, .slice a1 k1 c1] 25) = W1
  intro HB1 HU1 HC1
  refine (small_yes HU1.out HIN.out).mono ?_
  rintro e w2 ⟨rfl, hb2⟩
  have HB2 := Lib.hid (bt HB1.out hb2)
  have HU2 := Lib.hid (HU1.out.below hb2)
  have HC2 := Lib.hid (blk_next HC1.out hb2)
  clear hb2 HU1 HC1
  go_wp2_with fail
  have HL := Lib.hid (fun (w' : World) (hb : Below w2.heap.size w2 w') => (⟨hb, (res_facts (blk_next HC2.out hb)).1, (res_facts (blk_next HC2.out hb)).2.1⟩ : Below w2.heap.size w2 w' ∧ w'.cell? ⟨w1.heap.size, 0, none⟩ = some (.bool n1) ∧ w'.cell? ⟨w1.heap.size, 1, none⟩ = some (.slice a1 k1 c1)))
  have HI := Lib.hid (fun (w' : World) (hs : Below w2.heap.size w2 w' ∧ w'.cell? ⟨w1.heap.size, 0, none⟩ = some (.bool n1) ∧ w'.cell? ⟨w1.heap.size, 1, none⟩ = some (.slice a1 k1 c1)) => HU2.out.below hs.1)
  have HT0 := Lib.hid (fun (w' : World) (hs : Below w2.heap.size w2 w' ∧ w'.cell? ⟨w1.heap.size, 0, none⟩ = some (.bool n1) ∧ w'.cell? ⟨w1.heap.size, 1, none⟩ = some (.slice a1 k1 c1)) => HT.out.below (bt HB2.out hs.1))
  have SG0 := Lib.hid (show (0 : Int).sign = 0 from rfl)
  have TX0 := Lib.hid (show (⟨(itoa 0).toArray⟩ : ByteArray) = ⟨#[48]⟩ from by rw [show (itoa 0) = [48] from by unfold itoa; simp [decDigits_one]])
  go_region_held3 (fun w' => Below w2.heap.size w2 w' ∧ w'.cell? ⟨w1.heap.size, 0, none⟩ = some (.bool n1) ∧ w'.cell? ⟨w1.heap.size, 1, none⟩ = some (.slice a1 k1 c1))
    (first | exact HL.out _ (Below.drew (Below.refl _ _)) | exact HL.out _ (bt (And.left (by assumption)) (by assumption)))
    (first | (go_at_call 28; (with_reducible refine (rof_any (n := n) hn1 hn2).mono ?_); rintro e v1 ⟨m1, b1, j1, d1, rfl, hg1, hq1⟩; have HG1 := Lib.hid hg1; clear hg1) | (go_at_call 18; (with_reducible refine (same_any (HI.out _ (by assumption)) HG1.out (HT0.out _ (by assumption)) dgn (by omega)).mono ?_); rintro e v2 ⟨rfl, hq2⟩) | (go_at_call 23; (with_reducible refine (sign_any (intR_zero _)).mono ?_); rintro e v3 ⟨rfl, hq3⟩; rw [SG0.out]) | (go_at_call 24; (with_reducible refine (text_any (intR_zero _) (HT0.out _ (by assumption)) dg0 (by omega)).mono ?_); rintro e v4 ⟨rfl, hq4⟩; rw [TX0.out]))
  have HB3 := Lib.hid (bt HB2.out (bt (bt (bt (bt (Below.drew (Below.refl _ _)) hq1) hq2) hq3) hq4))
  clear hq1 hq2 hq3 hq4 HL HI HT0 HU2 HC2 HG1 SG0 TX0 HB2 HB1 HB0 HIN dgn
  go_wp2_with fail
  refine (both_any (w := _) s ⟨#[48]⟩ hs_s (by decide)).mono ?_
  rintro e w5 ⟨n0_5, a0_5, k0_5, c0_5, n1_5, a1_5, k1_5, c1_5, n2_5, a2_5, k2_5, c2_5, n3_5, a3_5, k3_5, c3_5, ok5, rfl, hok5, hb5⟩
  have HOK5 := Lib.hid hok5
  have HB5 := Lib.hid (bt HB3.out hb5)
  clear hok5 hb5
  have BF5 := Lib.hid (cells4_of w5 (.bool n0_5) (.slice a0_5 k0_5 c0_5) (.bool n1_5) (.slice a1_5 k1_5 c1_5) (.bool n2_5) (.slice a2_5 k2_5 c2_5) (.bool n3_5) (.slice a3_5 k3_5 c3_5))
  cases ok5
  · go_wp2
    go_ret
    exact ⟨rfl, bt HB5.out BF5.out.2⟩
  · obtain ⟨s6, t6, cs, ct, hx, hy, ha, hb⟩ := HOK5.out (by simp)
    have HX := Lib.hid (hx.below BF5.out.2)
    have HA := Lib.hid (ha.below BF5.out.2)
    have dgx := dg_of s6
    clear HOK5 cs ct hx hy ha hb t6
    generalize pval s.data.toList = x at *
    obtain ⟨q0, q1, q2, q3, q4, q5, q6, q7⟩ := BF5.out.1.cells
    go_wp2_with fail
    clear q0 q1 q2 q3 q4 q5 q6 q7
    revert BF5 HX HA
    generalize ((((w5.alloc (.cells #[(.bool n0_5), (.slice a0_5 k0_5 c0_5)] 25)).alloc (.cells #[(.bool n1_5), (.slice a1_5 k1_5 c1_5)] 25)).alloc (.cells #[(.bool n2_5), (.slice a2_5 k2_5 c2_5)] 28)).alloc (.cells #[(.bool n3_5), (.slice a3_5 k3_5 c3_5)] 28)) = W5
    intro BF5 HX HA
    refine (small_any HX.out).mono ?_
    rintro e w6 ⟨he, hb6⟩
    have HE := Lib.hid he
    have HA6 := Lib.hid (HA.out.below hb6)
    have HB6 := Lib.hid (bt HB5.out (bt BF5.out.2 hb6))
    have BF6 := Lib.hid (BF5.out.1.next hb6)
    clear he hb6 HA HX
    by_cases hI : InI x
    · obtain rfl := HE.out.1 hI
      obtain ⟨q0, q1, q2, q3, q4, q5, q6, q7⟩ := BF6.out.cells
      go_wp2_with fail
      clear q0 q1 q2 q3 q4 q5 q6 q7
      refine (rsmall_any HA6.out).mono ?_
      rintro e w7 ⟨he, hb7⟩
      obtain rfl := he.1 hI
      clear he
      go_wp2
      go_ret
      exact ⟨by simp, bt HB6.out hb7⟩
    · obtain rfl := HE.out.2 hI
      obtain ⟨q0, q1, q2, q3, q4, q5, q6, q7⟩ := BF6.out.cells
      go_wp2_with fail
      clear q0 q1 q2 q3 q4 q5 q6 q7
      refine (rsmall_any HA6.out).mono ?_
      rintro e w7 ⟨he, hb7⟩
      obtain rfl := he.2 hI
      clear he
      go_wp2
      go_ret
      exact ⟨by simp, bt HB6.out hb7⟩
end Go.Proofs.YtihjaakkpnjolaaDoor
