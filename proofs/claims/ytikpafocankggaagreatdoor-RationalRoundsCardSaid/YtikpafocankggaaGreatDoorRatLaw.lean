/- The law package's same, awake; Of at every ints. -/
import Derived.Test.YtikpafocankggaaGreatDoorScale
import Derived.Test.YtikpafocankggaaGreatDoorRRatT
namespace Go.Proofs.YtikpafocankggaaGreatDoor
open Go.RowKit Tally Go.Lib
theorem ratof_all {w : World} {n d : Int} (h1 : -9223372036854775808 ≤ n) (h2 : n ≤ 9223372036854775807) (h3 : -9223372036854775808 ≤ d) (h4 : d ≤ 9223372036854775807) :
  Calls Tryz.prog 44 #[.int .i64 n, .int .i64 d] w (GivesRE w (Rat.divInt n d) (if d = 0 then 10 else 0)) := by
 by_cases hd : d = 0
 ·subst hd
  rw [if_pos rfl, Rat.divInt_zero]
  exact ratof_zero h1 h2
 ·rw [if_neg hd]
  exact (ratof_any h1 h2 h3 h4 hd).mono fun e w' h => h.plain
theorem rtext_lit {l : List UInt8} {q : Rat} (h : qcode l = 0) (e : qval l = q) : ratText q = ⟨l.toArray⟩ := by
 rw [ratText_eq, ← e, text_qval h]
theorem rg_lit {N : Nat} {q : Rat} (h : decide (q.num.natAbs < 10 ^ N ∧ q.den < 10 ^ N) = true) : Rg N q := Rg.of (show q.num.natAbs < 10 ^ N ∧ q.den < 10 ^ N from of_decide_eq_true h)
theorem of_fw {n d : Int} (h1 : -9223372036854775808 ≤ n) (h2 : n ≤ 9223372036854775807) (h3 : -9223372036854775808 ≤ d) (h4 : d ≤ 9223372036854775807) : Rg 19 (Rat.divInt n d) := by
 have e : (10 : Nat) ^ 19 = 10000000000000000000 := by decide
 by_cases hd : d = 0
 ·subst hd
  rw [Rat.divInt_zero]
  exact Rg.of (fw_zero 18)
 ·exact Rg.of (fw_divInt hd (by omega) (by omega))
set_option maxHeartbeats 2000000 in
set_option maxRecDepth 100000 in
theorem ratsame_any {w : World} {v u : Value} {q : Rat} {N : Nat} (h : RatR w v q) (k : RRatR w u q) (ht : Tab w) (hq : Rg N q) (hN : N ≤ 1000000000000) :
  Calls Tryz.prog 21 #[v, u] w (fun e w' => e = .returned (.bool true) ∧ Below w.heap.size w w') := by
 obtain ⟨n1, a1, k1, c1, n2, a2, k2, c2, rfl⟩ := h.shape
 obtain ⟨n3, a3, k3, c3, n4, a4, k4, c4, rfl⟩ := k.shape
 have HT := hid ht
 clear ht
 obtain ⟨X, hX⟩ : ∃ X : ByteArray, ratText q = X := ⟨_, rfl⟩
 have HX := hid hX
 clear hX
 have HP := hid h
 have HQ := hid k
 clear h k
 go_enter Tryz.func21, Tryz.ntmps21
 go_wp2_with fail
 obtain ⟨W1, hW, hs, hb, b0, b1⟩ := alloc2 w (.cells #[.bool n1, .slice a1 k1 c1, .bool n2, .slice a2 k2 c2] 27) (.cells #[.bool n3, .slice a3 k3 c3, .bool n4, .slice a4 k4 c4] 32)
 rw [← hW]
 have HB := hid hb
 replace HP := hid (HP.out.below hb)
 replace HQ := hid (HQ.out.below hb)
 replace HT := hid (HT.out.below hb)
 have BP := hid b0
 have BU := hid b1
 clear hW hs hb b0 b1
 have lt1_P : w.heap.size < W1.heap.size := (Array.getElem?_eq_some_iff.1 BP.out).1
 have lt2_U : w.heap.size + 1 < W1.heap.size := (Array.getElem?_eq_some_iff.1 BU.out).1
 obtain ⟨⟨cP0, cP1, cP2, cP3⟩, fP0, fP1, fP2, fP3⟩ := res4_facts BP.out
 obtain ⟨⟨cU0, cU1, cU2, cU3⟩, fU0, fU1, fU2, fU3⟩ := res4_facts BU.out
 have HL2 := hid (fun (w' : World) (hb : Below W1.heap.size W1 w') => (⟨hb, keepc hb cP0, keepc hb cP1, keepc hb cP2, keepc hb cP3, keepc hb cU0, keepc hb cU1, keepc hb cU2, keepc hb cU3⟩ : Below W1.heap.size W1 w' ∧ w'.cell? ⟨w.heap.size, 0, none⟩ = some (.bool n1) ∧ w'.cell? ⟨w.heap.size, 1, none⟩ = some (.slice a1 k1 c1) ∧ w'.cell? ⟨w.heap.size, 2, none⟩ = some (.bool n2) ∧ w'.cell? ⟨w.heap.size, 3, none⟩ = some (.slice a2 k2 c2) ∧ w'.cell? ⟨w.heap.size + 1, 0, none⟩ = some (.bool n3) ∧ w'.cell? ⟨w.heap.size + 1, 1, none⟩ = some (.slice a3 k3 c3) ∧ w'.cell? ⟨w.heap.size + 1, 2, none⟩ = some (.bool n4) ∧ w'.cell? ⟨w.heap.size + 1, 3, none⟩ = some (.slice a4 k4 c4)))
 have HI2 := hid (fun (w' : World) (hs : Below W1.heap.size W1 w' ∧ w'.cell? ⟨w.heap.size, 0, none⟩ = some (.bool n1) ∧ w'.cell? ⟨w.heap.size, 1, none⟩ = some (.slice a1 k1 c1) ∧ w'.cell? ⟨w.heap.size, 2, none⟩ = some (.bool n2) ∧ w'.cell? ⟨w.heap.size, 3, none⟩ = some (.slice a2 k2 c2) ∧ w'.cell? ⟨w.heap.size + 1, 0, none⟩ = some (.bool n3) ∧ w'.cell? ⟨w.heap.size + 1, 1, none⟩ = some (.slice a3 k3 c3) ∧ w'.cell? ⟨w.heap.size + 1, 2, none⟩ = some (.bool n4) ∧ w'.cell? ⟨w.heap.size + 1, 3, none⟩ = some (.slice a4 k4 c4)) => hs.1)
 have HS2 := hid (Below.refl W1.heap.size W1)
 have HC2 := hid (Below.drew (Below.refl W1.heap.size W1))
 go_region_held3 (fun w' => Below W1.heap.size W1 w' ∧ w'.cell? ⟨w.heap.size, 0, none⟩ = some (.bool n1) ∧ w'.cell? ⟨w.heap.size, 1, none⟩ = some (.slice a1 k1 c1) ∧ w'.cell? ⟨w.heap.size, 2, none⟩ = some (.bool n2) ∧ w'.cell? ⟨w.heap.size, 3, none⟩ = some (.slice a2 k2 c2) ∧ w'.cell? ⟨w.heap.size + 1, 0, none⟩ = some (.bool n3) ∧ w'.cell? ⟨w.heap.size + 1, 1, none⟩ = some (.slice a3 k3 c3) ∧ w'.cell? ⟨w.heap.size + 1, 2, none⟩ = some (.bool n4) ∧ w'.cell? ⟨w.heap.size + 1, 3, none⟩ = some (.slice a4 k4 c4))
  (first | exact HL2.out _ (Below.drew HS2.out) | exact HL2.out _ (bt (HI2.out _ (by assumption)) (by assumption)))
  (first | (go_at_call 20; (with_reducible refine (rattext_any (HP.out.below (HI2.out _ (by assumption))) (HT.out.below (HI2.out _ (by assumption))) hq hN).mono ?_); rintro e w3 ⟨rfl, hbr3⟩; rw [HX.out]) | (go_at_call 61; (with_reducible refine (rrattext_any (HQ.out.below (HI2.out _ (by assumption))) hq hN).mono ?_); rintro e w4 ⟨rfl, hbr4⟩; rw [HX.out]))
 clear cP0 cP1 cP2 cP3 fP0 fP1 fP2 fP3 cU0 cU1 cU2 cU3 fU0 fU1 fU2 fU3
 have hbR := (bt (bt HC2.out hbr3) hbr4)
 replace HP := hid (HP.out.below hbR)
 replace HQ := hid (HQ.out.below hbR)
 replace HT := hid (HT.out.below hbR)
 replace HB := hid (bt HB.out hbR)
 replace BP := hid (blk_next BP.out hbR)
 replace BU := hid (blk_next BU.out hbR)
 clear hbR hbr3 hbr4
 go_wp2
 go_ret
 exact ⟨by simp, HB.out⟩
set_option maxHeartbeats 2000000 in
set_option maxRecDepth 100000 in
theorem ratawake_any {w : World} (ht : Tab w) :
  Calls Tryz.prog 12 #[] w (fun e w' => e = .returned (.bool true) ∧ Below w.heap.size w w') := by
 have HT := hid ht
 clear ht
 have r1 : Rg 3 (Rat.divInt 1 3) := rg_lit (by decide +kernel)
 have r2 : Rg 3 (Rat.divInt 1 6) := rg_lit (by decide +kernel)
 have r3 : Rg 3 (Rat.divInt 1 3 + Rat.divInt 1 3) := rg_lit (by decide +kernel)
 have r4 : Rg 3 (Rat.divInt 1 3 + Rat.divInt 1 6) := rg_lit (by decide +kernel)
 have HS := hid (show scaleV 100 (Rat.divInt 1 3 + Rat.divInt 1 3) = 67 ∧ scaleC 100 (Rat.divInt 1 3 + Rat.divInt 1 3) = 0 from by constructor <;> decide +kernel)
 have HX := hid (rtext_lit (l := [49, 47, 50]) (q := Rat.divInt 1 3 + Rat.divInt 1 6) (by decide +kernel) (by decide +kernel))
 go_enter Tryz.func12, Tryz.ntmps12
 go_wp2_with fail
 (with_reducible refine (ratof_any (n := 1) (d := 3) (by decide) (by decide) (by decide) (by decide) (by decide)).mono ?_)
 rintro e w1 ⟨n_1, a_1, k_1, c_1, n2_1, a2_1, k2_1, c2_1, rfl, hu_1, hv_1, hb⟩
 have HB := hid hb
 replace HT := hid (HT.out.below hb)
 have HA := hid hu_1
 have HA2 := hid hv_1
 clear hu_1 hv_1
 clear hb
 have HXX := hid (RatR.mk HA.out HA2.out (.inl rfl))
 clear HA HA2
 go_wp2_with fail
 obtain ⟨W2, hW, hs, hb, b0⟩ := alloc1 w1 (.cells #[.bool n_1, .slice a_1 k_1 c_1, .bool n2_1, .slice a2_1 k2_1 c2_1] 27)
 rw [← hW]
 replace HB := hid (bt HB.out hb)
 replace HT := hid (HT.out.below hb)
 replace HXX := hid (HXX.out.below hb)
 have Bx := hid b0
 clear hW hs hb b0
 (with_reducible refine (ratof_any (n := 1) (d := 6) (by decide) (by decide) (by decide) (by decide) (by decide)).mono ?_)
 rintro e w3 ⟨n_3, a_3, k_3, c_3, n2_3, a2_3, k2_3, c2_3, rfl, hu_3, hv_3, hb⟩
 replace HB := hid (bt HB.out hb)
 replace HT := hid (HT.out.below hb)
 replace HXX := hid (HXX.out.below hb)
 replace Bx := hid (blk_next Bx.out hb)
 have HA := hid hu_3
 have HA2 := hid hv_3
 clear hu_3 hv_3
 clear hb
 have HYY := hid (RatR.mk HA.out HA2.out (.inl rfl))
 clear HA HA2
 have lt1_x : w1.heap.size < w3.heap.size := (Array.getElem?_eq_some_iff.1 Bx.out).1
 obtain ⟨⟨cx0, cx1, cx2, cx3⟩, fx0, fx1, fx2, fx3⟩ := res4_facts Bx.out
 go_wp2_with fail
 clear cx0 cx1 cx2 cx3 fx0 fx1 fx2 fx3
 obtain ⟨W4, hW, hs, hb, b0⟩ := alloc1 w3 (.cells #[.bool n_3, .slice a_3 k_3 c_3, .bool n2_3, .slice a2_3 k2_3 c2_3] 27)
 rw [← hW]
 replace HB := hid (bt HB.out hb)
 replace HT := hid (HT.out.below hb)
 replace HXX := hid (HXX.out.below hb)
 replace HYY := hid (HYY.out.below hb)
 replace Bx := hid (blk_next Bx.out hb)
 have By := hid b0
 clear hW hs hb b0
 have lt2_x : w1.heap.size < W4.heap.size := (Array.getElem?_eq_some_iff.1 Bx.out).1
 have lt3_y : w3.heap.size < W4.heap.size := (Array.getElem?_eq_some_iff.1 By.out).1
 obtain ⟨⟨cx0, cx1, cx2, cx3⟩, fx0, fx1, fx2, fx3⟩ := res4_facts Bx.out
 go_wp2_with fail
 clear cx0 cx1 cx2 cx3 fx0 fx1 fx2 fx3
 (with_reducible refine (ratadd_any HXX.out HXX.out r1 r1 (by omega)).mono ?_)
 rintro e w5 ⟨n_5, a_5, k_5, c_5, n2_5, a2_5, k2_5, c2_5, rfl, hu_5, hv_5, hb⟩
 replace HB := hid (bt HB.out hb)
 replace HT := hid (HT.out.below hb)
 replace HXX := hid (HXX.out.below hb)
 replace HYY := hid (HYY.out.below hb)
 replace Bx := hid (blk_next Bx.out hb)
 replace By := hid (blk_next By.out hb)
 have HM1 := hid hu_5
 have HM2 := hid hv_5
 clear hu_5 hv_5
 clear hb
 have HMM := hid (RatR.mk HM1.out HM2.out (.inl rfl))
 clear HM1 HM2
 go_wp2_with fail
 (with_reducible refine (ratscale_any HMM.out r3 (by decide) (by decide) (by omega)).mono ?_)
 rintro e w6 ⟨rfl, hb⟩
 replace HB := hid (bt HB.out hb)
 replace HT := hid (HT.out.below hb)
 replace HXX := hid (HXX.out.below hb)
 replace HYY := hid (HYY.out.below hb)
 replace HMM := hid (HMM.out.below hb)
 replace Bx := hid (blk_next Bx.out hb)
 replace By := hid (blk_next By.out hb)
 clear hb
 rw [HS.out.1, HS.out.2]
 have lt4_x : w1.heap.size < w6.heap.size := (Array.getElem?_eq_some_iff.1 Bx.out).1
 have lt5_y : w3.heap.size < w6.heap.size := (Array.getElem?_eq_some_iff.1 By.out).1
 obtain ⟨⟨cx0, cx1, cx2, cx3⟩, fx0, fx1, fx2, fx3⟩ := res4_facts Bx.out
 obtain ⟨⟨cy0, cy1, cy2, cy3⟩, fy0, fy1, fy2, fy3⟩ := res4_facts By.out
 go_wp2_with fail
 clear cx0 cx1 cx2 cx3 fx0 fx1 fx2 fx3 cy0 cy1 cy2 cy3 fy0 fy1 fy2 fy3
 (with_reducible refine (ratadd_any HXX.out HYY.out r1 r2 (by omega)).mono ?_)
 rintro e w7 ⟨n_7, a_7, k_7, c_7, n2_7, a2_7, k2_7, c2_7, rfl, hu_7, hv_7, hb⟩
 replace HB := hid (bt HB.out hb)
 replace HT := hid (HT.out.below hb)
 replace HXX := hid (HXX.out.below hb)
 replace HYY := hid (HYY.out.below hb)
 replace HMM := hid (HMM.out.below hb)
 replace Bx := hid (blk_next Bx.out hb)
 replace By := hid (blk_next By.out hb)
 have HM1 := hid hu_7
 have HM2 := hid hv_7
 clear hu_7 hv_7
 clear hb
 have HNN := hid (RatR.mk HM1.out HM2.out (.inl rfl))
 clear HM1 HM2
 go_wp2_with fail
 (with_reducible refine (rattext_any HNN.out HT.out r4 (by omega)).mono ?_)
 rintro e w8 ⟨rfl, hb⟩
 replace HB := hid (bt HB.out hb)
 replace HT := hid (HT.out.below hb)
 replace HXX := hid (HXX.out.below hb)
 replace HYY := hid (HYY.out.below hb)
 replace HMM := hid (HMM.out.below hb)
 replace HNN := hid (HNN.out.below hb)
 replace Bx := hid (blk_next Bx.out hb)
 replace By := hid (blk_next By.out hb)
 clear hb
 rw [HX.out]
 go_wp2
 go_ret
 exact ⟨rfl, HB.out⟩
end Go.Proofs.YtikpafocankggaaGreatDoor
