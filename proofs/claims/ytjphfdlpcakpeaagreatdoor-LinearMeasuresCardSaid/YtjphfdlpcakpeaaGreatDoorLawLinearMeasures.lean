/- LinearMeasures, walked. -/
import Derived.Test.YtjphfdlpcakpeaaGreatDoorRRank
namespace Go.Proofs.YtjphfdlpcakpeaaGreatDoor
open Go.RowKit Tally

set_option maxHeartbeats 8000000 in
set_option maxRecDepth 100000 in
theorem lawMeasures_any {w : World} {v : Value} {m d : Nat} {L : Nat → Nat} {Z : Nat → Nat → Int} (h : MatI w v m L Z) (hz : ∀ i, i < m → Small (L i) (Z i)) (hd : d ≤ 255) (ht : Tab w) :
    Calls Tryz.prog 4 #[.agg #[v, .int .u8 d]] w fun e w' => e = .returned (.bool true) ∧ Below w.heap.size w w' := by
  have HM := Lib.hid h
  have HZ := Lib.hid hz
  have HT := Lib.hid ht
  obtain ⟨a, b, o, c, rfl, -⟩ := h
  clear hz ht
  go_enter Tryz.func4, Tryz.ntmps4
  go_wp2_with fail
  obtain ⟨W1, hW, hs, hb, hc⟩ := alloc1 w (.cells #[.slice a m c, .int .u8 d] 24)
  rw [← hW]
  have HB := Lib.hid hb
  have HC := Lib.hid hc
  clear hW hs hb hc
  refine (awake22_any (HT.out.below HB.out)).mono ?_
  rintro e w1 ⟨rfl, hb⟩
  replace HC := Lib.hid (blk_next HC.out hb)
  replace HB := Lib.hid (bt HB.out hb)
  clear hb
  obtain ⟨e0, e1, e2, e3⟩ := res_facts HC.out
  have HH := Lib.hid (show HeadsR w1 (.slice none 0 0) 0 (fun _ => 0) from ⟨none, 0, 0, 0, rfl, Nat.le_refl _, Nat.zero_le _, fun q => absurd q (by decide), fun i hi => absurd hi (Nat.not_lt_zero _)⟩)
  go_wp2_with fail
  clear e0 e1 e2 e3
  by_cases hf : (∀ i, i < m → L i ≤ 26) ∧ (∀ i, i < 0 → 0 ≤ 26) ∧ m ≤ 26
  case neg =>
    have HF := Lib.hid hf
    clear hf
    refine (few_any (t := 26) (HM.out.heads.below HB.out) HH.out (by decide) false (iff_of_false (by decide) HF.out)).mono ?_
    rintro e w2 ⟨rfl, hb⟩
    replace HB := Lib.hid (bt HB.out hb)
    clear hb HH HC
    go_wp2
    go_ret
    exact ⟨rfl, HB.out⟩
  have HF := Lib.hid hf
  have hm26 := hf.2.2
  clear hf
  refine (few_any (t := 26) (HM.out.heads.below HB.out) HH.out (by decide) true (iff_of_true rfl HF.out)).mono ?_
  rintro e w2 ⟨rfl, hb⟩
  replace HB := Lib.hid (bt HB.out hb)
  replace HC := Lib.hid (blk_next HC.out hb)
  clear hb HH
  obtain ⟨e0, e1, e2, e3⟩ := res_facts HC.out
  go_wp2_with fail
  refine (rows_any (HM.out.below HB.out) HZ.out (fun i hi => by have := HF.out.1 i hi; omega) (by omega) hd).mono ?_
  rintro e w3 ⟨a3, b3, c3, d3, rfl, hm3, hr3, hb⟩
  have HA := Lib.hid hm3
  have HRA := Lib.hid hr3
  replace HB := Lib.hid (bt HB.out hb)
  clear hm3 hr3 hb HM HC e0 e1 e2 e3
  obtain ⟨D, hD⟩ : ∃ D, detV m L (ratM d Z) = D := ⟨_, rfl⟩
  obtain ⟨cd, hcd⟩ : ∃ cd, detC m L = cd := ⟨_, rfl⟩
  obtain ⟨rk, hrk⟩ : ∃ rk, rankV m L (ratM d Z) = rk := ⟨_, rfl⟩
  obtain ⟨ce, hce⟩ : ∃ ce, rankC m L = ce := ⟨_, rfl⟩
  have HD := Lib.hid hD
  have HCD := Lib.hid hcd
  have HRK := Lib.hid hrk
  have HCE := Lib.hid hce
  have HRD := Lib.hid (show ∀ k, k < 1 → Rg 14000000000 D from fun _ _ => by rw [← hD]; exact detV_small HZ.out hd)
  have q1 : (cd == cd) = true := beq_self_eq_true _
  have q2 : (ce == ce) = true := beq_self_eq_true _
  have q3 : ((rk : Int) == (rk : Int)) = true := beq_self_eq_true _
  clear hD hcd hrk hce
  go_wp2_with fail
  refine (det_two HA.out HZ.out hd).mono ?_
  rw [HD.out, HCD.out]
  rintro e w4 ⟨n1, f1, k1, l1, n2, f2, k2, l2, rfl, hu, hb⟩
  have HU := Lib.hid hu
  replace HA := Lib.hid (HA.out.below hb)
  replace HRA := Lib.hid (HRA.out.below hb)
  replace HB := Lib.hid (bt HB.out hb)
  clear hu hb
  go_wp2_with fail
  obtain ⟨w5, hW, hs, hb, hc⟩ := alloc1 w4 (.cells #[.bool n1, .slice f1 k1 l1, .bool n2, .slice f2 k2 l2] 47)
  rw [← hW]
  have HC1 := Lib.hid hc
  replace HU := Lib.hid (HU.out.below hb)
  replace HA := Lib.hid (HA.out.below hb)
  replace HRA := Lib.hid (HRA.out.below hb)
  replace HB := Lib.hid (bt HB.out hb)
  clear hW hs hb hc
  refine (rdet_two HRA.out HZ.out hd).mono ?_
  rw [HD.out, HCD.out]
  rintro e w6 ⟨m1, g1, i1, j1, m2, g2, i2, j2, rfl, hu, hb⟩
  have HV := Lib.hid hu
  replace HC1 := Lib.hid (blk_next HC1.out hb)
  replace HU := Lib.hid (HU.out.below hb)
  replace HA := Lib.hid (HA.out.below hb)
  replace HRA := Lib.hid (HRA.out.below hb)
  replace HB := Lib.hid (bt HB.out hb)
  clear hu hb
  go_wp2_with fail
  obtain ⟨w7, hW, hs, hb, hc⟩ := alloc1 w6 (.cells #[.bool m1, .slice g1 i1 j1, .bool m2, .slice g2 i2 j2] 54)
  rw [← hW]
  have HC2 := Lib.hid hc
  replace HC1 := Lib.hid (blk_next HC1.out hb)
  replace HV := Lib.hid (HV.out.below hb)
  replace HU := Lib.hid (HU.out.below hb)
  replace HA := Lib.hid (HA.out.below hb)
  replace HRA := Lib.hid (HRA.out.below hb)
  replace HB := Lib.hid (bt HB.out hb)
  clear hW hs hb hc
  refine (rank_two HA.out HZ.out hd).mono ?_
  rw [HRK.out, HCE.out]
  rintro e w8 ⟨rfl, hb⟩
  replace HC2 := Lib.hid (blk_next HC2.out hb)
  replace HC1 := Lib.hid (blk_next HC1.out hb)
  replace HV := Lib.hid (HV.out.below hb)
  replace HU := Lib.hid (HU.out.below hb)
  replace HRA := Lib.hid (HRA.out.below hb)
  replace HB := Lib.hid (bt HB.out hb)
  clear hb HA
  go_wp2_with fail
  refine (rrank_two HRA.out HZ.out hd).mono ?_
  rw [HRK.out, HCE.out]
  rintro e w9 ⟨rfl, hb⟩
  replace HC2 := Lib.hid (blk_next HC2.out hb)
  replace HC1 := Lib.hid (blk_next HC1.out hb)
  replace HV := Lib.hid (HV.out.below hb)
  replace HU := Lib.hid (HU.out.below hb)
  replace HB := Lib.hid (bt HB.out hb)
  clear hb HRA
  obtain ⟨⟨x0, x1, x2, x3⟩, _, _, _, _⟩ := res4_facts HC1.out
  obtain ⟨⟨y0, y1, y2, y3⟩, _, _, _, _⟩ := res4_facts HC2.out
  have hl1 := (Array.getElem?_eq_some_iff.1 HC1.out).1
  have hl2 := (Array.getElem?_eq_some_iff.1 HC2.out).1
  go_wp2_with fail
  obtain ⟨w10, hW, hs, hb, hc, hc2⟩ := alloc2 w9 (.cells #[.bool n1, .slice f1 k1 l1, .bool n2, .slice f2 k2 l2] 47) (.cells #[.bool m1, .slice g1 i1 j1, .bool m2, .slice g2 i2 j2] 54)
  rw [← hW]
  have HS1 := Lib.hid (rats_single hc (HU.out.below hb))
  have HS2 := Lib.hid (rrats_single hc2 (HV.out.below hb))
  replace HB := Lib.hid (bt HB.out hb)
  clear hW hs hb hc hc2 x0 x1 x2 x3 y0 y1 y2 y3
  refine (lsame_yes HS1.out HS2.out HRD.out (by decide) (HT.out.below HB.out)).mono ?_
  rintro e w11 ⟨rfl, hb⟩
  replace HB := Lib.hid (bt HB.out hb)
  clear hb HS1 HS2
  go_wp2
  go_ret
  exact ⟨rfl, HB.out⟩
end Go.Proofs.YtjphfdlpcakpeaaGreatDoor
