/- The program's amount and Scale. -/
import Derived.Test.YtikpafocankggaaGreatDoorRound
import Derived.Test.YtikpafocankggaaGreatDoorRSmall
namespace Go.Proofs.YtikpafocankggaaGreatDoor
open Go.RowKit Tally Go.Lib
def scaleC (n : Int) (q : Rat) : Int := if -1000000000000 ≤ n ∧ n ≤ 1000000000000 then (if -1000000000000 ≤ roundQ ((n : Rat) * q) ∧ roundQ ((n : Rat) * q) ≤ 1000000000000 then 0 else 2) else 1
def scaleV (n : Int) (q : Rat) : Int := if scaleC n q = 0 then roundQ ((n : Rat) * q) else 0
theorem divInt_one (n : Int) : Rat.divInt n 1 = (n : Rat) := by
 rw [Rat.divInt_eq_div]
 show (n : Rat) / 1 = _
 grind
theorem fw_amt {n : Int} (h1 : -1000000000000 ≤ n) (h2 : n ≤ 1000000000000) : Fw 13 (n : Rat) := by
 have : (10 : Nat) ^ 13 = 10000000000000 := by decide
 refine ⟨?_, ?_⟩
 ·rw [Rat.num_intCast]; omega
 ·rw [Rat.den_intCast]; omega
theorem fw_scale {n : Int} {q : Rat} {N : Nat} (h1 : -1000000000000 ≤ n) (h2 : n ≤ 1000000000000) (hq : Rg N q) : Rg (N + 13) ((n : Rat) * q) := by
 have := fw_mul (fw_amt h1 h2) hq.fw
 rw [Nat.add_comm] at this
 exact this
theorem amount_any {w : World} {n : Int} :
  Calls Tryz.prog 49 #[.int .i64 n] w fun e w' => e = .returned (.bool (decide (-1000000000000 ≤ n ∧ n ≤ 1000000000000))) ∧ w' = w := by
 by_cases ha : -1000000000000 ≤ n
 ·by_cases hb : n ≤ 1000000000000
  ·rw [decide_eq_true ⟨ha, hb⟩]
   go_enter Tryz.func49, Tryz.ntmps49
   go_wp2
   go_ret
   exact ⟨rfl, rfl⟩
  ·rw [decide_eq_false (fun q => hb q.2)]
   go_enter Tryz.func49, Tryz.ntmps49
   go_wp2
   go_ret
   exact ⟨rfl, rfl⟩
 ·rw [decide_eq_false (fun q => ha q.1)]
  go_enter Tryz.func49, Tryz.ntmps49
  go_wp2
  go_ret
  exact ⟨rfl, rfl⟩
set_option maxHeartbeats 2000000 in
set_option maxRecDepth 100000 in
theorem ratscale_any {w : World} {v : Value} {n : Int} {q : Rat} {N : Nat} (h : RatR w v q) (hq : Rg N q) (h1 : -9223372036854775808 ≤ n) (h2 : n ≤ 9223372036854775807) (hN : N ≤ 400000000000) :
  Calls Tryz.prog 14 #[.int .i64 n, v] w (fun e w' => e = .returned (.tuple #[.int .i64 (scaleV n q), .int .i64 (scaleC n q)]) ∧ Below w.heap.size w w') := by
 obtain ⟨n1, a1, k1, c1, n2, a2, k2, c2, rfl⟩ := h.shape
 obtain ⟨x, hx⟩ : ∃ x, scaleV n q = x := ⟨_, rfl⟩
 obtain ⟨y, hy⟩ : ∃ y, scaleC n q = y := ⟨_, rfl⟩
 rw [hx, hy]
 have HX := hid hx
 have HY := hid hy
 clear hx hy
 have HQ := hid h
 clear h
 go_enter Tryz.func14, Tryz.ntmps14
 go_wp2_with fail
 obtain ⟨W1, hW, hs, hb, b0⟩ := alloc1 w (.cells #[.bool n1, .slice a1 k1 c1, .bool n2, .slice a2 k2 c2] 27)
 rw [← hW]
 have HB := hid hb
 replace HQ := hid (HQ.out.below hb)
 have BP := hid b0
 clear hW hs hb b0
 refine amount_any.mono ?_
 rintro e w' ⟨rfl, rfl⟩
 by_cases ham : -1000000000000 ≤ n ∧ n ≤ 1000000000000
 ·obtain ⟨ha1, ha2⟩ := ham
  have hda : decide (-1000000000000 ≤ n ∧ n ≤ 1000000000000) = true := decide_eq_true ⟨ha1, ha2⟩
  rw [hda]
  have hr1 := fw_amt ha1 ha2
  have hr2 := (Rg.of hr1).mono (show 13 ≤ N + 13 by omega)
  have hr3 := hq.mono (show N ≤ N + 13 by omega)
  have hr4 := fw_scale ha1 ha2 hq
  have HY2 := hid (show scaleC n q = (if -1000000000000 ≤ roundQ ((n : Rat) * q) ∧ roundQ ((n : Rat) * q) ≤ 1000000000000 then 0 else 2) from by unfold scaleC; rw [if_pos ⟨ha1, ha2⟩])
  clear hda
  obtain ⟨p, hp⟩ : ∃ p, (n : Rat) * q = p := ⟨_, rfl⟩
  have HPQ := hid hp
  rw [hp] at hr4
  obtain ⟨k, hk⟩ : ∃ k, roundQ p = k := ⟨_, rfl⟩
  have HK := hid hk
  clear hp hk
  go_wp2_with fail
  (with_reducible refine (ratof_any (d := 1) h1 h2 (by decide) (by decide) (by decide)).mono ?_)
  rintro e w2 ⟨n_2, a_2, k_2, c_2, n2_2, a2_2, k2_2, c2_2, rfl, hu_2, hv_2, hb⟩
  replace HB := hid (bt HB.out hb)
  replace HQ := hid (HQ.out.below hb)
  replace BP := hid (blk_next BP.out hb)
  have HA := hid hu_2
  have HBd := hid hv_2
  clear hu_2 hv_2
  clear hb
  have HWN := hid (RatR.mk HA.out HBd.out (.inl rfl))
  replace HWN := hid (HWN.out.as (divInt_one n))
  clear HA HBd
  have lt1_P : w.heap.size < w2.heap.size := (Array.getElem?_eq_some_iff.1 BP.out).1
  obtain ⟨⟨cP0, cP1, cP2, cP3⟩, fP0, fP1, fP2, fP3⟩ := res4_facts BP.out
  go_wp2_with fail
  clear cP0 cP1 cP2 cP3 fP0 fP1 fP2 fP3
  obtain ⟨W3, hW, hs, hb, b0⟩ := alloc1 w2 (.cells #[.bool n_2, .slice a_2 k_2 c_2, .bool n2_2, .slice a2_2 k2_2 c2_2] 27)
  rw [← hW]
  replace HB := hid (bt HB.out hb)
  replace HQ := hid (HQ.out.below hb)
  replace HWN := hid (HWN.out.below hb)
  replace BP := hid (blk_next BP.out hb)
  have BW := hid b0
  clear hW hs hb b0
  have lt2_P : w.heap.size < W3.heap.size := (Array.getElem?_eq_some_iff.1 BP.out).1
  have lt3_W : w2.heap.size < W3.heap.size := (Array.getElem?_eq_some_iff.1 BW.out).1
  obtain ⟨⟨cP0, cP1, cP2, cP3⟩, fP0, fP1, fP2, fP3⟩ := res4_facts BP.out
  obtain ⟨⟨cW0, cW1, cW2, cW3⟩, fW0, fW1, fW2, fW3⟩ := res4_facts BW.out
  go_wp2_with fail
  clear cP0 cP1 cP2 cP3 fP0 fP1 fP2 fP3 cW0 cW1 cW2 cW3 fW0 fW1 fW2 fW3
  (with_reducible refine (ratmul_any HWN.out HQ.out hr2 hr3 (by omega)).mono ?_)
  rintro e w4 ⟨n_4, a_4, k_4, c_4, n2_4, a2_4, k2_4, c2_4, rfl, hu_4, hv_4, hb⟩
  replace HB := hid (bt HB.out hb)
  replace HQ := hid (HQ.out.below hb)
  replace HWN := hid (HWN.out.below hb)
  replace BP := hid (blk_next BP.out hb)
  replace BW := hid (blk_next BW.out hb)
  have HM1 := hid hu_4
  have HM2 := hid hv_4
  clear hu_4 hv_4
  clear hb
  have HMM := hid ((RatR.mk HM1.out HM2.out (.inl rfl)).as HPQ.out)
  clear HM1 HM2
  go_wp2_with fail
  (with_reducible refine (ratround_any HMM.out hr4 (by omega)).mono ?_)
  rintro e w5 ⟨n_5, a_5, k_5, c_5, rfl, hu_5, hb⟩
  replace HB := hid (bt HB.out hb)
  replace HQ := hid (HQ.out.below hb)
  replace HWN := hid (HWN.out.below hb)
  replace HMM := hid (HMM.out.below hb)
  replace BP := hid (blk_next BP.out hb)
  replace BW := hid (blk_next BW.out hb)
  have HZ := hid hu_5
  clear hu_5
  clear hb
  replace HZ := hid (HZ.out.as HK.out)
  go_wp2_with fail
  (with_reducible refine (small_any HZ.out).mono ?_)
  rintro e w6 ⟨⟨hin, hout⟩, hb⟩
  replace HB := hid (bt HB.out hb)
  replace HQ := hid (HQ.out.below hb)
  replace HWN := hid (HWN.out.below hb)
  replace HMM := hid (HMM.out.below hb)
  replace HZ := hid (HZ.out.below hb)
  replace BP := hid (blk_next BP.out hb)
  replace BW := hid (blk_next BW.out hb)
  clear hb
  by_cases hI : InI k
  ·obtain rfl := hin hI
   clear hin hout
   go_wp2_with fail
   refine amount_any.mono ?_
   rintro e w' ⟨rfl, rfl⟩
   by_cases hak : -1000000000000 ≤ k ∧ k ≤ 1000000000000
   ·have hda : decide (-1000000000000 ≤ k ∧ k ≤ 1000000000000) = true := decide_eq_true hak
    have E2 := hid (show y = 0 from by have := HY.out; rw [← this, HY2.out, HPQ.out, HK.out, if_pos hak])
    have E1 := hid (show x = k from by have := HX.out; rw [← this]; unfold scaleV; rw [HY.out, if_pos E2.out, HPQ.out, HK.out])
    rw [hda]
    clear hda hak HX HY HY2 hI
    go_wp2
    go_ret2
    exact ⟨by have e1 := E1.out; have e2 := E2.out; subst e1 e2; rfl, HB.out⟩
   ·have hda : decide (-1000000000000 ≤ k ∧ k ≤ 1000000000000) = false := decide_eq_false hak
    have E2 := hid (show y = 2 from by have := HY.out; rw [← this, HY2.out, HPQ.out, HK.out, if_neg hak])
    have E1 := hid (show x = 0 from by have := HX.out; rw [← this]; unfold scaleV; rw [HY.out, E2.out, if_neg (by decide)])
    rw [hda]
    clear hda hak HX HY HY2 hI
    go_wp2
    go_ret2
    exact ⟨by have e1 := E1.out; have e2 := E2.out; subst e1 e2; rfl, HB.out⟩
  ·obtain rfl := hout hI
   clear hin hout
   have hak : ¬ (-1000000000000 ≤ k ∧ k ≤ 1000000000000) := fun q => hI (by unfold InI; omega)
   have E2 := hid (show y = 2 from by have := HY.out; rw [← this, HY2.out, HPQ.out, HK.out, if_neg hak])
   have E1 := hid (show x = 0 from by have := HX.out; rw [← this]; unfold scaleV; rw [HY.out, E2.out, if_neg (by decide)])
   clear hak hI HX HY HY2
   go_wp2
   go_ret2
   exact ⟨by have e1 := E1.out; have e2 := E2.out; subst e1 e2; rfl, HB.out⟩
 ·have hda : decide (-1000000000000 ≤ n ∧ n ≤ 1000000000000) = false := decide_eq_false ham
  have E2 := hid (show y = 1 from by have := HY.out; rw [← this]; unfold scaleC; rw [if_neg ham])
  have E1 := hid (show x = 0 from by have := HX.out; rw [← this]; unfold scaleV; rw [if_neg]; rw [HY.out, E2.out]; decide)
  rw [hda]
  clear hda ham HX HY
  go_wp2
  go_ret2
  exact ⟨by have e1 := E1.out; have e2 := E2.out; subst e1 e2; rfl, HB.out⟩
end Go.Proofs.YtikpafocankggaaGreatDoor
