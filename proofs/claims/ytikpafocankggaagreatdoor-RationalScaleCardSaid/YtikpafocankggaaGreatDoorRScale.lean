/- The reference's Scale. -/
import Derived.Test.YtikpafocankggaaGreatDoorRRound
namespace Go.Proofs.YtikpafocankggaaGreatDoor
open Go.RowKit Tally Go.Lib
set_option maxHeartbeats 2000000 in
set_option maxRecDepth 100000 in
theorem rratscale_any {w : World} {v : Value} {n : Int} {q : Rat} {N : Nat} (h : RRatR w v q) (hq : Rg N q) (h1 : -9223372036854775808 ≤ n) (h2 : n ≤ 9223372036854775807) (hN : N ≤ 400000000000) :
  Calls Tryz.prog 15 #[.int .i64 n, v] w (fun e w' => e = .returned (.tuple #[.int .i64 (scaleV n q), .int .i64 (scaleC n q)]) ∧ Below w.heap.size w w') := by
 obtain ⟨n1, a1, k1, c1, n2, a2, k2, c2, rfl⟩ := h.shape
 obtain ⟨x, hx⟩ : ∃ x, scaleV n q = x := ⟨_, rfl⟩
 obtain ⟨y, hy⟩ : ∃ y, scaleC n q = y := ⟨_, rfl⟩
 rw [hx, hy]
 have HX := hid hx
 have HY := hid hy
 clear hx hy
 have HQ := hid h
 clear h
 go_enter Tryz.func15, Tryz.ntmps15
 go_wp2_with fail
 obtain ⟨W1, hW, hs, hb, b0⟩ := alloc1 w (.cells #[.bool n1, .slice a1 k1 c1, .bool n2, .slice a2 k2 c2] 32)
 rw [← hW]
 have HB := hid hb
 replace HQ := hid (HQ.out.below hb)
 have BP := hid b0
 clear hW hs hb b0
 refine ramount_any.mono ?_
 rintro e wA ⟨rfl, rfl⟩
 by_cases ham : -1000000000000 ≤ n ∧ n ≤ 1000000000000
 ·obtain ⟨ha1, ha2⟩ := ham
  have hda : decide (-1000000000000 ≤ n ∧ n ≤ 1000000000000) = true := decide_eq_true ⟨ha1, ha2⟩
  rw [hda]
  have hr1 := fw_amt ha1 ha2
  have hr2 := (Rg.of hr1).mono (show 13 ≤ N + 13 by omega)
  have hr3 := hq.mono (show N ≤ N + 13 by omega)
  have hr4 := fw_scale ha1 ha2 hq
  have HY2 := hid (show scaleC n q = (if -1000000000000 ≤ roundQ ((n : Rat) * q) ∧ roundQ ((n : Rat) * q) ≤ 1000000000000 then 0 else 2) from by unfold scaleC; rw [if_pos ⟨ha1, ha2⟩])
  clear hda
  obtain ⟨p, hp⟩ : ∃ p, (n : Rat) * q = p := ⟨_, rfl⟩
  have HPQ := hid hp
  rw [hp] at hr4
  obtain ⟨k, hk⟩ : ∃ k, roundQ p = k := ⟨_, rfl⟩
  have HK := hid hk
  clear hp hk
  by_cases hI : InI k
  ·have lt1_P : w.heap.size < wA.heap.size := (Array.getElem?_eq_some_iff.1 BP.out).1
   obtain ⟨⟨cP0, cP1, cP2, cP3⟩, fP0, fP1, fP2, fP3⟩ := res4_facts BP.out
   go_wp2_with fail
   clear cP0 cP1 cP2 cP3 fP0 fP1 fP2 fP3
   obtain ⟨⟨cP0, cP1, cP2, cP3⟩, fP0, fP1, fP2, fP3⟩ := res4_facts BP.out
   have HL2 := hid (fun (w' : World) (hb : Below wA.heap.size wA w') => (⟨hb, keepc hb cP0, keepc hb cP1, keepc hb cP2, keepc hb cP3⟩ : Below wA.heap.size wA w' ∧ w'.cell? ⟨w.heap.size, 0, none⟩ = some (.bool n1) ∧ w'.cell? ⟨w.heap.size, 1, none⟩ = some (.slice a1 k1 c1) ∧ w'.cell? ⟨w.heap.size, 2, none⟩ = some (.bool n2) ∧ w'.cell? ⟨w.heap.size, 3, none⟩ = some (.slice a2 k2 c2)))
   have HI2 := hid (fun (w' : World) (hs : Below wA.heap.size wA w' ∧ w'.cell? ⟨w.heap.size, 0, none⟩ = some (.bool n1) ∧ w'.cell? ⟨w.heap.size, 1, none⟩ = some (.slice a1 k1 c1) ∧ w'.cell? ⟨w.heap.size, 2, none⟩ = some (.bool n2) ∧ w'.cell? ⟨w.heap.size, 3, none⟩ = some (.slice a2 k2 c2)) => hs.1)
   have HS2 := hid (Below.refl wA.heap.size wA)
   have HC2 := hid (Below.drew (Below.refl wA.heap.size wA))
   go_region_held3 (fun w' => Below wA.heap.size wA w' ∧ w'.cell? ⟨w.heap.size, 0, none⟩ = some (.bool n1) ∧ w'.cell? ⟨w.heap.size, 1, none⟩ = some (.slice a1 k1 c1) ∧ w'.cell? ⟨w.heap.size, 2, none⟩ = some (.bool n2) ∧ w'.cell? ⟨w.heap.size, 3, none⟩ = some (.slice a2 k2 c2))
    (first | exact HL2.out _ (Below.drew HS2.out) | exact HL2.out _ (bt (HI2.out _ (by assumption)) (by assumption)))
    (first | (go_at_call 52; (with_reducible refine (rint_any h1 h2).mono ?_); rintro e w3 ⟨n_3, a_3, k_3, c_3, n2_3, a2_3, k2_3, c2_3, rfl, hu_3, hv_3, hbr3⟩; have HA := hid hu_3; have HBd := hid hv_3; clear hu_3 hv_3; have HWN := hid (RRatR.mk HA.out HBd.out (.inl rfl))) | (go_at_call 25; (with_reducible refine (rratmul_any HWN.out (HQ.out.below (HI2.out _ (by assumption))) hr2 hr3 (by omega)).mono ?_); rintro e w4 ⟨n_4, a_4, k_4, c_4, n2_4, a2_4, k2_4, c2_4, rfl, hu_4, hv_4, hbr4⟩; have HM1 := hid hu_4; have HM2 := hid hv_4; clear hu_4 hv_4; have HMM := hid ((RRatR.mk HM1.out HM2.out (.inl rfl)).as HPQ.out)) | (go_at_call 47; (with_reducible refine (rratround_any HMM.out hr4 (by omega)).mono ?_); rintro e w5 ⟨n_5, a_5, k_5, c_5, rfl, hu_5, hbr5⟩; have HZ := hid hu_5; clear hu_5; replace HZ := hid (HZ.out.as HK.out)) | (go_at_call 51; (with_reducible refine (rsmall_any HZ.out).mono ?_); rintro e w6 ⟨⟨hin, hout⟩, hbr6⟩; obtain rfl := hin hI; clear hin hout))
   clear cP0 cP1 cP2 cP3 fP0 fP1 fP2 fP3
   have hbR := (bt (bt (bt (bt HC2.out hbr3) hbr4) hbr5) hbr6)
   replace HQ := hid (HQ.out.below hbR)
   replace HA := hid (((HA.out.below hbr4).below hbr5).below hbr6)
   replace HBd := hid (((HBd.out.below hbr4).below hbr5).below hbr6)
   replace HWN := hid (((HWN.out.below hbr4).below hbr5).below hbr6)
   replace HM1 := hid ((HM1.out.below hbr5).below hbr6)
   replace HM2 := hid ((HM2.out.below hbr5).below hbr6)
   replace HMM := hid ((HMM.out.below hbr5).below hbr6)
   replace HZ := hid (HZ.out.below hbr6)
   replace HB := hid (bt HB.out hbR)
   replace BP := hid (blk_next BP.out hbR)
   clear hbR hbr3 hbr4 hbr5 hbr6
   go_wp2_with fail
   refine ramount_any.mono ?_
   rintro e w' ⟨rfl, rfl⟩
   by_cases hak : -1000000000000 ≤ k ∧ k ≤ 1000000000000
   ·have hda : decide (-1000000000000 ≤ k ∧ k ≤ 1000000000000) = true := decide_eq_true hak
    have E2 := hid (show y = 0 from by have := HY.out; rw [← this, HY2.out, HPQ.out, HK.out, if_pos hak])
    have E1 := hid (show x = k from by have := HX.out; rw [← this]; unfold scaleV; rw [HY.out, if_pos E2.out, HPQ.out, HK.out])
    rw [hda]
    clear hda hak HX HY HY2 hI
    go_wp2
    go_ret2
    exact ⟨by have e1 := E1.out; have e2 := E2.out; subst e1 e2; rfl, HB.out⟩
   ·have hda : decide (-1000000000000 ≤ k ∧ k ≤ 1000000000000) = false := decide_eq_false hak
    have E2 := hid (show y = 2 from by have := HY.out; rw [← this, HY2.out, HPQ.out, HK.out, if_neg hak])
    have E1 := hid (show x = 0 from by have := HX.out; rw [← this]; unfold scaleV; rw [HY.out, E2.out, if_neg (by decide)])
    rw [hda]
    clear hda hak HX HY HY2 hI
    go_wp2
    go_ret2
    exact ⟨by have e1 := E1.out; have e2 := E2.out; subst e1 e2; rfl, HB.out⟩
  ·have lt1_P : w.heap.size < wA.heap.size := (Array.getElem?_eq_some_iff.1 BP.out).1
   obtain ⟨⟨cP0, cP1, cP2, cP3⟩, fP0, fP1, fP2, fP3⟩ := res4_facts BP.out
   go_wp2_with fail
   clear cP0 cP1 cP2 cP3 fP0 fP1 fP2 fP3
   obtain ⟨⟨cP0, cP1, cP2, cP3⟩, fP0, fP1, fP2, fP3⟩ := res4_facts BP.out
   have HL2 := hid (fun (w' : World) (hb : Below wA.heap.size wA w') => (⟨hb, keepc hb cP0, keepc hb cP1, keepc hb cP2, keepc hb cP3⟩ : Below wA.heap.size wA w' ∧ w'.cell? ⟨w.heap.size, 0, none⟩ = some (.bool n1) ∧ w'.cell? ⟨w.heap.size, 1, none⟩ = some (.slice a1 k1 c1) ∧ w'.cell? ⟨w.heap.size, 2, none⟩ = some (.bool n2) ∧ w'.cell? ⟨w.heap.size, 3, none⟩ = some (.slice a2 k2 c2)))
   have HI2 := hid (fun (w' : World) (hs : Below wA.heap.size wA w' ∧ w'.cell? ⟨w.heap.size, 0, none⟩ = some (.bool n1) ∧ w'.cell? ⟨w.heap.size, 1, none⟩ = some (.slice a1 k1 c1) ∧ w'.cell? ⟨w.heap.size, 2, none⟩ = some (.bool n2) ∧ w'.cell? ⟨w.heap.size, 3, none⟩ = some (.slice a2 k2 c2)) => hs.1)
   have HS2 := hid (Below.refl wA.heap.size wA)
   have HC2 := hid (Below.drew (Below.refl wA.heap.size wA))
   go_region_held3 (fun w' => Below wA.heap.size wA w' ∧ w'.cell? ⟨w.heap.size, 0, none⟩ = some (.bool n1) ∧ w'.cell? ⟨w.heap.size, 1, none⟩ = some (.slice a1 k1 c1) ∧ w'.cell? ⟨w.heap.size, 2, none⟩ = some (.bool n2) ∧ w'.cell? ⟨w.heap.size, 3, none⟩ = some (.slice a2 k2 c2))
    (first | exact HL2.out _ (Below.drew HS2.out) | exact HL2.out _ (bt (HI2.out _ (by assumption)) (by assumption)))
    (first | (go_at_call 52; (with_reducible refine (rint_any h1 h2).mono ?_); rintro e w3 ⟨n_3, a_3, k_3, c_3, n2_3, a2_3, k2_3, c2_3, rfl, hu_3, hv_3, hbr3⟩; have HA := hid hu_3; have HBd := hid hv_3; clear hu_3 hv_3; have HWN := hid (RRatR.mk HA.out HBd.out (.inl rfl))) | (go_at_call 25; (with_reducible refine (rratmul_any HWN.out (HQ.out.below (HI2.out _ (by assumption))) hr2 hr3 (by omega)).mono ?_); rintro e w4 ⟨n_4, a_4, k_4, c_4, n2_4, a2_4, k2_4, c2_4, rfl, hu_4, hv_4, hbr4⟩; have HM1 := hid hu_4; have HM2 := hid hv_4; clear hu_4 hv_4; have HMM := hid ((RRatR.mk HM1.out HM2.out (.inl rfl)).as HPQ.out)) | (go_at_call 47; (with_reducible refine (rratround_any HMM.out hr4 (by omega)).mono ?_); rintro e w5 ⟨n_5, a_5, k_5, c_5, rfl, hu_5, hbr5⟩; have HZ := hid hu_5; clear hu_5; replace HZ := hid (HZ.out.as HK.out)) | (go_at_call 51; (with_reducible refine (rsmall_any HZ.out).mono ?_); rintro e w6 ⟨⟨hin, hout⟩, hbr6⟩; obtain rfl := hout hI; clear hin hout))
   clear cP0 cP1 cP2 cP3 fP0 fP1 fP2 fP3
   have hbR := (bt (bt (bt (bt HC2.out hbr3) hbr4) hbr5) hbr6)
   replace HQ := hid (HQ.out.below hbR)
   replace HA := hid (((HA.out.below hbr4).below hbr5).below hbr6)
   replace HBd := hid (((HBd.out.below hbr4).below hbr5).below hbr6)
   replace HWN := hid (((HWN.out.below hbr4).below hbr5).below hbr6)
   replace HM1 := hid ((HM1.out.below hbr5).below hbr6)
   replace HM2 := hid ((HM2.out.below hbr5).below hbr6)
   replace HMM := hid ((HMM.out.below hbr5).below hbr6)
   replace HZ := hid (HZ.out.below hbr6)
   replace HB := hid (bt HB.out hbR)
   replace BP := hid (blk_next BP.out hbR)
   clear hbR hbr3 hbr4 hbr5 hbr6
   have hak : ¬ (-1000000000000 ≤ k ∧ k ≤ 1000000000000) := fun q => hI (by unfold InI; omega)
   have E2 := hid (show y = 2 from by have := HY.out; rw [← this, HY2.out, HPQ.out, HK.out, if_neg hak])
   have E1 := hid (show x = 0 from by have := HX.out; rw [← this]; unfold scaleV; rw [HY.out, E2.out, if_neg (by decide)])
   clear hak hI HX HY HY2
   go_wp2
   go_ret2
   exact ⟨by have e1 := E1.out; have e2 := E2.out; subst e1 e2; rfl, HB.out⟩
 ·have hda : decide (-1000000000000 ≤ n ∧ n ≤ 1000000000000) = false := decide_eq_false ham
  have E2 := hid (show y = 1 from by have := HY.out; rw [← this]; unfold scaleC; rw [if_neg ham])
  have E1 := hid (show x = 0 from by have := HX.out; rw [← this]; unfold scaleV; rw [if_neg]; rw [HY.out, E2.out]; decide)
  rw [hda]
  clear hda ham HX HY
  go_wp2
  go_ret2
  exact ⟨by have e1 := E1.out; have e2 := E2.out; subst e1 e2; rfl, HB.out⟩
end Go.Proofs.YtikpafocankggaaGreatDoor
