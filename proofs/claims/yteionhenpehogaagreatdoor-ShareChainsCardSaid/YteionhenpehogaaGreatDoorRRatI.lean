import Derived.Test.YteionhenpehogaaGreatDoorRRat
import Derived.Test.YteionhenpehogaaGreatDoorRatD
import Derived.Test.YteionhenpehogaaGreatDoorAllocRat
import Derived.Deep.DeepCutAuto
import Derived.Deep.RegionWith
namespace Go.Proofs.YteionhenpehogaaGreatDoor
open Go.RowKit Tally Go.Lib
set_option maxHeartbeats 2000000 in
set_option maxRecDepth 100000 in
theorem rreduced_any {w : World} {v u : Value} {x y : Int} {N : Nat} (h : RefR w v x) (k : RefR w u y) (hy : y ≠ 0) (hx : Dg N x) (hd : Dg N y) (hN : N ≤ 999999999990) :
  Calls Tryz.prog 102 #[v, u] w (rGivesP w (Rat.divInt x y)) := by
 obtain ⟨n1, a1, k1, c1, rfl⟩ := h.shape
 obtain ⟨n2, a2, k2, c2, rfl⟩ := k.shape
 have HX := hid h
 have HY := hid k
 have HY0 := hid hy
 clear h k hy
 go_enter Tryz.func102, Tryz.ntmps102
 go_wp2_with fail
 obtain ⟨W1, hW, hs, hb, b0, b1, b2⟩ := alloc3 w (.cells #[.bool n1, .slice a1 k1 c1] 84) (.cells #[.bool n2, .slice a2 k2 c2] 84) (.cells #[.bool false, .slice none 0 0, .bool false, .slice none 0 0] 86)
 rw [← hW]
 have HB := hid hb
 replace HX := hid (HX.out.below hb)
 replace HY := hid (HY.out.below hb)
 have BP := hid b0
 have BU := hid b1
 have BR := hid b2
 clear hW hs hb b0 b1 b2
 have lt1_P : w.heap.size < W1.heap.size := (Array.getElem?_eq_some_iff.1 BP.out).1
 have lt2_U : w.heap.size + 1 < W1.heap.size := (Array.getElem?_eq_some_iff.1 BU.out).1
 have lt3_R : w.heap.size + 1 + 1 < W1.heap.size := (Array.getElem?_eq_some_iff.1 BR.out).1
 obtain ⟨cP0, cP1, fP0, fP1⟩ := res_facts BP.out
 obtain ⟨cU0, cU1, fU0, fU1⟩ := res_facts BU.out
 go_wp2_with fail
 clear cP0 cP1 fP0 fP1 cU0 cU1 fU0 fU1
 (with_reducible refine (rnew_any HX.out HY.out HY0.out hx hd hN).mono ?_)
 rintro e w2 ⟨n_2, a_2, k_2, c_2, n2_2, a2_2, k2_2, c2_2, rfl, hu_2, hv_2, hb⟩
 replace HB := hid (bt HB.out hb)
 replace HX := hid (HX.out.below hb)
 replace HY := hid (HY.out.below hb)
 replace BP := hid (blk_next BP.out hb)
 replace BU := hid (blk_next BU.out hb)
 replace BR := hid (blk_next BR.out hb)
 have HA := hid hu_2
 have HBd := hid hv_2
 clear hu_2 hv_2
 clear hb
 have lt4_P : w.heap.size < w2.heap.size := (Array.getElem?_eq_some_iff.1 BP.out).1
 have lt5_U : w.heap.size + 1 < w2.heap.size := (Array.getElem?_eq_some_iff.1 BU.out).1
 have lt6_R : w.heap.size + 1 + 1 < w2.heap.size := (Array.getElem?_eq_some_iff.1 BR.out).1
 obtain ⟨⟨cR0, cR1, cR2, cR3⟩, fR0, fR1, fR2, fR3⟩ := res4_facts BR.out
 go_wp2
 try simp only [Exit.inBlock, Exit.then]
 refine bodyPost_ret (results_cell_row rfl _ _ (w.heap.size + 1 + 1) 86 _ (0, 0) _ rfl (blk_next (res4_set BR.out) (allocs_below1 _ _)) Tryz.underlying86 rfl (by kernel_rfl)) rfl ?_
 exact ⟨_, _, _, _, _, _, _, _, rfl, ((HA.out.stay set4_stay (noInt_one (noInt4 BR.out))).below (allocs_below1 _ _)), ((HBd.out.stay set4_stay (noInt_one (noInt4 BR.out))).below (allocs_below1 _ _)), (bt (fin4 HB.out (by omega)) (allocs_below1 _ _))⟩
set_option maxHeartbeats 2000000 in
set_option maxRecDepth 100000 in
theorem rratneg_any {w : World} {v : Value} {q : Rat} (h : RRatR w v q) :
  Calls Tryz.prog 101 #[v] w (rGivesR w (-q)) := by
 obtain ⟨n1, a1, k1, c1, n2, a2, k2, c2, rfl⟩ := h.shape
 obtain ⟨d, hx, hd, hc⟩ := h.two
 have HX := hid hx
 have HD := hid hd
 have HC := hid (show d = (-q).den ∨ d = 0 ∧ -q = 0 from by
   rcases hc with e | ⟨e1, e2⟩
   ·exact .inl e
   ·exact .inr ⟨e1, by rw [e2]; rfl⟩)
 clear h hx hd hc
 go_enter Tryz.func101, Tryz.ntmps101
 go_wp2_with fail
 obtain ⟨W1, hW, hs, hb, b0, b1⟩ := alloc2 w (.cells #[.bool n1, .slice a1 k1 c1, .bool n2, .slice a2 k2 c2] 86) (.cells #[.bool false, .slice none 0 0, .bool false, .slice none 0 0] 86)
 rw [← hW]
 have HB := hid hb
 replace HX := hid (HX.out.below hb)
 replace HD := hid (HD.out.below hb)
 have BP := hid b0
 have BR := hid b1
 clear hW hs hb b0 b1
 have lt1_P : w.heap.size < W1.heap.size := (Array.getElem?_eq_some_iff.1 BP.out).1
 have lt2_R : w.heap.size + 1 < W1.heap.size := (Array.getElem?_eq_some_iff.1 BR.out).1
 obtain ⟨⟨cP0, cP1, cP2, cP3⟩, fP0, fP1, fP2, fP3⟩ := res4_facts BP.out
 have HL2 := hid (fun (w' : World) (hb : Stay (w.heap.size + 1) (w.heap.size + 1 + 1) W1 w') => (⟨hb, hb.cell (by omega) cP0, hb.cell (by omega) cP1, hb.cell (by omega) cP2, hb.cell (by omega) cP3⟩ : Stay (w.heap.size + 1) (w.heap.size + 1 + 1) W1 w' ∧ w'.cell? ⟨w.heap.size, 0, none⟩ = some (.bool n1) ∧ w'.cell? ⟨w.heap.size, 1, none⟩ = some (.slice a1 k1 c1) ∧ w'.cell? ⟨w.heap.size, 2, none⟩ = some (.bool n2) ∧ w'.cell? ⟨w.heap.size, 3, none⟩ = some (.slice a2 k2 c2)))
 have HI2 := hid (fun (w' : World) (hs : Stay (w.heap.size + 1) (w.heap.size + 1 + 1) W1 w' ∧ w'.cell? ⟨w.heap.size, 0, none⟩ = some (.bool n1) ∧ w'.cell? ⟨w.heap.size, 1, none⟩ = some (.slice a1 k1 c1) ∧ w'.cell? ⟨w.heap.size, 2, none⟩ = some (.bool n2) ∧ w'.cell? ⟨w.heap.size, 3, none⟩ = some (.slice a2 k2 c2)) => hs.1)
 have HN2 := hid (noInt_one (noInt4 BR.out))
 have HS2 := hid (Stay.refl (w.heap.size + 1) (w.heap.size + 1 + 1) W1)
 have HC2 := hid (Below.drew (Below.refl W1.heap.size W1))
 go_region_held3 (fun w' => Stay (w.heap.size + 1) (w.heap.size + 1 + 1) W1 w' ∧ w'.cell? ⟨w.heap.size, 0, none⟩ = some (.bool n1) ∧ w'.cell? ⟨w.heap.size, 1, none⟩ = some (.slice a1 k1 c1) ∧ w'.cell? ⟨w.heap.size, 2, none⟩ = some (.bool n2) ∧ w'.cell? ⟨w.heap.size, 3, none⟩ = some (.slice a2 k2 c2))
  (first | exact HL2.out _ (Stay.drew HS2.out) | exact HL2.out _ (Stay.next (HI2.out _ (by assumption)) (by assumption)) | exact HL2.out _ (stay_set4 (HI2.out _ (by assumption)) (by omega) (by omega)))
  (first | (go_at_call 141; (with_reducible refine (rneg_any (HX.out.stay (HI2.out _ (by assumption)) HN2.out)).mono ?_); rintro e w3 ⟨n_3, a_3, k_3, c_3, rfl, hu_3, hbr3⟩; have HNX := hid hu_3; clear hu_3; have HRX3 := hid (blk_next (w := W1.drew) BR.out hbr3); obtain ⟨⟨d0, d1, d2, d3⟩, e0, e1, e2, e3⟩ := res4_facts HRX3.out))
 go_wp2
 try simp only [Exit.inBlock, Exit.then]
 refine bodyPost_ret (results_cell_row rfl _ _ (w.heap.size + 1) 86 _ (0, 0) _ rfl (res4_set HRX3.out) Tryz.underlying86 rfl (by kernel_rfl)) rfl ?_
 exact ⟨_, _, _, _, _, _, _, _, rfl, RRatR.mk ((HNX.out.stay set4_stay (noInt_one (noInt4 HRX3.out))).as (Rat.neg_num q).symm) ((HD.out.below (bt HC2.out hbr3)).stay set4_stay (noInt_one (noInt4 HRX3.out))) HC.out, (fin4 (bt HB.out (bt HC2.out hbr3)) (by omega))⟩
set_option maxHeartbeats 2000000 in
set_option maxRecDepth 100000 in
theorem rratadd_any {w : World} {v u : Value} {p q : Rat} {N : Nat} (h : RRatR w v p) (k : RRatR w u q) (hp : Rg N p) (hq : Rg N q) (hN : 2 * N + 2 ≤ 999999999990) :
  Calls Tryz.prog 93 #[v, u] w (rGivesP w (p + q)) := by
 obtain ⟨n1, a1, k1, c1, n2, a2, k2, c2, rfl⟩ := h.shape
 obtain ⟨n3, a3, k3, c3, n4, a4, k4, c4, rfl⟩ := k.shape
 have hp1 := hp.1
 have hp2 := hp.2
 have hq1 := hq.1
 have hq2 := hq.2
 have d1 : Dg (N + N) (p.num * q.den) := Dg.mul hp.1 hq.2
 have d2 : Dg (N + N) (q.num * p.den) := Dg.mul hq.1 hp.2
 have d3 : Dg (N + N) ((p.den : Int) * q.den) := Dg.mul hp.2 hq.2
 have d6 := d1.add d2
 have d7 : Dg (N + N + 1) ((p.den : Int) * q.den) := d3.mono (by omega)
 have d4 : Dg (N + N) (p.num * q.num) := Dg.mul hp.1 hq.1
 have d5 : Dg (N + N) ((p.den : Int) * q.num) := Dg.mul hp.2 hq.1
 have HZ := hid (show (p.den : Int) * q.den ≠ 0 from Int.mul_ne_zero (by have := p.den_nz; omega) (by have := q.den_nz; omega))
 have HP := hid h
 have HQ := hid k
 clear h k
 go_enter Tryz.func93, Tryz.ntmps93
 go_wp2_with fail
 obtain ⟨W1, hW, hs, hb, b0, b1, b2⟩ := alloc3 w (.cells #[.bool n1, .slice a1 k1 c1, .bool n2, .slice a2 k2 c2] 86) (.cells #[.bool n3, .slice a3 k3 c3, .bool n4, .slice a4 k4 c4] 86) (.cells #[.bool false, .slice none 0 0, .bool false, .slice none 0 0] 86)
 rw [← hW]
 have HB := hid hb
 replace HP := hid (HP.out.below hb)
 replace HQ := hid (HQ.out.below hb)
 have BP := hid b0
 have BU := hid b1
 have BR := hid b2
 clear hW hs hb b0 b1 b2
 (with_reducible refine (rparts_any HP.out).mono ?_)
 rintro e w2 ⟨n_2, a_2, k_2, c_2, n2_2, a2_2, k2_2, c2_2, rfl, hu_2, hv_2, hb⟩
 replace HB := hid (bt HB.out hb)
 replace HP := hid (HP.out.below hb)
 replace HQ := hid (HQ.out.below hb)
 replace BP := hid (blk_next BP.out hb)
 replace BU := hid (blk_next BU.out hb)
 replace BR := hid (blk_next BR.out hb)
 have HA := hid hu_2
 have HBd := hid hv_2
 clear hu_2 hv_2
 clear hb
 have lt1_P : w.heap.size < w2.heap.size := (Array.getElem?_eq_some_iff.1 BP.out).1
 have lt2_U : w.heap.size + 1 < w2.heap.size := (Array.getElem?_eq_some_iff.1 BU.out).1
 have lt3_R : w.heap.size + 1 + 1 < w2.heap.size := (Array.getElem?_eq_some_iff.1 BR.out).1
 obtain ⟨⟨cU0, cU1, cU2, cU3⟩, fU0, fU1, fU2, fU3⟩ := res4_facts BU.out
 go_wp2_with fail
 clear cU0 cU1 cU2 cU3 fU0 fU1 fU2 fU3
 obtain ⟨W3, hW, hs, hb, b0, b1⟩ := alloc2 w2 (.cells #[.bool n_2, .slice a_2 k_2 c_2] 84) (.cells #[.bool n2_2, .slice a2_2 k2_2 c2_2] 84)
 rw [← hW]
 replace HB := hid (bt HB.out hb)
 replace HP := hid (HP.out.below hb)
 replace HQ := hid (HQ.out.below hb)
 replace HA := hid (HA.out.below hb)
 replace HBd := hid (HBd.out.below hb)
 replace BP := hid (blk_next BP.out hb)
 replace BU := hid (blk_next BU.out hb)
 replace BR := hid (blk_next BR.out hb)
 have Ba := hid b0
 have Bb := hid b1
 clear hW hs hb b0 b1
 (with_reducible refine (rparts_any HQ.out).mono ?_)
 rintro e w4 ⟨n_4, a_4, k_4, c_4, n2_4, a2_4, k2_4, c2_4, rfl, hu_4, hv_4, hb⟩
 replace HB := hid (bt HB.out hb)
 replace HP := hid (HP.out.below hb)
 replace HQ := hid (HQ.out.below hb)
 replace HA := hid (HA.out.below hb)
 replace HBd := hid (HBd.out.below hb)
 replace BP := hid (blk_next BP.out hb)
 replace BU := hid (blk_next BU.out hb)
 replace BR := hid (blk_next BR.out hb)
 replace Ba := hid (blk_next Ba.out hb)
 replace Bb := hid (blk_next Bb.out hb)
 have HC := hid hu_4
 have HD := hid hv_4
 clear hu_4 hv_4
 clear hb
 have lt4_P : w.heap.size < w4.heap.size := (Array.getElem?_eq_some_iff.1 BP.out).1
 have lt5_U : w.heap.size + 1 < w4.heap.size := (Array.getElem?_eq_some_iff.1 BU.out).1
 have lt6_R : w.heap.size + 1 + 1 < w4.heap.size := (Array.getElem?_eq_some_iff.1 BR.out).1
 have lt7_a : w2.heap.size < w4.heap.size := (Array.getElem?_eq_some_iff.1 Ba.out).1
 have lt8_b : w2.heap.size + 1 < w4.heap.size := (Array.getElem?_eq_some_iff.1 Bb.out).1
 obtain ⟨ca0, ca1, fa0, fa1⟩ := res_facts Ba.out
 obtain ⟨cb0, cb1, fb0, fb1⟩ := res_facts Bb.out
 obtain ⟨⟨cU0, cU1, cU2, cU3⟩, fU0, fU1, fU2, fU3⟩ := res4_facts BU.out
 go_wp2_with fail
 clear ca0 ca1 fa0 fa1 cb0 cb1 fb0 fb1 cU0 cU1 cU2 cU3 fU0 fU1 fU2 fU3
 obtain ⟨W5, hW, hs, hb, b0, b1⟩ := alloc2 w4 (.cells #[.bool n_4, .slice a_4 k_4 c_4] 84) (.cells #[.bool n2_4, .slice a2_4 k2_4 c2_4] 84)
 rw [← hW]
 replace HB := hid (bt HB.out hb)
 replace HP := hid (HP.out.below hb)
 replace HQ := hid (HQ.out.below hb)
 replace HA := hid (HA.out.below hb)
 replace HBd := hid (HBd.out.below hb)
 replace HC := hid (HC.out.below hb)
 replace HD := hid (HD.out.below hb)
 replace BP := hid (blk_next BP.out hb)
 replace BU := hid (blk_next BU.out hb)
 replace BR := hid (blk_next BR.out hb)
 replace Ba := hid (blk_next Ba.out hb)
 replace Bb := hid (blk_next Bb.out hb)
 have Bc := hid b0
 have Bd := hid b1
 clear hW hs hb b0 b1
 have lt9_P : w.heap.size < W5.heap.size := (Array.getElem?_eq_some_iff.1 BP.out).1
 have lt10_U : w.heap.size + 1 < W5.heap.size := (Array.getElem?_eq_some_iff.1 BU.out).1
 have lt11_R : w.heap.size + 1 + 1 < W5.heap.size := (Array.getElem?_eq_some_iff.1 BR.out).1
 have lt12_a : w2.heap.size < W5.heap.size := (Array.getElem?_eq_some_iff.1 Ba.out).1
 have lt13_b : w2.heap.size + 1 < W5.heap.size := (Array.getElem?_eq_some_iff.1 Bb.out).1
 have lt14_c : w4.heap.size < W5.heap.size := (Array.getElem?_eq_some_iff.1 Bc.out).1
 have lt15_d : w4.heap.size + 1 < W5.heap.size := (Array.getElem?_eq_some_iff.1 Bd.out).1
 obtain ⟨ca0, ca1, fa0, fa1⟩ := res_facts Ba.out
 obtain ⟨cd0, cd1, fd0, fd1⟩ := res_facts Bd.out
 obtain ⟨cc0, cc1, fc0, fc1⟩ := res_facts Bc.out
 obtain ⟨cb0, cb1, fb0, fb1⟩ := res_facts Bb.out
 have HL6 := hid (fun (w' : World) (hb : Stay (w.heap.size + 1 + 1) (w.heap.size + 1 + 1 + 1) W5 w') => (⟨hb, hb.cell (by omega) ca0, hb.cell (by omega) ca1, hb.cell (by omega) cd0, hb.cell (by omega) cd1, hb.cell (by omega) cc0, hb.cell (by omega) cc1, hb.cell (by omega) cb0, hb.cell (by omega) cb1⟩ : Stay (w.heap.size + 1 + 1) (w.heap.size + 1 + 1 + 1) W5 w' ∧ w'.cell? ⟨w2.heap.size, 0, none⟩ = some (.bool n_2) ∧ w'.cell? ⟨w2.heap.size, 1, none⟩ = some (.slice a_2 k_2 c_2) ∧ w'.cell? ⟨w4.heap.size + 1, 0, none⟩ = some (.bool n2_4) ∧ w'.cell? ⟨w4.heap.size + 1, 1, none⟩ = some (.slice a2_4 k2_4 c2_4) ∧ w'.cell? ⟨w4.heap.size, 0, none⟩ = some (.bool n_4) ∧ w'.cell? ⟨w4.heap.size, 1, none⟩ = some (.slice a_4 k_4 c_4) ∧ w'.cell? ⟨w2.heap.size + 1, 0, none⟩ = some (.bool n2_2) ∧ w'.cell? ⟨w2.heap.size + 1, 1, none⟩ = some (.slice a2_2 k2_2 c2_2)))
 have HI6 := hid (fun (w' : World) (hs : Stay (w.heap.size + 1 + 1) (w.heap.size + 1 + 1 + 1) W5 w' ∧ w'.cell? ⟨w2.heap.size, 0, none⟩ = some (.bool n_2) ∧ w'.cell? ⟨w2.heap.size, 1, none⟩ = some (.slice a_2 k_2 c_2) ∧ w'.cell? ⟨w4.heap.size + 1, 0, none⟩ = some (.bool n2_4) ∧ w'.cell? ⟨w4.heap.size + 1, 1, none⟩ = some (.slice a2_4 k2_4 c2_4) ∧ w'.cell? ⟨w4.heap.size, 0, none⟩ = some (.bool n_4) ∧ w'.cell? ⟨w4.heap.size, 1, none⟩ = some (.slice a_4 k_4 c_4) ∧ w'.cell? ⟨w2.heap.size + 1, 0, none⟩ = some (.bool n2_2) ∧ w'.cell? ⟨w2.heap.size + 1, 1, none⟩ = some (.slice a2_2 k2_2 c2_2)) => hs.1)
 have HN6 := hid (noInt_one (noInt4 BR.out))
 have HS6 := hid (Stay.refl (w.heap.size + 1 + 1) (w.heap.size + 1 + 1 + 1) W5)
 have HC6 := hid (Below.drew (Below.refl W5.heap.size W5))
 go_region_held3 (fun w' => Stay (w.heap.size + 1 + 1) (w.heap.size + 1 + 1 + 1) W5 w' ∧ w'.cell? ⟨w2.heap.size, 0, none⟩ = some (.bool n_2) ∧ w'.cell? ⟨w2.heap.size, 1, none⟩ = some (.slice a_2 k_2 c_2) ∧ w'.cell? ⟨w4.heap.size + 1, 0, none⟩ = some (.bool n2_4) ∧ w'.cell? ⟨w4.heap.size + 1, 1, none⟩ = some (.slice a2_4 k2_4 c2_4) ∧ w'.cell? ⟨w4.heap.size, 0, none⟩ = some (.bool n_4) ∧ w'.cell? ⟨w4.heap.size, 1, none⟩ = some (.slice a_4 k_4 c_4) ∧ w'.cell? ⟨w2.heap.size + 1, 0, none⟩ = some (.bool n2_2) ∧ w'.cell? ⟨w2.heap.size + 1, 1, none⟩ = some (.slice a2_2 k2_2 c2_2))
  (first | exact HL6.out _ (Stay.drew HS6.out) | exact HL6.out _ (Stay.next (HI6.out _ (by assumption)) (by assumption)) | exact HL6.out _ (stay_set4 (HI6.out _ (by assumption)) (by omega) (by omega)))
  (first | (go_at_call 135; (with_reducible refine (rmul_any (HA.out.stay (HI6.out _ (by assumption)) HN6.out) (HD.out.stay (HI6.out _ (by assumption)) HN6.out) hp1 hq2 (by omega)).mono ?_); rintro e w7 ⟨n_7, a_7, k_7, c_7, rfl, hu_7, hbr7⟩; have HM1 := hid hu_7; clear hu_7; have HRX7 := hid (blk_next (w := W5.drew) BR.out hbr7)) | (go_at_call 135; (with_reducible refine (rmul_any (HC.out.stay (HI6.out _ (by assumption)) HN6.out) (HBd.out.stay (HI6.out _ (by assumption)) HN6.out) hq1 hp2 (by omega)).mono ?_); rintro e w8 ⟨n_8, a_8, k_8, c_8, rfl, hu_8, hbr8⟩; have HM2 := hid hu_8; clear hu_8; have HRX8 := hid (blk_next HRX7.out hbr8)) | (go_at_call 134; (with_reducible refine (radd_any (HM1.out.below hbr8) HM2.out d1 d2 (by omega)).mono ?_); rintro e w9 ⟨n_9, a_9, k_9, c_9, rfl, hu_9, hbr9⟩; have HS := hid hu_9; clear hu_9; have HRX9 := hid (blk_next HRX8.out hbr9)) | (go_at_call 135; (with_reducible refine (rmul_any (HBd.out.stay (HI6.out _ (by assumption)) HN6.out) (HD.out.stay (HI6.out _ (by assumption)) HN6.out) hp2 hq2 (by omega)).mono ?_); rintro e w10 ⟨n_10, a_10, k_10, c_10, rfl, hu_10, hbr10⟩; have HM3 := hid hu_10; clear hu_10; have HRX10 := hid (blk_next HRX9.out hbr10)) | (go_at_call 102; (with_reducible refine (rreduced_any (HS.out.below hbr10) HM3.out HZ.out d6 d7 (by omega)).mono ?_); rintro e w11 ⟨n_11, a_11, k_11, c_11, n2_11, a2_11, k2_11, c2_11, rfl, hu_11, hv_11, hbr11⟩; have HX := hid hu_11; have HY := hid hv_11; clear hu_11 hv_11; have HRX11 := hid (blk_next HRX10.out hbr11); obtain ⟨⟨d0, d1, d2, d3⟩, e0, e1, e2, e3⟩ := res4_facts HRX11.out))
 go_wp2
 try simp only [Exit.inBlock, Exit.then]
 refine bodyPost_ret (results_cell_row rfl _ _ (w.heap.size + 1 + 1) 86 _ (0, 0) _ rfl (res4_set HRX11.out) Tryz.underlying86 rfl (by kernel_rfl)) rfl ?_
 exact ⟨_, _, _, _, _, _, _, _, rfl, ((HX.out.stay set4_stay (noInt_one (noInt4 HRX11.out))).as (by rw [rat_add p q])), ((HY.out.stay set4_stay (noInt_one (noInt4 HRX11.out))).as (by rw [rat_add p q])), (fin4 (bt HB.out (bt (bt (bt (bt (bt HC6.out hbr7) hbr8) hbr9) hbr10) hbr11)) (by omega))⟩
set_option maxHeartbeats 2000000 in
set_option maxRecDepth 100000 in
theorem rratmul_any {w : World} {v u : Value} {p q : Rat} {N : Nat} (h : RRatR w v p) (k : RRatR w u q) (hp : Rg N p) (hq : Rg N q) (hN : 2 * N + 2 ≤ 999999999990) :
  Calls Tryz.prog 94 #[v, u] w (rGivesP w (p * q)) := by
 obtain ⟨n1, a1, k1, c1, n2, a2, k2, c2, rfl⟩ := h.shape
 obtain ⟨n3, a3, k3, c3, n4, a4, k4, c4, rfl⟩ := k.shape
 have hp1 := hp.1
 have hp2 := hp.2
 have hq1 := hq.1
 have hq2 := hq.2
 have d1 : Dg (N + N) (p.num * q.den) := Dg.mul hp.1 hq.2
 have d2 : Dg (N + N) (q.num * p.den) := Dg.mul hq.1 hp.2
 have d3 : Dg (N + N) ((p.den : Int) * q.den) := Dg.mul hp.2 hq.2
 have d6 := d1.add d2
 have d7 : Dg (N + N + 1) ((p.den : Int) * q.den) := d3.mono (by omega)
 have d4 : Dg (N + N) (p.num * q.num) := Dg.mul hp.1 hq.1
 have d5 : Dg (N + N) ((p.den : Int) * q.num) := Dg.mul hp.2 hq.1
 have HZ := hid (show (p.den : Int) * q.den ≠ 0 from Int.mul_ne_zero (by have := p.den_nz; omega) (by have := q.den_nz; omega))
 have HP := hid h
 have HQ := hid k
 clear h k
 go_enter Tryz.func94, Tryz.ntmps94
 go_wp2_with fail
 obtain ⟨W1, hW, hs, hb, b0, b1, b2⟩ := alloc3 w (.cells #[.bool n1, .slice a1 k1 c1, .bool n2, .slice a2 k2 c2] 86) (.cells #[.bool n3, .slice a3 k3 c3, .bool n4, .slice a4 k4 c4] 86) (.cells #[.bool false, .slice none 0 0, .bool false, .slice none 0 0] 86)
 rw [← hW]
 have HB := hid hb
 replace HP := hid (HP.out.below hb)
 replace HQ := hid (HQ.out.below hb)
 have BP := hid b0
 have BU := hid b1
 have BR := hid b2
 clear hW hs hb b0 b1 b2
 (with_reducible refine (rparts_any HP.out).mono ?_)
 rintro e w2 ⟨n_2, a_2, k_2, c_2, n2_2, a2_2, k2_2, c2_2, rfl, hu_2, hv_2, hb⟩
 replace HB := hid (bt HB.out hb)
 replace HP := hid (HP.out.below hb)
 replace HQ := hid (HQ.out.below hb)
 replace BP := hid (blk_next BP.out hb)
 replace BU := hid (blk_next BU.out hb)
 replace BR := hid (blk_next BR.out hb)
 have HA := hid hu_2
 have HBd := hid hv_2
 clear hu_2 hv_2
 clear hb
 have lt1_P : w.heap.size < w2.heap.size := (Array.getElem?_eq_some_iff.1 BP.out).1
 have lt2_U : w.heap.size + 1 < w2.heap.size := (Array.getElem?_eq_some_iff.1 BU.out).1
 have lt3_R : w.heap.size + 1 + 1 < w2.heap.size := (Array.getElem?_eq_some_iff.1 BR.out).1
 obtain ⟨⟨cU0, cU1, cU2, cU3⟩, fU0, fU1, fU2, fU3⟩ := res4_facts BU.out
 go_wp2_with fail
 clear cU0 cU1 cU2 cU3 fU0 fU1 fU2 fU3
 obtain ⟨W3, hW, hs, hb, b0, b1⟩ := alloc2 w2 (.cells #[.bool n_2, .slice a_2 k_2 c_2] 84) (.cells #[.bool n2_2, .slice a2_2 k2_2 c2_2] 84)
 rw [← hW]
 replace HB := hid (bt HB.out hb)
 replace HP := hid (HP.out.below hb)
 replace HQ := hid (HQ.out.below hb)
 replace HA := hid (HA.out.below hb)
 replace HBd := hid (HBd.out.below hb)
 replace BP := hid (blk_next BP.out hb)
 replace BU := hid (blk_next BU.out hb)
 replace BR := hid (blk_next BR.out hb)
 have Ba := hid b0
 have Bb := hid b1
 clear hW hs hb b0 b1
 (with_reducible refine (rparts_any HQ.out).mono ?_)
 rintro e w4 ⟨n_4, a_4, k_4, c_4, n2_4, a2_4, k2_4, c2_4, rfl, hu_4, hv_4, hb⟩
 replace HB := hid (bt HB.out hb)
 replace HP := hid (HP.out.below hb)
 replace HQ := hid (HQ.out.below hb)
 replace HA := hid (HA.out.below hb)
 replace HBd := hid (HBd.out.below hb)
 replace BP := hid (blk_next BP.out hb)
 replace BU := hid (blk_next BU.out hb)
 replace BR := hid (blk_next BR.out hb)
 replace Ba := hid (blk_next Ba.out hb)
 replace Bb := hid (blk_next Bb.out hb)
 have HC := hid hu_4
 have HD := hid hv_4
 clear hu_4 hv_4
 clear hb
 have lt4_P : w.heap.size < w4.heap.size := (Array.getElem?_eq_some_iff.1 BP.out).1
 have lt5_U : w.heap.size + 1 < w4.heap.size := (Array.getElem?_eq_some_iff.1 BU.out).1
 have lt6_R : w.heap.size + 1 + 1 < w4.heap.size := (Array.getElem?_eq_some_iff.1 BR.out).1
 have lt7_a : w2.heap.size < w4.heap.size := (Array.getElem?_eq_some_iff.1 Ba.out).1
 have lt8_b : w2.heap.size + 1 < w4.heap.size := (Array.getElem?_eq_some_iff.1 Bb.out).1
 obtain ⟨ca0, ca1, fa0, fa1⟩ := res_facts Ba.out
 obtain ⟨cb0, cb1, fb0, fb1⟩ := res_facts Bb.out
 obtain ⟨⟨cU0, cU1, cU2, cU3⟩, fU0, fU1, fU2, fU3⟩ := res4_facts BU.out
 go_wp2_with fail
 clear ca0 ca1 fa0 fa1 cb0 cb1 fb0 fb1 cU0 cU1 cU2 cU3 fU0 fU1 fU2 fU3
 obtain ⟨W5, hW, hs, hb, b0, b1⟩ := alloc2 w4 (.cells #[.bool n_4, .slice a_4 k_4 c_4] 84) (.cells #[.bool n2_4, .slice a2_4 k2_4 c2_4] 84)
 rw [← hW]
 replace HB := hid (bt HB.out hb)
 replace HP := hid (HP.out.below hb)
 replace HQ := hid (HQ.out.below hb)
 replace HA := hid (HA.out.below hb)
 replace HBd := hid (HBd.out.below hb)
 replace HC := hid (HC.out.below hb)
 replace HD := hid (HD.out.below hb)
 replace BP := hid (blk_next BP.out hb)
 replace BU := hid (blk_next BU.out hb)
 replace BR := hid (blk_next BR.out hb)
 replace Ba := hid (blk_next Ba.out hb)
 replace Bb := hid (blk_next Bb.out hb)
 have Bc := hid b0
 have Bd := hid b1
 clear hW hs hb b0 b1
 have lt9_P : w.heap.size < W5.heap.size := (Array.getElem?_eq_some_iff.1 BP.out).1
 have lt10_U : w.heap.size + 1 < W5.heap.size := (Array.getElem?_eq_some_iff.1 BU.out).1
 have lt11_R : w.heap.size + 1 + 1 < W5.heap.size := (Array.getElem?_eq_some_iff.1 BR.out).1
 have lt12_a : w2.heap.size < W5.heap.size := (Array.getElem?_eq_some_iff.1 Ba.out).1
 have lt13_b : w2.heap.size + 1 < W5.heap.size := (Array.getElem?_eq_some_iff.1 Bb.out).1
 have lt14_c : w4.heap.size < W5.heap.size := (Array.getElem?_eq_some_iff.1 Bc.out).1
 have lt15_d : w4.heap.size + 1 < W5.heap.size := (Array.getElem?_eq_some_iff.1 Bd.out).1
 obtain ⟨ca0, ca1, fa0, fa1⟩ := res_facts Ba.out
 obtain ⟨cc0, cc1, fc0, fc1⟩ := res_facts Bc.out
 obtain ⟨cb0, cb1, fb0, fb1⟩ := res_facts Bb.out
 obtain ⟨cd0, cd1, fd0, fd1⟩ := res_facts Bd.out
 have HL6 := hid (fun (w' : World) (hb : Stay (w.heap.size + 1 + 1) (w.heap.size + 1 + 1 + 1) W5 w') => (⟨hb, hb.cell (by omega) ca0, hb.cell (by omega) ca1, hb.cell (by omega) cc0, hb.cell (by omega) cc1, hb.cell (by omega) cb0, hb.cell (by omega) cb1, hb.cell (by omega) cd0, hb.cell (by omega) cd1⟩ : Stay (w.heap.size + 1 + 1) (w.heap.size + 1 + 1 + 1) W5 w' ∧ w'.cell? ⟨w2.heap.size, 0, none⟩ = some (.bool n_2) ∧ w'.cell? ⟨w2.heap.size, 1, none⟩ = some (.slice a_2 k_2 c_2) ∧ w'.cell? ⟨w4.heap.size, 0, none⟩ = some (.bool n_4) ∧ w'.cell? ⟨w4.heap.size, 1, none⟩ = some (.slice a_4 k_4 c_4) ∧ w'.cell? ⟨w2.heap.size + 1, 0, none⟩ = some (.bool n2_2) ∧ w'.cell? ⟨w2.heap.size + 1, 1, none⟩ = some (.slice a2_2 k2_2 c2_2) ∧ w'.cell? ⟨w4.heap.size + 1, 0, none⟩ = some (.bool n2_4) ∧ w'.cell? ⟨w4.heap.size + 1, 1, none⟩ = some (.slice a2_4 k2_4 c2_4)))
 have HI6 := hid (fun (w' : World) (hs : Stay (w.heap.size + 1 + 1) (w.heap.size + 1 + 1 + 1) W5 w' ∧ w'.cell? ⟨w2.heap.size, 0, none⟩ = some (.bool n_2) ∧ w'.cell? ⟨w2.heap.size, 1, none⟩ = some (.slice a_2 k_2 c_2) ∧ w'.cell? ⟨w4.heap.size, 0, none⟩ = some (.bool n_4) ∧ w'.cell? ⟨w4.heap.size, 1, none⟩ = some (.slice a_4 k_4 c_4) ∧ w'.cell? ⟨w2.heap.size + 1, 0, none⟩ = some (.bool n2_2) ∧ w'.cell? ⟨w2.heap.size + 1, 1, none⟩ = some (.slice a2_2 k2_2 c2_2) ∧ w'.cell? ⟨w4.heap.size + 1, 0, none⟩ = some (.bool n2_4) ∧ w'.cell? ⟨w4.heap.size + 1, 1, none⟩ = some (.slice a2_4 k2_4 c2_4)) => hs.1)
 have HN6 := hid (noInt_one (noInt4 BR.out))
 have HS6 := hid (Stay.refl (w.heap.size + 1 + 1) (w.heap.size + 1 + 1 + 1) W5)
 have HC6 := hid (Below.drew (Below.refl W5.heap.size W5))
 go_region_held3 (fun w' => Stay (w.heap.size + 1 + 1) (w.heap.size + 1 + 1 + 1) W5 w' ∧ w'.cell? ⟨w2.heap.size, 0, none⟩ = some (.bool n_2) ∧ w'.cell? ⟨w2.heap.size, 1, none⟩ = some (.slice a_2 k_2 c_2) ∧ w'.cell? ⟨w4.heap.size, 0, none⟩ = some (.bool n_4) ∧ w'.cell? ⟨w4.heap.size, 1, none⟩ = some (.slice a_4 k_4 c_4) ∧ w'.cell? ⟨w2.heap.size + 1, 0, none⟩ = some (.bool n2_2) ∧ w'.cell? ⟨w2.heap.size + 1, 1, none⟩ = some (.slice a2_2 k2_2 c2_2) ∧ w'.cell? ⟨w4.heap.size + 1, 0, none⟩ = some (.bool n2_4) ∧ w'.cell? ⟨w4.heap.size + 1, 1, none⟩ = some (.slice a2_4 k2_4 c2_4))
  (first | exact HL6.out _ (Stay.drew HS6.out) | exact HL6.out _ (Stay.next (HI6.out _ (by assumption)) (by assumption)) | exact HL6.out _ (stay_set4 (HI6.out _ (by assumption)) (by omega) (by omega)))
  (first | (go_at_call 135; (with_reducible refine (rmul_any (HA.out.stay (HI6.out _ (by assumption)) HN6.out) (HC.out.stay (HI6.out _ (by assumption)) HN6.out) hp1 hq1 (by omega)).mono ?_); rintro e w7 ⟨n_7, a_7, k_7, c_7, rfl, hu_7, hbr7⟩; have HM1 := hid hu_7; clear hu_7; have HRX7 := hid (blk_next (w := W5.drew) BR.out hbr7)) | (go_at_call 135; (with_reducible refine (rmul_any (HBd.out.stay (HI6.out _ (by assumption)) HN6.out) (HD.out.stay (HI6.out _ (by assumption)) HN6.out) hp2 hq2 (by omega)).mono ?_); rintro e w8 ⟨n_8, a_8, k_8, c_8, rfl, hu_8, hbr8⟩; have HM3 := hid hu_8; clear hu_8; have HRX8 := hid (blk_next HRX7.out hbr8)) | (go_at_call 102; (with_reducible refine (rreduced_any (HM1.out.below hbr8) HM3.out HZ.out d4 d3 (by omega)).mono ?_); rintro e w9 ⟨n_9, a_9, k_9, c_9, n2_9, a2_9, k2_9, c2_9, rfl, hu_9, hv_9, hbr9⟩; have HX := hid hu_9; have HY := hid hv_9; clear hu_9 hv_9; have HRX9 := hid (blk_next HRX8.out hbr9); obtain ⟨⟨d0, d1, d2, d3⟩, e0, e1, e2, e3⟩ := res4_facts HRX9.out))
 go_wp2
 try simp only [Exit.inBlock, Exit.then]
 refine bodyPost_ret (results_cell_row rfl _ _ (w.heap.size + 1 + 1) 86 _ (0, 0) _ rfl (res4_set HRX9.out) Tryz.underlying86 rfl (by kernel_rfl)) rfl ?_
 exact ⟨_, _, _, _, _, _, _, _, rfl, ((HX.out.stay set4_stay (noInt_one (noInt4 HRX9.out))).as (by rw [rat_mul p q])), ((HY.out.stay set4_stay (noInt_one (noInt4 HRX9.out))).as (by rw [rat_mul p q])), (fin4 (bt HB.out (bt (bt (bt HC6.out hbr7) hbr8) hbr9)) (by omega))⟩
set_option maxHeartbeats 2000000 in
set_option maxRecDepth 100000 in
theorem rratdiv_any {w : World} {v u : Value} {p q : Rat} {N : Nat} (h : RRatR w v p) (k : RRatR w u q) (hp : Rg N p) (hq : Rg N q) (hN : 2 * N + 2 ≤ 999999999990) (h0 : q ≠ 0) :
  Calls Tryz.prog 131 #[v, u] w (rGivesPE w (p / q) 0) := by
 obtain ⟨n1, a1, k1, c1, n2, a2, k2, c2, rfl⟩ := h.shape
 obtain ⟨n3, a3, k3, c3, n4, a4, k4, c4, rfl⟩ := k.shape
 have hp1 := hp.1
 have hp2 := hp.2
 have hq1 := hq.1
 have hq2 := hq.2
 have d1 : Dg (N + N) (p.num * q.den) := Dg.mul hp.1 hq.2
 have d2 : Dg (N + N) (q.num * p.den) := Dg.mul hq.1 hp.2
 have d3 : Dg (N + N) ((p.den : Int) * q.den) := Dg.mul hp.2 hq.2
 have d6 := d1.add d2
 have d7 : Dg (N + N + 1) ((p.den : Int) * q.den) := d3.mono (by omega)
 have d4 : Dg (N + N) (p.num * q.num) := Dg.mul hp.1 hq.1
 have d5 : Dg (N + N) ((p.den : Int) * q.num) := Dg.mul hp.2 hq.1
 have HZ := hid (show (p.den : Int) * q.den ≠ 0 from Int.mul_ne_zero (by have := p.den_nz; omega) (by have := q.den_nz; omega))
 have HZ2 := hid (show (p.den : Int) * q.num ≠ 0 from Int.mul_ne_zero (by have := p.den_nz; omega) (fun e => h0 ((sign_num q).1 e)))
 clear h0
 have HP := hid h
 have HQ := hid k
 clear h k
 go_enter Tryz.func131, Tryz.ntmps131
 go_wp2_with fail
 obtain ⟨W1, hW, hs, hb, b0, b1, b2⟩ := alloc3 w (.cells #[.bool n1, .slice a1 k1 c1, .bool n2, .slice a2 k2 c2] 86) (.cells #[.bool n3, .slice a3 k3 c3, .bool n4, .slice a4 k4 c4] 86) (.cells #[.bool false, .slice none 0 0, .bool false, .slice none 0 0] 86)
 rw [← hW]
 have HB := hid hb
 replace HP := hid (HP.out.below hb)
 replace HQ := hid (HQ.out.below hb)
 have BP := hid b0
 have BU := hid b1
 have BR := hid b2
 clear hW hs hb b0 b1 b2
 (with_reducible refine (rparts_any HP.out).mono ?_)
 rintro e w2 ⟨n_2, a_2, k_2, c_2, n2_2, a2_2, k2_2, c2_2, rfl, hu_2, hv_2, hb⟩
 replace HB := hid (bt HB.out hb)
 replace HP := hid (HP.out.below hb)
 replace HQ := hid (HQ.out.below hb)
 replace BP := hid (blk_next BP.out hb)
 replace BU := hid (blk_next BU.out hb)
 replace BR := hid (blk_next BR.out hb)
 have HA := hid hu_2
 have HBd := hid hv_2
 clear hu_2 hv_2
 clear hb
 have lt1_P : w.heap.size < w2.heap.size := (Array.getElem?_eq_some_iff.1 BP.out).1
 have lt2_U : w.heap.size + 1 < w2.heap.size := (Array.getElem?_eq_some_iff.1 BU.out).1
 have lt3_R : w.heap.size + 1 + 1 < w2.heap.size := (Array.getElem?_eq_some_iff.1 BR.out).1
 obtain ⟨⟨cU0, cU1, cU2, cU3⟩, fU0, fU1, fU2, fU3⟩ := res4_facts BU.out
 go_wp2_with fail
 clear cU0 cU1 cU2 cU3 fU0 fU1 fU2 fU3
 obtain ⟨W3, hW, hs, hb, b0, b1⟩ := alloc2 w2 (.cells #[.bool n_2, .slice a_2 k_2 c_2] 84) (.cells #[.bool n2_2, .slice a2_2 k2_2 c2_2] 84)
 rw [← hW]
 replace HB := hid (bt HB.out hb)
 replace HP := hid (HP.out.below hb)
 replace HQ := hid (HQ.out.below hb)
 replace HA := hid (HA.out.below hb)
 replace HBd := hid (HBd.out.below hb)
 replace BP := hid (blk_next BP.out hb)
 replace BU := hid (blk_next BU.out hb)
 replace BR := hid (blk_next BR.out hb)
 have Ba := hid b0
 have Bb := hid b1
 clear hW hs hb b0 b1
 (with_reducible refine (rparts_any HQ.out).mono ?_)
 rintro e w4 ⟨n_4, a_4, k_4, c_4, n2_4, a2_4, k2_4, c2_4, rfl, hu_4, hv_4, hb⟩
 replace HB := hid (bt HB.out hb)
 replace HP := hid (HP.out.below hb)
 replace HQ := hid (HQ.out.below hb)
 replace HA := hid (HA.out.below hb)
 replace HBd := hid (HBd.out.below hb)
 replace BP := hid (blk_next BP.out hb)
 replace BU := hid (blk_next BU.out hb)
 replace BR := hid (blk_next BR.out hb)
 replace Ba := hid (blk_next Ba.out hb)
 replace Bb := hid (blk_next Bb.out hb)
 have HC := hid hu_4
 have HD := hid hv_4
 clear hu_4 hv_4
 clear hb
 have lt4_P : w.heap.size < w4.heap.size := (Array.getElem?_eq_some_iff.1 BP.out).1
 have lt5_U : w.heap.size + 1 < w4.heap.size := (Array.getElem?_eq_some_iff.1 BU.out).1
 have lt6_R : w.heap.size + 1 + 1 < w4.heap.size := (Array.getElem?_eq_some_iff.1 BR.out).1
 have lt7_a : w2.heap.size < w4.heap.size := (Array.getElem?_eq_some_iff.1 Ba.out).1
 have lt8_b : w2.heap.size + 1 < w4.heap.size := (Array.getElem?_eq_some_iff.1 Bb.out).1
 obtain ⟨ca0, ca1, fa0, fa1⟩ := res_facts Ba.out
 obtain ⟨cb0, cb1, fb0, fb1⟩ := res_facts Bb.out
 obtain ⟨⟨cU0, cU1, cU2, cU3⟩, fU0, fU1, fU2, fU3⟩ := res4_facts BU.out
 go_wp2_with fail
 clear ca0 ca1 fa0 fa1 cb0 cb1 fb0 fb1 cU0 cU1 cU2 cU3 fU0 fU1 fU2 fU3
 obtain ⟨W5, hW, hs, hb, b0, b1⟩ := alloc2 w4 (.cells #[.bool n_4, .slice a_4 k_4 c_4] 84) (.cells #[.bool n2_4, .slice a2_4 k2_4 c2_4] 84)
 rw [← hW]
 replace HB := hid (bt HB.out hb)
 replace HP := hid (HP.out.below hb)
 replace HQ := hid (HQ.out.below hb)
 replace HA := hid (HA.out.below hb)
 replace HBd := hid (HBd.out.below hb)
 replace HC := hid (HC.out.below hb)
 replace HD := hid (HD.out.below hb)
 replace BP := hid (blk_next BP.out hb)
 replace BU := hid (blk_next BU.out hb)
 replace BR := hid (blk_next BR.out hb)
 replace Ba := hid (blk_next Ba.out hb)
 replace Bb := hid (blk_next Bb.out hb)
 have Bc := hid b0
 have Bd := hid b1
 clear hW hs hb b0 b1
 have lt9_P : w.heap.size < W5.heap.size := (Array.getElem?_eq_some_iff.1 BP.out).1
 have lt10_U : w.heap.size + 1 < W5.heap.size := (Array.getElem?_eq_some_iff.1 BU.out).1
 have lt11_R : w.heap.size + 1 + 1 < W5.heap.size := (Array.getElem?_eq_some_iff.1 BR.out).1
 have lt12_a : w2.heap.size < W5.heap.size := (Array.getElem?_eq_some_iff.1 Ba.out).1
 have lt13_b : w2.heap.size + 1 < W5.heap.size := (Array.getElem?_eq_some_iff.1 Bb.out).1
 have lt14_c : w4.heap.size < W5.heap.size := (Array.getElem?_eq_some_iff.1 Bc.out).1
 have lt15_d : w4.heap.size + 1 < W5.heap.size := (Array.getElem?_eq_some_iff.1 Bd.out).1
 obtain ⟨ca0, ca1, fa0, fa1⟩ := res_facts Ba.out
 obtain ⟨cd0, cd1, fd0, fd1⟩ := res_facts Bd.out
 obtain ⟨cb0, cb1, fb0, fb1⟩ := res_facts Bb.out
 obtain ⟨cc0, cc1, fc0, fc1⟩ := res_facts Bc.out
 have HL6 := hid (fun (w' : World) (hb : Stay (w.heap.size + 1 + 1) (w.heap.size + 1 + 1 + 1) W5 w') => (⟨hb, hb.cell (by omega) ca0, hb.cell (by omega) ca1, hb.cell (by omega) cd0, hb.cell (by omega) cd1, hb.cell (by omega) cb0, hb.cell (by omega) cb1, hb.cell (by omega) cc0, hb.cell (by omega) cc1⟩ : Stay (w.heap.size + 1 + 1) (w.heap.size + 1 + 1 + 1) W5 w' ∧ w'.cell? ⟨w2.heap.size, 0, none⟩ = some (.bool n_2) ∧ w'.cell? ⟨w2.heap.size, 1, none⟩ = some (.slice a_2 k_2 c_2) ∧ w'.cell? ⟨w4.heap.size + 1, 0, none⟩ = some (.bool n2_4) ∧ w'.cell? ⟨w4.heap.size + 1, 1, none⟩ = some (.slice a2_4 k2_4 c2_4) ∧ w'.cell? ⟨w2.heap.size + 1, 0, none⟩ = some (.bool n2_2) ∧ w'.cell? ⟨w2.heap.size + 1, 1, none⟩ = some (.slice a2_2 k2_2 c2_2) ∧ w'.cell? ⟨w4.heap.size, 0, none⟩ = some (.bool n_4) ∧ w'.cell? ⟨w4.heap.size, 1, none⟩ = some (.slice a_4 k_4 c_4)))
 have HI6 := hid (fun (w' : World) (hs : Stay (w.heap.size + 1 + 1) (w.heap.size + 1 + 1 + 1) W5 w' ∧ w'.cell? ⟨w2.heap.size, 0, none⟩ = some (.bool n_2) ∧ w'.cell? ⟨w2.heap.size, 1, none⟩ = some (.slice a_2 k_2 c_2) ∧ w'.cell? ⟨w4.heap.size + 1, 0, none⟩ = some (.bool n2_4) ∧ w'.cell? ⟨w4.heap.size + 1, 1, none⟩ = some (.slice a2_4 k2_4 c2_4) ∧ w'.cell? ⟨w2.heap.size + 1, 0, none⟩ = some (.bool n2_2) ∧ w'.cell? ⟨w2.heap.size + 1, 1, none⟩ = some (.slice a2_2 k2_2 c2_2) ∧ w'.cell? ⟨w4.heap.size, 0, none⟩ = some (.bool n_4) ∧ w'.cell? ⟨w4.heap.size, 1, none⟩ = some (.slice a_4 k_4 c_4)) => hs.1)
 have HN6 := hid (noInt_one (noInt4 BR.out))
 have HS6 := hid (Stay.refl (w.heap.size + 1 + 1) (w.heap.size + 1 + 1 + 1) W5)
 have HC6 := hid (Below.drew (Below.refl W5.heap.size W5))
 go_region_held3 (fun w' => Stay (w.heap.size + 1 + 1) (w.heap.size + 1 + 1 + 1) W5 w' ∧ w'.cell? ⟨w2.heap.size, 0, none⟩ = some (.bool n_2) ∧ w'.cell? ⟨w2.heap.size, 1, none⟩ = some (.slice a_2 k_2 c_2) ∧ w'.cell? ⟨w4.heap.size + 1, 0, none⟩ = some (.bool n2_4) ∧ w'.cell? ⟨w4.heap.size + 1, 1, none⟩ = some (.slice a2_4 k2_4 c2_4) ∧ w'.cell? ⟨w2.heap.size + 1, 0, none⟩ = some (.bool n2_2) ∧ w'.cell? ⟨w2.heap.size + 1, 1, none⟩ = some (.slice a2_2 k2_2 c2_2) ∧ w'.cell? ⟨w4.heap.size, 0, none⟩ = some (.bool n_4) ∧ w'.cell? ⟨w4.heap.size, 1, none⟩ = some (.slice a_4 k_4 c_4))
  (first | exact HL6.out _ (Stay.drew HS6.out) | exact HL6.out _ (Stay.next (HI6.out _ (by assumption)) (by assumption)) | exact HL6.out _ (stay_set4 (HI6.out _ (by assumption)) (by omega) (by omega)))
  (first | (go_at_call 135; (with_reducible refine (rmul_any (HA.out.stay (HI6.out _ (by assumption)) HN6.out) (HD.out.stay (HI6.out _ (by assumption)) HN6.out) hp1 hq2 (by omega)).mono ?_); rintro e w7 ⟨n_7, a_7, k_7, c_7, rfl, hu_7, hbr7⟩; have HM1 := hid hu_7; clear hu_7; have HRX7 := hid (blk_next (w := W5.drew) BR.out hbr7)) | (go_at_call 135; (with_reducible refine (rmul_any (HBd.out.stay (HI6.out _ (by assumption)) HN6.out) (HC.out.stay (HI6.out _ (by assumption)) HN6.out) hp2 hq1 (by omega)).mono ?_); rintro e w8 ⟨n_8, a_8, k_8, c_8, rfl, hu_8, hbr8⟩; have HM3 := hid hu_8; clear hu_8; have HRX8 := hid (blk_next HRX7.out hbr8)) | (go_at_call 99; (with_reducible refine (rnew_any (HM1.out.below hbr8) HM3.out HZ2.out d1 d5 (by omega)).mono ?_); rintro e w9 ⟨n_9, a_9, k_9, c_9, n2_9, a2_9, k2_9, c2_9, rfl, hu_9, hv_9, hbr9⟩; have HX := hid hu_9; have HY := hid hv_9; clear hu_9 hv_9; have HRX9 := hid (blk_next HRX8.out hbr9); obtain ⟨⟨d0, d1, d2, d3⟩, e0, e1, e2, e3⟩ := res4_facts HRX9.out))
 go_wp2
 try simp only [Exit.inBlock, Exit.then]
 refine bodyPost_ret (results_cell_slot rfl _ _ (w.heap.size + 1 + 1) 86 _ (0, 0) _ (.int .i64 0) rfl rfl (res4_set HRX9.out) Tryz.underlying86 rfl (by kernel_rfl)) rfl ?_
 exact ⟨_, _, _, _, _, _, _, _, rfl, ((HX.out.stay set4_stay (noInt_one (noInt4 HRX9.out))).as (by rw [rat_div p q])), ((HY.out.stay set4_stay (noInt_one (noInt4 HRX9.out))).as (by rw [rat_div p q])), (fin4 (bt HB.out (bt (bt (bt HC6.out hbr7) hbr8) hbr9)) (by omega))⟩
set_option maxHeartbeats 2000000 in
set_option maxRecDepth 100000 in
theorem rratsub_any {w : World} {v u : Value} {p q : Rat} {N : Nat} (h : RRatR w v p) (k : RRatR w u q) (hp : Rg N p) (hq : Rg N q) (hN : 2 * N + 2 ≤ 999999999990) :
  Calls Tryz.prog 54 #[v, u] w (rGivesP w (p - q)) := by
 obtain ⟨n1, a1, k1, c1, n2, a2, k2, c2, rfl⟩ := h.shape
 obtain ⟨n3, a3, k3, c3, n4, a4, k4, c4, rfl⟩ := k.shape
 have hq' : Rg N (-q) := ⟨by rw [Rat.neg_num]; exact hq.1.neg, hq.2⟩
 have HP := hid h
 have HQ := hid k
 clear h k
 go_enter Tryz.func54, Tryz.ntmps54
 go_wp2_with fail
 obtain ⟨W1, hW, hs, hb, b0, b1, b2⟩ := alloc3 w (.cells #[.bool n1, .slice a1 k1 c1, .bool n2, .slice a2 k2 c2] 86) (.cells #[.bool n3, .slice a3 k3 c3, .bool n4, .slice a4 k4 c4] 86) (.cells #[.bool false, .slice none 0 0, .bool false, .slice none 0 0] 86)
 rw [← hW]
 have HB := hid hb
 replace HP := hid (HP.out.below hb)
 replace HQ := hid (HQ.out.below hb)
 have BP := hid b0
 have BU := hid b1
 have BR := hid b2
 clear hW hs hb b0 b1 b2
 have lt1_P : w.heap.size < W1.heap.size := (Array.getElem?_eq_some_iff.1 BP.out).1
 have lt2_U : w.heap.size + 1 < W1.heap.size := (Array.getElem?_eq_some_iff.1 BU.out).1
 have lt3_R : w.heap.size + 1 + 1 < W1.heap.size := (Array.getElem?_eq_some_iff.1 BR.out).1
 obtain ⟨⟨cP0, cP1, cP2, cP3⟩, fP0, fP1, fP2, fP3⟩ := res4_facts BP.out
 obtain ⟨⟨cU0, cU1, cU2, cU3⟩, fU0, fU1, fU2, fU3⟩ := res4_facts BU.out
 have HL2 := hid (fun (w' : World) (hb : Stay (w.heap.size + 1 + 1) (w.heap.size + 1 + 1 + 1) W1 w') => (⟨hb, hb.cell (by omega) cP0, hb.cell (by omega) cP1, hb.cell (by omega) cP2, hb.cell (by omega) cP3, hb.cell (by omega) cU0, hb.cell (by omega) cU1, hb.cell (by omega) cU2, hb.cell (by omega) cU3⟩ : Stay (w.heap.size + 1 + 1) (w.heap.size + 1 + 1 + 1) W1 w' ∧ w'.cell? ⟨w.heap.size, 0, none⟩ = some (.bool n1) ∧ w'.cell? ⟨w.heap.size, 1, none⟩ = some (.slice a1 k1 c1) ∧ w'.cell? ⟨w.heap.size, 2, none⟩ = some (.bool n2) ∧ w'.cell? ⟨w.heap.size, 3, none⟩ = some (.slice a2 k2 c2) ∧ w'.cell? ⟨w.heap.size + 1, 0, none⟩ = some (.bool n3) ∧ w'.cell? ⟨w.heap.size + 1, 1, none⟩ = some (.slice a3 k3 c3) ∧ w'.cell? ⟨w.heap.size + 1, 2, none⟩ = some (.bool n4) ∧ w'.cell? ⟨w.heap.size + 1, 3, none⟩ = some (.slice a4 k4 c4)))
 have HI2 := hid (fun (w' : World) (hs : Stay (w.heap.size + 1 + 1) (w.heap.size + 1 + 1 + 1) W1 w' ∧ w'.cell? ⟨w.heap.size, 0, none⟩ = some (.bool n1) ∧ w'.cell? ⟨w.heap.size, 1, none⟩ = some (.slice a1 k1 c1) ∧ w'.cell? ⟨w.heap.size, 2, none⟩ = some (.bool n2) ∧ w'.cell? ⟨w.heap.size, 3, none⟩ = some (.slice a2 k2 c2) ∧ w'.cell? ⟨w.heap.size + 1, 0, none⟩ = some (.bool n3) ∧ w'.cell? ⟨w.heap.size + 1, 1, none⟩ = some (.slice a3 k3 c3) ∧ w'.cell? ⟨w.heap.size + 1, 2, none⟩ = some (.bool n4) ∧ w'.cell? ⟨w.heap.size + 1, 3, none⟩ = some (.slice a4 k4 c4)) => hs.1)
 have HN2 := hid (noInt_one (noInt4 BR.out))
 have HS2 := hid (Stay.refl (w.heap.size + 1 + 1) (w.heap.size + 1 + 1 + 1) W1)
 have HC2 := hid (Below.drew (Below.refl W1.heap.size W1))
 go_region_held3 (fun w' => Stay (w.heap.size + 1 + 1) (w.heap.size + 1 + 1 + 1) W1 w' ∧ w'.cell? ⟨w.heap.size, 0, none⟩ = some (.bool n1) ∧ w'.cell? ⟨w.heap.size, 1, none⟩ = some (.slice a1 k1 c1) ∧ w'.cell? ⟨w.heap.size, 2, none⟩ = some (.bool n2) ∧ w'.cell? ⟨w.heap.size, 3, none⟩ = some (.slice a2 k2 c2) ∧ w'.cell? ⟨w.heap.size + 1, 0, none⟩ = some (.bool n3) ∧ w'.cell? ⟨w.heap.size + 1, 1, none⟩ = some (.slice a3 k3 c3) ∧ w'.cell? ⟨w.heap.size + 1, 2, none⟩ = some (.bool n4) ∧ w'.cell? ⟨w.heap.size + 1, 3, none⟩ = some (.slice a4 k4 c4))
  (first | exact HL2.out _ (Stay.drew HS2.out) | exact HL2.out _ (Stay.next (HI2.out _ (by assumption)) (by assumption)) | exact HL2.out _ (stay_set4 (HI2.out _ (by assumption)) (by omega) (by omega)))
  (first | (go_at_call 101; (with_reducible refine (rratneg_any (HQ.out.stay (HI2.out _ (by assumption)) HN2.out)).mono ?_); rintro e w3 ⟨n_3, a_3, k_3, c_3, n2_3, a2_3, k2_3, c2_3, rfl, hu_3, hbr3⟩; have HNQ := hid hu_3; clear hu_3; have HRX3 := hid (blk_next (w := W1.drew) BR.out hbr3)) | (go_at_call 93; (with_reducible refine (rratadd_any (HP.out.stay (HI2.out _ (by assumption)) HN2.out) HNQ.out hp hq' hN).mono ?_); rintro e w4 ⟨n_4, a_4, k_4, c_4, n2_4, a2_4, k2_4, c2_4, rfl, hu_4, hv_4, hbr4⟩; have HX := hid hu_4; have HY := hid hv_4; clear hu_4 hv_4; have HRX4 := hid (blk_next HRX3.out hbr4); obtain ⟨⟨d0, d1, d2, d3⟩, e0, e1, e2, e3⟩ := res4_facts HRX4.out))
 go_wp2
 try simp only [Exit.inBlock, Exit.then]
 refine bodyPost_ret (results_cell_row rfl _ _ (w.heap.size + 1 + 1) 86 _ (0, 0) _ rfl (res4_set HRX4.out) Tryz.underlying86 rfl (by kernel_rfl)) rfl ?_
 exact ⟨_, _, _, _, _, _, _, _, rfl, ((HX.out.stay set4_stay (noInt_one (noInt4 HRX4.out))).as (by rw [rat_sub])), ((HY.out.stay set4_stay (noInt_one (noInt4 HRX4.out))).as (by rw [rat_sub])), (fin4 (bt HB.out (bt (bt HC2.out hbr3) hbr4)) (by omega))⟩
end Go.Proofs.YteionhenpehogaaGreatDoor
namespace Go.Proofs.YteionhenpehogaaGreatDoor
open Go.RowKit Tally Go.Lib
theorem divInt_one (n : Int) : Rat.divInt n 1 = (n : Rat) := by
 rw [Rat.divInt_eq_div]
 show (n : Rat) / 1 = _
 grind
set_option maxHeartbeats 2000000 in
set_option maxRecDepth 100000 in
theorem rint_any {w : World} {n : Int} (h1 : -9223372036854775808 ≤ n) (h2 : n ≤ 9223372036854775807) :
  Calls Tryz.prog 55 #[.int .i64 n] w (rGivesP w (n : Rat)) := by
 have HDI := hid (divInt_one n)
 have d1 := dg_int h1 h2
 have d2 : Dg 19 (1 : Int) := by unfold Dg; decide
 have HN0 := hid (show (1 : Int) ≠ 0 by decide)
 go_enter Tryz.func55, Tryz.ntmps55
 go_wp2_with fail
 obtain ⟨W1, hW, hs, hb, b0⟩ := alloc1 w (.cells #[.bool false, .slice none 0 0, .bool false, .slice none 0 0] 86)
 rw [← hW]
 have HB := hid hb
 have BR := hid b0
 clear hW hs hb b0
 (with_reducible refine (rof_any h1 h2).mono ?_)
 rintro e w2 ⟨n_2, a_2, k_2, c_2, rfl, hu_2, hb⟩
 replace HB := hid (bt HB.out hb)
 replace BR := hid (blk_next BR.out hb)
 have HA := hid hu_2
 clear hu_2
 clear hb
 go_wp2_with fail
 (with_reducible refine (rof_any (n := 1) (by decide) (by decide)).mono ?_)
 rintro e w3 ⟨n_3, a_3, k_3, c_3, rfl, hu_3, hb⟩
 replace HB := hid (bt HB.out hb)
 replace HA := hid (HA.out.below hb)
 replace BR := hid (blk_next BR.out hb)
 have HB1 := hid hu_3
 clear hu_3
 clear hb
 go_wp2_with fail
 (with_reducible refine (rreduced_any HA.out HB1.out HN0.out d1 d2 (by omega)).mono ?_)
 rintro e w4 ⟨n_4, a_4, k_4, c_4, n2_4, a2_4, k2_4, c2_4, rfl, hu_4, hv_4, hb⟩
 replace HB := hid (bt HB.out hb)
 replace HA := hid (HA.out.below hb)
 replace HB1 := hid (HB1.out.below hb)
 replace BR := hid (blk_next BR.out hb)
 have HC := hid hu_4
 have HE := hid hv_4
 clear hu_4 hv_4
 clear hb
 have lt1_R : w.heap.size < w4.heap.size := (Array.getElem?_eq_some_iff.1 BR.out).1
 obtain ⟨⟨cR0, cR1, cR2, cR3⟩, fR0, fR1, fR2, fR3⟩ := res4_facts BR.out
 go_wp2
 try simp only [Exit.inBlock, Exit.then]
 refine bodyPost_ret (results_cell_row rfl _ _ (w.heap.size) 86 _ (0, 0) _ rfl (res4_set BR.out) Tryz.underlying86 rfl (by kernel_rfl)) rfl ?_
 exact ⟨_, _, _, _, _, _, _, _, rfl, ((HC.out.stay set4_stay (noInt_one (noInt4 BR.out))).as (by rw [HDI.out])), ((HE.out.stay set4_stay (noInt_one (noInt4 BR.out))).as (by rw [HDI.out])), (fin4 HB.out (by omega))⟩
end Go.Proofs.YteionhenpehogaaGreatDoor
