import Derived.Test.YteionhenpehogaaGreatDoorRatB
namespace Go.Proofs.YteionhenpehogaaGreatDoor
open Go.RowKit Tally
set_option maxHeartbeats 2000000 in
set_option maxRecDepth 100000 in
theorem ratneg_any {w : World} {v : Value} {q : Rat} (h : RatR w v q) :
  Calls Tryz.prog 129 #[v] w (GivesR w (-q)) := by
 obtain ⟨n1, a1, k1, c1, n2, a2, k2, c2, rfl⟩ := h.shape
 obtain ⟨d, hx, hd, hc⟩ := h.two
 have HX := Lib.hid hx
 have HD := Lib.hid hd
 have HC := Lib.hid (show d = (-q).den ∨ d = 0 ∧ -q = 0 from by
   rcases hc with e | ⟨e1, e2⟩
   ·exact .inl e
   ·exact .inr ⟨e1, by rw [e2]; rfl⟩)
 clear h hx hd hc
 go_enter Tryz.func129, Tryz.ntmps129
 go_wp2_with fail
 obtain ⟨W1, hW, hs, hb, b0, b1⟩ := alloc2 w (.cells #[.bool n1, .slice a1 k1 c1, .bool n2, .slice a2 k2 c2] 37) (.cells #[.bool false, .slice none 0 0, .bool false, .slice none 0 0] 37)
 rw [← hW]
 have HB := Lib.hid hb
 replace HX := Lib.hid (HX.out.below hb)
 replace HD := Lib.hid (HD.out.below hb)
 have BP := Lib.hid b0
 have BR := Lib.hid b1
 clear hW hs hb b0 b1
 have lt1_P : w.heap.size < W1.heap.size := (Array.getElem?_eq_some_iff.1 BP.out).1
 have lt2_R : w.heap.size + 1 < W1.heap.size := (Array.getElem?_eq_some_iff.1 BR.out).1
 obtain ⟨⟨cP0, cP1, cP2, cP3⟩, fP0, fP1, fP2, fP3⟩ := res4_facts BP.out
 have HL2 := Lib.hid (fun (w' : World) (hb : Stay (w.heap.size + 1) (w.heap.size + 1 + 1) W1 w') => (⟨hb, hb.cell (by omega) cP0, hb.cell (by omega) cP1, hb.cell (by omega) cP2, hb.cell (by omega) cP3⟩ : Stay (w.heap.size + 1) (w.heap.size + 1 + 1) W1 w' ∧ w'.cell? ⟨w.heap.size, 0, none⟩ = some (.bool n1) ∧ w'.cell? ⟨w.heap.size, 1, none⟩ = some (.slice a1 k1 c1) ∧ w'.cell? ⟨w.heap.size, 2, none⟩ = some (.bool n2) ∧ w'.cell? ⟨w.heap.size, 3, none⟩ = some (.slice a2 k2 c2)))
 have HI2 := Lib.hid (fun (w' : World) (hs : Stay (w.heap.size + 1) (w.heap.size + 1 + 1) W1 w' ∧ w'.cell? ⟨w.heap.size, 0, none⟩ = some (.bool n1) ∧ w'.cell? ⟨w.heap.size, 1, none⟩ = some (.slice a1 k1 c1) ∧ w'.cell? ⟨w.heap.size, 2, none⟩ = some (.bool n2) ∧ w'.cell? ⟨w.heap.size, 3, none⟩ = some (.slice a2 k2 c2)) => hs.1)
 have HN2 := Lib.hid (noInt_one (noInt4 BR.out))
 have HS2 := Lib.hid (Stay.refl (w.heap.size + 1) (w.heap.size + 1 + 1) W1)
 have HC2 := Lib.hid (Below.drew (Below.refl W1.heap.size W1))
 go_region_held3 (fun w' => Stay (w.heap.size + 1) (w.heap.size + 1 + 1) W1 w' ∧ w'.cell? ⟨w.heap.size, 0, none⟩ = some (.bool n1) ∧ w'.cell? ⟨w.heap.size, 1, none⟩ = some (.slice a1 k1 c1) ∧ w'.cell? ⟨w.heap.size, 2, none⟩ = some (.bool n2) ∧ w'.cell? ⟨w.heap.size, 3, none⟩ = some (.slice a2 k2 c2))
  (first | exact HL2.out _ (Stay.drew HS2.out) | exact HL2.out _ (Stay.next (HI2.out _ (by assumption)) (by assumption)) | exact HL2.out _ (stay_set4 (HI2.out _ (by assumption)) (by omega) (by omega)))
  (first | (go_at_call 126; (with_reducible refine (neg_any (HX.out.stay (HI2.out _ (by assumption)) HN2.out)).mono ?_); rintro e w3 ⟨n_3, a_3, k_3, c_3, rfl, hu_3, hbr3⟩; have HNX := Lib.hid hu_3; clear hu_3; have HRX3 := Lib.hid (blk_next (w := W1.drew) BR.out hbr3); obtain ⟨⟨d0, d1, d2, d3⟩, e0, e1, e2, e3⟩ := res4_facts HRX3.out))
 go_wp2
 try simp only [Exit.inBlock, Exit.then]
 refine bodyPost_ret (results_cell_row rfl _ _ (w.heap.size + 1) 37 _ (0, 0) _ rfl (res4_set HRX3.out) Tryz.underlying37 rfl (by kernel_rfl)) rfl ?_
 exact ⟨_, _, _, _, _, _, _, _, rfl, RatR.mk ((HNX.out.stay set4_stay (noInt_one (noInt4 HRX3.out))).as (Rat.neg_num q).symm) ((HD.out.below (bt HC2.out hbr3)).stay set4_stay (noInt_one (noInt4 HRX3.out))) HC.out, (fin4 (bt HB.out (bt HC2.out hbr3)) (by omega))⟩
set_option maxHeartbeats 2000000 in
set_option maxRecDepth 100000 in
theorem ratadd_any {w : World} {v u : Value} {p q : Rat} {N : Nat} (h : RatR w v p) (k : RatR w u q) (hp : Rg N p) (hq : Rg N q) (hN : 2 * N + 2 ≤ 999999999990) :
  Calls Tryz.prog 28 #[v, u] w (GivesP w (p + q)) := by
 obtain ⟨n1, a1, k1, c1, n2, a2, k2, c2, rfl⟩ := h.shape
 obtain ⟨n3, a3, k3, c3, n4, a4, k4, c4, rfl⟩ := k.shape
 have hp1 := hp.1
 have hp2 := hp.2
 have hq1 := hq.1
 have hq2 := hq.2
 have d1 : Dg (N + N) (p.num * q.den) := Dg.mul hp.1 hq.2
 have d2 : Dg (N + N) (q.num * p.den) := Dg.mul hq.1 hp.2
 have d3 : Dg (N + N) ((p.den : Int) * q.den) := Dg.mul hp.2 hq.2
 have d6 := d1.add d2
 have d7 : Dg (N + N + 1) ((p.den : Int) * q.den) := d3.mono (by omega)
 have d4 : Dg (N + N) (p.num * q.num) := Dg.mul hp.1 hq.1
 have d5 : Dg (N + N) ((p.den : Int) * q.num) := Dg.mul hp.2 hq.1
 have HZ := Lib.hid (show (p.den : Int) * q.den ≠ 0 from Int.mul_ne_zero (by have := p.den_nz; omega) (by have := q.den_nz; omega))
 have HP := Lib.hid h
 have HQ := Lib.hid k
 clear h k
 go_enter Tryz.func28, Tryz.ntmps28
 go_wp2_with fail
 obtain ⟨W1, hW, hs, hb, b0, b1, b2⟩ := alloc3 w (.cells #[.bool n1, .slice a1 k1 c1, .bool n2, .slice a2 k2 c2] 37) (.cells #[.bool n3, .slice a3 k3 c3, .bool n4, .slice a4 k4 c4] 37) (.cells #[.bool false, .slice none 0 0, .bool false, .slice none 0 0] 37)
 rw [← hW]
 have HB := Lib.hid hb
 replace HP := Lib.hid (HP.out.below hb)
 replace HQ := Lib.hid (HQ.out.below hb)
 have BP := Lib.hid b0
 have BU := Lib.hid b1
 have BR := Lib.hid b2
 clear hW hs hb b0 b1 b2
 (with_reducible refine (parts_any HP.out).mono ?_)
 rintro e w2 ⟨n_2, a_2, k_2, c_2, n2_2, a2_2, k2_2, c2_2, rfl, hu_2, hv_2, hb⟩
 replace HB := Lib.hid (bt HB.out hb)
 replace HP := Lib.hid (HP.out.below hb)
 replace HQ := Lib.hid (HQ.out.below hb)
 replace BP := Lib.hid (blk_next BP.out hb)
 replace BU := Lib.hid (blk_next BU.out hb)
 replace BR := Lib.hid (blk_next BR.out hb)
 have HA := Lib.hid hu_2
 have HBd := Lib.hid hv_2
 clear hu_2 hv_2
 clear hb
 have lt1_P : w.heap.size < w2.heap.size := (Array.getElem?_eq_some_iff.1 BP.out).1
 have lt2_U : w.heap.size + 1 < w2.heap.size := (Array.getElem?_eq_some_iff.1 BU.out).1
 have lt3_R : w.heap.size + 1 + 1 < w2.heap.size := (Array.getElem?_eq_some_iff.1 BR.out).1
 obtain ⟨⟨cU0, cU1, cU2, cU3⟩, fU0, fU1, fU2, fU3⟩ := res4_facts BU.out
 go_wp2_with fail
 clear cU0 cU1 cU2 cU3 fU0 fU1 fU2 fU3
 obtain ⟨W3, hW, hs, hb, b0, b1⟩ := alloc2 w2 (.cells #[.bool n_2, .slice a_2 k_2 c_2] 35) (.cells #[.bool n2_2, .slice a2_2 k2_2 c2_2] 35)
 rw [← hW]
 replace HB := Lib.hid (bt HB.out hb)
 replace HP := Lib.hid (HP.out.below hb)
 replace HQ := Lib.hid (HQ.out.below hb)
 replace HA := Lib.hid (HA.out.below hb)
 replace HBd := Lib.hid (HBd.out.below hb)
 replace BP := Lib.hid (blk_next BP.out hb)
 replace BU := Lib.hid (blk_next BU.out hb)
 replace BR := Lib.hid (blk_next BR.out hb)
 have Ba := Lib.hid b0
 have Bb := Lib.hid b1
 clear hW hs hb b0 b1
 (with_reducible refine (parts_any HQ.out).mono ?_)
 rintro e w4 ⟨n_4, a_4, k_4, c_4, n2_4, a2_4, k2_4, c2_4, rfl, hu_4, hv_4, hb⟩
 replace HB := Lib.hid (bt HB.out hb)
 replace HP := Lib.hid (HP.out.below hb)
 replace HQ := Lib.hid (HQ.out.below hb)
 replace HA := Lib.hid (HA.out.below hb)
 replace HBd := Lib.hid (HBd.out.below hb)
 replace BP := Lib.hid (blk_next BP.out hb)
 replace BU := Lib.hid (blk_next BU.out hb)
 replace BR := Lib.hid (blk_next BR.out hb)
 replace Ba := Lib.hid (blk_next Ba.out hb)
 replace Bb := Lib.hid (blk_next Bb.out hb)
 have HC := Lib.hid hu_4
 have HD := Lib.hid hv_4
 clear hu_4 hv_4
 clear hb
 have lt4_P : w.heap.size < w4.heap.size := (Array.getElem?_eq_some_iff.1 BP.out).1
 have lt5_U : w.heap.size + 1 < w4.heap.size := (Array.getElem?_eq_some_iff.1 BU.out).1
 have lt6_R : w.heap.size + 1 + 1 < w4.heap.size := (Array.getElem?_eq_some_iff.1 BR.out).1
 have lt7_a : w2.heap.size < w4.heap.size := (Array.getElem?_eq_some_iff.1 Ba.out).1
 have lt8_b : w2.heap.size + 1 < w4.heap.size := (Array.getElem?_eq_some_iff.1 Bb.out).1
 obtain ⟨ca0, ca1, fa0, fa1⟩ := res_facts Ba.out
 obtain ⟨cb0, cb1, fb0, fb1⟩ := res_facts Bb.out
 obtain ⟨⟨cU0, cU1, cU2, cU3⟩, fU0, fU1, fU2, fU3⟩ := res4_facts BU.out
 go_wp2_with fail
 clear ca0 ca1 fa0 fa1 cb0 cb1 fb0 fb1 cU0 cU1 cU2 cU3 fU0 fU1 fU2 fU3
 obtain ⟨W5, hW, hs, hb, b0, b1⟩ := alloc2 w4 (.cells #[.bool n_4, .slice a_4 k_4 c_4] 35) (.cells #[.bool n2_4, .slice a2_4 k2_4 c2_4] 35)
 rw [← hW]
 replace HB := Lib.hid (bt HB.out hb)
 replace HP := Lib.hid (HP.out.below hb)
 replace HQ := Lib.hid (HQ.out.below hb)
 replace HA := Lib.hid (HA.out.below hb)
 replace HBd := Lib.hid (HBd.out.below hb)
 replace HC := Lib.hid (HC.out.below hb)
 replace HD := Lib.hid (HD.out.below hb)
 replace BP := Lib.hid (blk_next BP.out hb)
 replace BU := Lib.hid (blk_next BU.out hb)
 replace BR := Lib.hid (blk_next BR.out hb)
 replace Ba := Lib.hid (blk_next Ba.out hb)
 replace Bb := Lib.hid (blk_next Bb.out hb)
 have Bc := Lib.hid b0
 have Bd := Lib.hid b1
 clear hW hs hb b0 b1
 have lt9_P : w.heap.size < W5.heap.size := (Array.getElem?_eq_some_iff.1 BP.out).1
 have lt10_U : w.heap.size + 1 < W5.heap.size := (Array.getElem?_eq_some_iff.1 BU.out).1
 have lt11_R : w.heap.size + 1 + 1 < W5.heap.size := (Array.getElem?_eq_some_iff.1 BR.out).1
 have lt12_a : w2.heap.size < W5.heap.size := (Array.getElem?_eq_some_iff.1 Ba.out).1
 have lt13_b : w2.heap.size + 1 < W5.heap.size := (Array.getElem?_eq_some_iff.1 Bb.out).1
 have lt14_c : w4.heap.size < W5.heap.size := (Array.getElem?_eq_some_iff.1 Bc.out).1
 have lt15_d : w4.heap.size + 1 < W5.heap.size := (Array.getElem?_eq_some_iff.1 Bd.out).1
 obtain ⟨ca0, ca1, fa0, fa1⟩ := res_facts Ba.out
 obtain ⟨cd0, cd1, fd0, fd1⟩ := res_facts Bd.out
 obtain ⟨cc0, cc1, fc0, fc1⟩ := res_facts Bc.out
 obtain ⟨cb0, cb1, fb0, fb1⟩ := res_facts Bb.out
 have HL6 := Lib.hid (fun (w' : World) (hb : Stay (w.heap.size + 1 + 1) (w.heap.size + 1 + 1 + 1) W5 w') => (⟨hb, hb.cell (by omega) ca0, hb.cell (by omega) ca1, hb.cell (by omega) cd0, hb.cell (by omega) cd1, hb.cell (by omega) cc0, hb.cell (by omega) cc1, hb.cell (by omega) cb0, hb.cell (by omega) cb1⟩ : Stay (w.heap.size + 1 + 1) (w.heap.size + 1 + 1 + 1) W5 w' ∧ w'.cell? ⟨w2.heap.size, 0, none⟩ = some (.bool n_2) ∧ w'.cell? ⟨w2.heap.size, 1, none⟩ = some (.slice a_2 k_2 c_2) ∧ w'.cell? ⟨w4.heap.size + 1, 0, none⟩ = some (.bool n2_4) ∧ w'.cell? ⟨w4.heap.size + 1, 1, none⟩ = some (.slice a2_4 k2_4 c2_4) ∧ w'.cell? ⟨w4.heap.size, 0, none⟩ = some (.bool n_4) ∧ w'.cell? ⟨w4.heap.size, 1, none⟩ = some (.slice a_4 k_4 c_4) ∧ w'.cell? ⟨w2.heap.size + 1, 0, none⟩ = some (.bool n2_2) ∧ w'.cell? ⟨w2.heap.size + 1, 1, none⟩ = some (.slice a2_2 k2_2 c2_2)))
 have HI6 := Lib.hid (fun (w' : World) (hs : Stay (w.heap.size + 1 + 1) (w.heap.size + 1 + 1 + 1) W5 w' ∧ w'.cell? ⟨w2.heap.size, 0, none⟩ = some (.bool n_2) ∧ w'.cell? ⟨w2.heap.size, 1, none⟩ = some (.slice a_2 k_2 c_2) ∧ w'.cell? ⟨w4.heap.size + 1, 0, none⟩ = some (.bool n2_4) ∧ w'.cell? ⟨w4.heap.size + 1, 1, none⟩ = some (.slice a2_4 k2_4 c2_4) ∧ w'.cell? ⟨w4.heap.size, 0, none⟩ = some (.bool n_4) ∧ w'.cell? ⟨w4.heap.size, 1, none⟩ = some (.slice a_4 k_4 c_4) ∧ w'.cell? ⟨w2.heap.size + 1, 0, none⟩ = some (.bool n2_2) ∧ w'.cell? ⟨w2.heap.size + 1, 1, none⟩ = some (.slice a2_2 k2_2 c2_2)) => hs.1)
 have HN6 := Lib.hid (noInt_one (noInt4 BR.out))
 have HS6 := Lib.hid (Stay.refl (w.heap.size + 1 + 1) (w.heap.size + 1 + 1 + 1) W5)
 have HC6 := Lib.hid (Below.drew (Below.refl W5.heap.size W5))
 go_region_held3 (fun w' => Stay (w.heap.size + 1 + 1) (w.heap.size + 1 + 1 + 1) W5 w' ∧ w'.cell? ⟨w2.heap.size, 0, none⟩ = some (.bool n_2) ∧ w'.cell? ⟨w2.heap.size, 1, none⟩ = some (.slice a_2 k_2 c_2) ∧ w'.cell? ⟨w4.heap.size + 1, 0, none⟩ = some (.bool n2_4) ∧ w'.cell? ⟨w4.heap.size + 1, 1, none⟩ = some (.slice a2_4 k2_4 c2_4) ∧ w'.cell? ⟨w4.heap.size, 0, none⟩ = some (.bool n_4) ∧ w'.cell? ⟨w4.heap.size, 1, none⟩ = some (.slice a_4 k_4 c_4) ∧ w'.cell? ⟨w2.heap.size + 1, 0, none⟩ = some (.bool n2_2) ∧ w'.cell? ⟨w2.heap.size + 1, 1, none⟩ = some (.slice a2_2 k2_2 c2_2))
  (first | exact HL6.out _ (Stay.drew HS6.out) | exact HL6.out _ (Stay.next (HI6.out _ (by assumption)) (by assumption)) | exact HL6.out _ (stay_set4 (HI6.out _ (by assumption)) (by omega) (by omega)))
  (first | (go_at_call 74; (with_reducible refine (mul_any (HA.out.stay (HI6.out _ (by assumption)) HN6.out) (HD.out.stay (HI6.out _ (by assumption)) HN6.out) hp1 hq2 (by omega)).mono ?_); rintro e w7 ⟨n_7, a_7, k_7, c_7, rfl, hu_7, hbr7⟩; have HM1 := Lib.hid hu_7; clear hu_7; have HRX7 := Lib.hid (blk_next (w := W5.drew) BR.out hbr7)) | (go_at_call 74; (with_reducible refine (mul_any (HC.out.stay (HI6.out _ (by assumption)) HN6.out) (HBd.out.stay (HI6.out _ (by assumption)) HN6.out) hq1 hp2 (by omega)).mono ?_); rintro e w8 ⟨n_8, a_8, k_8, c_8, rfl, hu_8, hbr8⟩; have HM2 := Lib.hid hu_8; clear hu_8; have HRX8 := Lib.hid (blk_next HRX7.out hbr8)) | (go_at_call 82; (with_reducible refine (add_any (HM1.out.below hbr8) HM2.out d1 d2 (by omega)).mono ?_); rintro e w9 ⟨n_9, a_9, k_9, c_9, rfl, hu_9, hbr9⟩; have HS := Lib.hid hu_9; clear hu_9; have HRX9 := Lib.hid (blk_next HRX8.out hbr9)) | (go_at_call 74; (with_reducible refine (mul_any (HBd.out.stay (HI6.out _ (by assumption)) HN6.out) (HD.out.stay (HI6.out _ (by assumption)) HN6.out) hp2 hq2 (by omega)).mono ?_); rintro e w10 ⟨n_10, a_10, k_10, c_10, rfl, hu_10, hbr10⟩; have HM3 := Lib.hid hu_10; clear hu_10; have HRX10 := Lib.hid (blk_next HRX9.out hbr10)) | (go_at_call 83; (with_reducible refine (reduced_any (HS.out.below hbr10) HM3.out HZ.out d6 d7 (by omega)).mono ?_); rintro e w11 ⟨n_11, a_11, k_11, c_11, n2_11, a2_11, k2_11, c2_11, rfl, hu_11, hv_11, hbr11⟩; have HX := Lib.hid hu_11; have HY := Lib.hid hv_11; clear hu_11 hv_11; have HRX11 := Lib.hid (blk_next HRX10.out hbr11); obtain ⟨⟨d0, d1, d2, d3⟩, e0, e1, e2, e3⟩ := res4_facts HRX11.out))
 go_wp2
 try simp only [Exit.inBlock, Exit.then]
 refine bodyPost_ret (results_cell_row rfl _ _ (w.heap.size + 1 + 1) 37 _ (0, 0) _ rfl (res4_set HRX11.out) Tryz.underlying37 rfl (by kernel_rfl)) rfl ?_
 exact ⟨_, _, _, _, _, _, _, _, rfl, ((HX.out.stay set4_stay (noInt_one (noInt4 HRX11.out))).as (by rw [rat_add p q])), ((HY.out.stay set4_stay (noInt_one (noInt4 HRX11.out))).as (by rw [rat_add p q])), (fin4 (bt HB.out (bt (bt (bt (bt (bt HC6.out hbr7) hbr8) hbr9) hbr10) hbr11)) (by omega))⟩
set_option maxHeartbeats 2000000 in
set_option maxRecDepth 100000 in
theorem ratmul_any {w : World} {v u : Value} {p q : Rat} {N : Nat} (h : RatR w v p) (k : RatR w u q) (hp : Rg N p) (hq : Rg N q) (hN : 2 * N + 2 ≤ 999999999990) :
  Calls Tryz.prog 52 #[v, u] w (GivesP w (p * q)) := by
 obtain ⟨n1, a1, k1, c1, n2, a2, k2, c2, rfl⟩ := h.shape
 obtain ⟨n3, a3, k3, c3, n4, a4, k4, c4, rfl⟩ := k.shape
 have hp1 := hp.1
 have hp2 := hp.2
 have hq1 := hq.1
 have hq2 := hq.2
 have d1 : Dg (N + N) (p.num * q.den) := Dg.mul hp.1 hq.2
 have d2 : Dg (N + N) (q.num * p.den) := Dg.mul hq.1 hp.2
 have d3 : Dg (N + N) ((p.den : Int) * q.den) := Dg.mul hp.2 hq.2
 have d6 := d1.add d2
 have d7 : Dg (N + N + 1) ((p.den : Int) * q.den) := d3.mono (by omega)
 have d4 : Dg (N + N) (p.num * q.num) := Dg.mul hp.1 hq.1
 have d5 : Dg (N + N) ((p.den : Int) * q.num) := Dg.mul hp.2 hq.1
 have HZ := Lib.hid (show (p.den : Int) * q.den ≠ 0 from Int.mul_ne_zero (by have := p.den_nz; omega) (by have := q.den_nz; omega))
 have HP := Lib.hid h
 have HQ := Lib.hid k
 clear h k
 go_enter Tryz.func52, Tryz.ntmps52
 go_wp2_with fail
 obtain ⟨W1, hW, hs, hb, b0, b1, b2⟩ := alloc3 w (.cells #[.bool n1, .slice a1 k1 c1, .bool n2, .slice a2 k2 c2] 37) (.cells #[.bool n3, .slice a3 k3 c3, .bool n4, .slice a4 k4 c4] 37) (.cells #[.bool false, .slice none 0 0, .bool false, .slice none 0 0] 37)
 rw [← hW]
 have HB := Lib.hid hb
 replace HP := Lib.hid (HP.out.below hb)
 replace HQ := Lib.hid (HQ.out.below hb)
 have BP := Lib.hid b0
 have BU := Lib.hid b1
 have BR := Lib.hid b2
 clear hW hs hb b0 b1 b2
 (with_reducible refine (parts_any HP.out).mono ?_)
 rintro e w2 ⟨n_2, a_2, k_2, c_2, n2_2, a2_2, k2_2, c2_2, rfl, hu_2, hv_2, hb⟩
 replace HB := Lib.hid (bt HB.out hb)
 replace HP := Lib.hid (HP.out.below hb)
 replace HQ := Lib.hid (HQ.out.below hb)
 replace BP := Lib.hid (blk_next BP.out hb)
 replace BU := Lib.hid (blk_next BU.out hb)
 replace BR := Lib.hid (blk_next BR.out hb)
 have HA := Lib.hid hu_2
 have HBd := Lib.hid hv_2
 clear hu_2 hv_2
 clear hb
 have lt1_P : w.heap.size < w2.heap.size := (Array.getElem?_eq_some_iff.1 BP.out).1
 have lt2_U : w.heap.size + 1 < w2.heap.size := (Array.getElem?_eq_some_iff.1 BU.out).1
 have lt3_R : w.heap.size + 1 + 1 < w2.heap.size := (Array.getElem?_eq_some_iff.1 BR.out).1
 obtain ⟨⟨cU0, cU1, cU2, cU3⟩, fU0, fU1, fU2, fU3⟩ := res4_facts BU.out
 go_wp2_with fail
 clear cU0 cU1 cU2 cU3 fU0 fU1 fU2 fU3
 obtain ⟨W3, hW, hs, hb, b0, b1⟩ := alloc2 w2 (.cells #[.bool n_2, .slice a_2 k_2 c_2] 35) (.cells #[.bool n2_2, .slice a2_2 k2_2 c2_2] 35)
 rw [← hW]
 replace HB := Lib.hid (bt HB.out hb)
 replace HP := Lib.hid (HP.out.below hb)
 replace HQ := Lib.hid (HQ.out.below hb)
 replace HA := Lib.hid (HA.out.below hb)
 replace HBd := Lib.hid (HBd.out.below hb)
 replace BP := Lib.hid (blk_next BP.out hb)
 replace BU := Lib.hid (blk_next BU.out hb)
 replace BR := Lib.hid (blk_next BR.out hb)
 have Ba := Lib.hid b0
 have Bb := Lib.hid b1
 clear hW hs hb b0 b1
 (with_reducible refine (parts_any HQ.out).mono ?_)
 rintro e w4 ⟨n_4, a_4, k_4, c_4, n2_4, a2_4, k2_4, c2_4, rfl, hu_4, hv_4, hb⟩
 replace HB := Lib.hid (bt HB.out hb)
 replace HP := Lib.hid (HP.out.below hb)
 replace HQ := Lib.hid (HQ.out.below hb)
 replace HA := Lib.hid (HA.out.below hb)
 replace HBd := Lib.hid (HBd.out.below hb)
 replace BP := Lib.hid (blk_next BP.out hb)
 replace BU := Lib.hid (blk_next BU.out hb)
 replace BR := Lib.hid (blk_next BR.out hb)
 replace Ba := Lib.hid (blk_next Ba.out hb)
 replace Bb := Lib.hid (blk_next Bb.out hb)
 have HC := Lib.hid hu_4
 have HD := Lib.hid hv_4
 clear hu_4 hv_4
 clear hb
 have lt4_P : w.heap.size < w4.heap.size := (Array.getElem?_eq_some_iff.1 BP.out).1
 have lt5_U : w.heap.size + 1 < w4.heap.size := (Array.getElem?_eq_some_iff.1 BU.out).1
 have lt6_R : w.heap.size + 1 + 1 < w4.heap.size := (Array.getElem?_eq_some_iff.1 BR.out).1
 have lt7_a : w2.heap.size < w4.heap.size := (Array.getElem?_eq_some_iff.1 Ba.out).1
 have lt8_b : w2.heap.size + 1 < w4.heap.size := (Array.getElem?_eq_some_iff.1 Bb.out).1
 obtain ⟨ca0, ca1, fa0, fa1⟩ := res_facts Ba.out
 obtain ⟨cb0, cb1, fb0, fb1⟩ := res_facts Bb.out
 obtain ⟨⟨cU0, cU1, cU2, cU3⟩, fU0, fU1, fU2, fU3⟩ := res4_facts BU.out
 go_wp2_with fail
 clear ca0 ca1 fa0 fa1 cb0 cb1 fb0 fb1 cU0 cU1 cU2 cU3 fU0 fU1 fU2 fU3
 obtain ⟨W5, hW, hs, hb, b0, b1⟩ := alloc2 w4 (.cells #[.bool n_4, .slice a_4 k_4 c_4] 35) (.cells #[.bool n2_4, .slice a2_4 k2_4 c2_4] 35)
 rw [← hW]
 replace HB := Lib.hid (bt HB.out hb)
 replace HP := Lib.hid (HP.out.below hb)
 replace HQ := Lib.hid (HQ.out.below hb)
 replace HA := Lib.hid (HA.out.below hb)
 replace HBd := Lib.hid (HBd.out.below hb)
 replace HC := Lib.hid (HC.out.below hb)
 replace HD := Lib.hid (HD.out.below hb)
 replace BP := Lib.hid (blk_next BP.out hb)
 replace BU := Lib.hid (blk_next BU.out hb)
 replace BR := Lib.hid (blk_next BR.out hb)
 replace Ba := Lib.hid (blk_next Ba.out hb)
 replace Bb := Lib.hid (blk_next Bb.out hb)
 have Bc := Lib.hid b0
 have Bd := Lib.hid b1
 clear hW hs hb b0 b1
 have lt9_P : w.heap.size < W5.heap.size := (Array.getElem?_eq_some_iff.1 BP.out).1
 have lt10_U : w.heap.size + 1 < W5.heap.size := (Array.getElem?_eq_some_iff.1 BU.out).1
 have lt11_R : w.heap.size + 1 + 1 < W5.heap.size := (Array.getElem?_eq_some_iff.1 BR.out).1
 have lt12_a : w2.heap.size < W5.heap.size := (Array.getElem?_eq_some_iff.1 Ba.out).1
 have lt13_b : w2.heap.size + 1 < W5.heap.size := (Array.getElem?_eq_some_iff.1 Bb.out).1
 have lt14_c : w4.heap.size < W5.heap.size := (Array.getElem?_eq_some_iff.1 Bc.out).1
 have lt15_d : w4.heap.size + 1 < W5.heap.size := (Array.getElem?_eq_some_iff.1 Bd.out).1
 obtain ⟨ca0, ca1, fa0, fa1⟩ := res_facts Ba.out
 obtain ⟨cc0, cc1, fc0, fc1⟩ := res_facts Bc.out
 obtain ⟨cb0, cb1, fb0, fb1⟩ := res_facts Bb.out
 obtain ⟨cd0, cd1, fd0, fd1⟩ := res_facts Bd.out
 have HL6 := Lib.hid (fun (w' : World) (hb : Stay (w.heap.size + 1 + 1) (w.heap.size + 1 + 1 + 1) W5 w') => (⟨hb, hb.cell (by omega) ca0, hb.cell (by omega) ca1, hb.cell (by omega) cc0, hb.cell (by omega) cc1, hb.cell (by omega) cb0, hb.cell (by omega) cb1, hb.cell (by omega) cd0, hb.cell (by omega) cd1⟩ : Stay (w.heap.size + 1 + 1) (w.heap.size + 1 + 1 + 1) W5 w' ∧ w'.cell? ⟨w2.heap.size, 0, none⟩ = some (.bool n_2) ∧ w'.cell? ⟨w2.heap.size, 1, none⟩ = some (.slice a_2 k_2 c_2) ∧ w'.cell? ⟨w4.heap.size, 0, none⟩ = some (.bool n_4) ∧ w'.cell? ⟨w4.heap.size, 1, none⟩ = some (.slice a_4 k_4 c_4) ∧ w'.cell? ⟨w2.heap.size + 1, 0, none⟩ = some (.bool n2_2) ∧ w'.cell? ⟨w2.heap.size + 1, 1, none⟩ = some (.slice a2_2 k2_2 c2_2) ∧ w'.cell? ⟨w4.heap.size + 1, 0, none⟩ = some (.bool n2_4) ∧ w'.cell? ⟨w4.heap.size + 1, 1, none⟩ = some (.slice a2_4 k2_4 c2_4)))
 have HI6 := Lib.hid (fun (w' : World) (hs : Stay (w.heap.size + 1 + 1) (w.heap.size + 1 + 1 + 1) W5 w' ∧ w'.cell? ⟨w2.heap.size, 0, none⟩ = some (.bool n_2) ∧ w'.cell? ⟨w2.heap.size, 1, none⟩ = some (.slice a_2 k_2 c_2) ∧ w'.cell? ⟨w4.heap.size, 0, none⟩ = some (.bool n_4) ∧ w'.cell? ⟨w4.heap.size, 1, none⟩ = some (.slice a_4 k_4 c_4) ∧ w'.cell? ⟨w2.heap.size + 1, 0, none⟩ = some (.bool n2_2) ∧ w'.cell? ⟨w2.heap.size + 1, 1, none⟩ = some (.slice a2_2 k2_2 c2_2) ∧ w'.cell? ⟨w4.heap.size + 1, 0, none⟩ = some (.bool n2_4) ∧ w'.cell? ⟨w4.heap.size + 1, 1, none⟩ = some (.slice a2_4 k2_4 c2_4)) => hs.1)
 have HN6 := Lib.hid (noInt_one (noInt4 BR.out))
 have HS6 := Lib.hid (Stay.refl (w.heap.size + 1 + 1) (w.heap.size + 1 + 1 + 1) W5)
 have HC6 := Lib.hid (Below.drew (Below.refl W5.heap.size W5))
 go_region_held3 (fun w' => Stay (w.heap.size + 1 + 1) (w.heap.size + 1 + 1 + 1) W5 w' ∧ w'.cell? ⟨w2.heap.size, 0, none⟩ = some (.bool n_2) ∧ w'.cell? ⟨w2.heap.size, 1, none⟩ = some (.slice a_2 k_2 c_2) ∧ w'.cell? ⟨w4.heap.size, 0, none⟩ = some (.bool n_4) ∧ w'.cell? ⟨w4.heap.size, 1, none⟩ = some (.slice a_4 k_4 c_4) ∧ w'.cell? ⟨w2.heap.size + 1, 0, none⟩ = some (.bool n2_2) ∧ w'.cell? ⟨w2.heap.size + 1, 1, none⟩ = some (.slice a2_2 k2_2 c2_2) ∧ w'.cell? ⟨w4.heap.size + 1, 0, none⟩ = some (.bool n2_4) ∧ w'.cell? ⟨w4.heap.size + 1, 1, none⟩ = some (.slice a2_4 k2_4 c2_4))
  (first | exact HL6.out _ (Stay.drew HS6.out) | exact HL6.out _ (Stay.next (HI6.out _ (by assumption)) (by assumption)) | exact HL6.out _ (stay_set4 (HI6.out _ (by assumption)) (by omega) (by omega)))
  (first | (go_at_call 74; (with_reducible refine (mul_any (HA.out.stay (HI6.out _ (by assumption)) HN6.out) (HC.out.stay (HI6.out _ (by assumption)) HN6.out) hp1 hq1 (by omega)).mono ?_); rintro e w7 ⟨n_7, a_7, k_7, c_7, rfl, hu_7, hbr7⟩; have HM1 := Lib.hid hu_7; clear hu_7; have HRX7 := Lib.hid (blk_next (w := W5.drew) BR.out hbr7)) | (go_at_call 74; (with_reducible refine (mul_any (HBd.out.stay (HI6.out _ (by assumption)) HN6.out) (HD.out.stay (HI6.out _ (by assumption)) HN6.out) hp2 hq2 (by omega)).mono ?_); rintro e w8 ⟨n_8, a_8, k_8, c_8, rfl, hu_8, hbr8⟩; have HM3 := Lib.hid hu_8; clear hu_8; have HRX8 := Lib.hid (blk_next HRX7.out hbr8)) | (go_at_call 83; (with_reducible refine (reduced_any (HM1.out.below hbr8) HM3.out HZ.out d4 d3 (by omega)).mono ?_); rintro e w9 ⟨n_9, a_9, k_9, c_9, n2_9, a2_9, k2_9, c2_9, rfl, hu_9, hv_9, hbr9⟩; have HX := Lib.hid hu_9; have HY := Lib.hid hv_9; clear hu_9 hv_9; have HRX9 := Lib.hid (blk_next HRX8.out hbr9); obtain ⟨⟨d0, d1, d2, d3⟩, e0, e1, e2, e3⟩ := res4_facts HRX9.out))
 go_wp2
 try simp only [Exit.inBlock, Exit.then]
 refine bodyPost_ret (results_cell_row rfl _ _ (w.heap.size + 1 + 1) 37 _ (0, 0) _ rfl (res4_set HRX9.out) Tryz.underlying37 rfl (by kernel_rfl)) rfl ?_
 exact ⟨_, _, _, _, _, _, _, _, rfl, ((HX.out.stay set4_stay (noInt_one (noInt4 HRX9.out))).as (by rw [rat_mul p q])), ((HY.out.stay set4_stay (noInt_one (noInt4 HRX9.out))).as (by rw [rat_mul p q])), (fin4 (bt HB.out (bt (bt (bt HC6.out hbr7) hbr8) hbr9)) (by omega))⟩
set_option maxHeartbeats 2000000 in
set_option maxRecDepth 100000 in
theorem ratdiv_any {w : World} {v u : Value} {p q : Rat} {N : Nat} (h : RatR w v p) (k : RatR w u q) (hp : Rg N p) (hq : Rg N q) (hN : 2 * N + 2 ≤ 999999999990) (h0 : q ≠ 0) :
  Calls Tryz.prog 86 #[v, u] w (GivesPE w (p / q) 0) := by
 obtain ⟨n1, a1, k1, c1, n2, a2, k2, c2, rfl⟩ := h.shape
 obtain ⟨n3, a3, k3, c3, n4, a4, k4, c4, rfl⟩ := k.shape
 have hp1 := hp.1
 have hp2 := hp.2
 have hq1 := hq.1
 have hq2 := hq.2
 have d1 : Dg (N + N) (p.num * q.den) := Dg.mul hp.1 hq.2
 have d2 : Dg (N + N) (q.num * p.den) := Dg.mul hq.1 hp.2
 have d3 : Dg (N + N) ((p.den : Int) * q.den) := Dg.mul hp.2 hq.2
 have d6 := d1.add d2
 have d7 : Dg (N + N + 1) ((p.den : Int) * q.den) := d3.mono (by omega)
 have d4 : Dg (N + N) (p.num * q.num) := Dg.mul hp.1 hq.1
 have d5 : Dg (N + N) ((p.den : Int) * q.num) := Dg.mul hp.2 hq.1
 have HZ := Lib.hid (show (p.den : Int) * q.den ≠ 0 from Int.mul_ne_zero (by have := p.den_nz; omega) (by have := q.den_nz; omega))
 have HZ2 := Lib.hid (show (p.den : Int) * q.num ≠ 0 from Int.mul_ne_zero (by have := p.den_nz; omega) (fun e => h0 ((sign_num q).1 e)))
 clear h0
 have HP := Lib.hid h
 have HQ := Lib.hid k
 clear h k
 go_enter Tryz.func86, Tryz.ntmps86
 go_wp2_with fail
 obtain ⟨W1, hW, hs, hb, b0, b1, b2⟩ := alloc3 w (.cells #[.bool n1, .slice a1 k1 c1, .bool n2, .slice a2 k2 c2] 37) (.cells #[.bool n3, .slice a3 k3 c3, .bool n4, .slice a4 k4 c4] 37) (.cells #[.bool false, .slice none 0 0, .bool false, .slice none 0 0] 37)
 rw [← hW]
 have HB := Lib.hid hb
 replace HP := Lib.hid (HP.out.below hb)
 replace HQ := Lib.hid (HQ.out.below hb)
 have BP := Lib.hid b0
 have BU := Lib.hid b1
 have BR := Lib.hid b2
 clear hW hs hb b0 b1 b2
 (with_reducible refine (parts_any HP.out).mono ?_)
 rintro e w2 ⟨n_2, a_2, k_2, c_2, n2_2, a2_2, k2_2, c2_2, rfl, hu_2, hv_2, hb⟩
 replace HB := Lib.hid (bt HB.out hb)
 replace HP := Lib.hid (HP.out.below hb)
 replace HQ := Lib.hid (HQ.out.below hb)
 replace BP := Lib.hid (blk_next BP.out hb)
 replace BU := Lib.hid (blk_next BU.out hb)
 replace BR := Lib.hid (blk_next BR.out hb)
 have HA := Lib.hid hu_2
 have HBd := Lib.hid hv_2
 clear hu_2 hv_2
 clear hb
 have lt1_P : w.heap.size < w2.heap.size := (Array.getElem?_eq_some_iff.1 BP.out).1
 have lt2_U : w.heap.size + 1 < w2.heap.size := (Array.getElem?_eq_some_iff.1 BU.out).1
 have lt3_R : w.heap.size + 1 + 1 < w2.heap.size := (Array.getElem?_eq_some_iff.1 BR.out).1
 obtain ⟨⟨cU0, cU1, cU2, cU3⟩, fU0, fU1, fU2, fU3⟩ := res4_facts BU.out
 go_wp2_with fail
 clear cU0 cU1 cU2 cU3 fU0 fU1 fU2 fU3
 obtain ⟨W3, hW, hs, hb, b0, b1⟩ := alloc2 w2 (.cells #[.bool n_2, .slice a_2 k_2 c_2] 35) (.cells #[.bool n2_2, .slice a2_2 k2_2 c2_2] 35)
 rw [← hW]
 replace HB := Lib.hid (bt HB.out hb)
 replace HP := Lib.hid (HP.out.below hb)
 replace HQ := Lib.hid (HQ.out.below hb)
 replace HA := Lib.hid (HA.out.below hb)
 replace HBd := Lib.hid (HBd.out.below hb)
 replace BP := Lib.hid (blk_next BP.out hb)
 replace BU := Lib.hid (blk_next BU.out hb)
 replace BR := Lib.hid (blk_next BR.out hb)
 have Ba := Lib.hid b0
 have Bb := Lib.hid b1
 clear hW hs hb b0 b1
 (with_reducible refine (parts_any HQ.out).mono ?_)
 rintro e w4 ⟨n_4, a_4, k_4, c_4, n2_4, a2_4, k2_4, c2_4, rfl, hu_4, hv_4, hb⟩
 replace HB := Lib.hid (bt HB.out hb)
 replace HP := Lib.hid (HP.out.below hb)
 replace HQ := Lib.hid (HQ.out.below hb)
 replace HA := Lib.hid (HA.out.below hb)
 replace HBd := Lib.hid (HBd.out.below hb)
 replace BP := Lib.hid (blk_next BP.out hb)
 replace BU := Lib.hid (blk_next BU.out hb)
 replace BR := Lib.hid (blk_next BR.out hb)
 replace Ba := Lib.hid (blk_next Ba.out hb)
 replace Bb := Lib.hid (blk_next Bb.out hb)
 have HC := Lib.hid hu_4
 have HD := Lib.hid hv_4
 clear hu_4 hv_4
 clear hb
 have lt4_P : w.heap.size < w4.heap.size := (Array.getElem?_eq_some_iff.1 BP.out).1
 have lt5_U : w.heap.size + 1 < w4.heap.size := (Array.getElem?_eq_some_iff.1 BU.out).1
 have lt6_R : w.heap.size + 1 + 1 < w4.heap.size := (Array.getElem?_eq_some_iff.1 BR.out).1
 have lt7_a : w2.heap.size < w4.heap.size := (Array.getElem?_eq_some_iff.1 Ba.out).1
 have lt8_b : w2.heap.size + 1 < w4.heap.size := (Array.getElem?_eq_some_iff.1 Bb.out).1
 obtain ⟨ca0, ca1, fa0, fa1⟩ := res_facts Ba.out
 obtain ⟨cb0, cb1, fb0, fb1⟩ := res_facts Bb.out
 obtain ⟨⟨cU0, cU1, cU2, cU3⟩, fU0, fU1, fU2, fU3⟩ := res4_facts BU.out
 go_wp2_with fail
 clear ca0 ca1 fa0 fa1 cb0 cb1 fb0 fb1 cU0 cU1 cU2 cU3 fU0 fU1 fU2 fU3
 obtain ⟨W5, hW, hs, hb, b0, b1⟩ := alloc2 w4 (.cells #[.bool n_4, .slice a_4 k_4 c_4] 35) (.cells #[.bool n2_4, .slice a2_4 k2_4 c2_4] 35)
 rw [← hW]
 replace HB := Lib.hid (bt HB.out hb)
 replace HP := Lib.hid (HP.out.below hb)
 replace HQ := Lib.hid (HQ.out.below hb)
 replace HA := Lib.hid (HA.out.below hb)
 replace HBd := Lib.hid (HBd.out.below hb)
 replace HC := Lib.hid (HC.out.below hb)
 replace HD := Lib.hid (HD.out.below hb)
 replace BP := Lib.hid (blk_next BP.out hb)
 replace BU := Lib.hid (blk_next BU.out hb)
 replace BR := Lib.hid (blk_next BR.out hb)
 replace Ba := Lib.hid (blk_next Ba.out hb)
 replace Bb := Lib.hid (blk_next Bb.out hb)
 have Bc := Lib.hid b0
 have Bd := Lib.hid b1
 clear hW hs hb b0 b1
 have lt9_P : w.heap.size < W5.heap.size := (Array.getElem?_eq_some_iff.1 BP.out).1
 have lt10_U : w.heap.size + 1 < W5.heap.size := (Array.getElem?_eq_some_iff.1 BU.out).1
 have lt11_R : w.heap.size + 1 + 1 < W5.heap.size := (Array.getElem?_eq_some_iff.1 BR.out).1
 have lt12_a : w2.heap.size < W5.heap.size := (Array.getElem?_eq_some_iff.1 Ba.out).1
 have lt13_b : w2.heap.size + 1 < W5.heap.size := (Array.getElem?_eq_some_iff.1 Bb.out).1
 have lt14_c : w4.heap.size < W5.heap.size := (Array.getElem?_eq_some_iff.1 Bc.out).1
 have lt15_d : w4.heap.size + 1 < W5.heap.size := (Array.getElem?_eq_some_iff.1 Bd.out).1
 obtain ⟨ca0, ca1, fa0, fa1⟩ := res_facts Ba.out
 obtain ⟨cd0, cd1, fd0, fd1⟩ := res_facts Bd.out
 obtain ⟨cb0, cb1, fb0, fb1⟩ := res_facts Bb.out
 obtain ⟨cc0, cc1, fc0, fc1⟩ := res_facts Bc.out
 have HL6 := Lib.hid (fun (w' : World) (hb : Stay (w.heap.size + 1 + 1) (w.heap.size + 1 + 1 + 1) W5 w') => (⟨hb, hb.cell (by omega) ca0, hb.cell (by omega) ca1, hb.cell (by omega) cd0, hb.cell (by omega) cd1, hb.cell (by omega) cb0, hb.cell (by omega) cb1, hb.cell (by omega) cc0, hb.cell (by omega) cc1⟩ : Stay (w.heap.size + 1 + 1) (w.heap.size + 1 + 1 + 1) W5 w' ∧ w'.cell? ⟨w2.heap.size, 0, none⟩ = some (.bool n_2) ∧ w'.cell? ⟨w2.heap.size, 1, none⟩ = some (.slice a_2 k_2 c_2) ∧ w'.cell? ⟨w4.heap.size + 1, 0, none⟩ = some (.bool n2_4) ∧ w'.cell? ⟨w4.heap.size + 1, 1, none⟩ = some (.slice a2_4 k2_4 c2_4) ∧ w'.cell? ⟨w2.heap.size + 1, 0, none⟩ = some (.bool n2_2) ∧ w'.cell? ⟨w2.heap.size + 1, 1, none⟩ = some (.slice a2_2 k2_2 c2_2) ∧ w'.cell? ⟨w4.heap.size, 0, none⟩ = some (.bool n_4) ∧ w'.cell? ⟨w4.heap.size, 1, none⟩ = some (.slice a_4 k_4 c_4)))
 have HI6 := Lib.hid (fun (w' : World) (hs : Stay (w.heap.size + 1 + 1) (w.heap.size + 1 + 1 + 1) W5 w' ∧ w'.cell? ⟨w2.heap.size, 0, none⟩ = some (.bool n_2) ∧ w'.cell? ⟨w2.heap.size, 1, none⟩ = some (.slice a_2 k_2 c_2) ∧ w'.cell? ⟨w4.heap.size + 1, 0, none⟩ = some (.bool n2_4) ∧ w'.cell? ⟨w4.heap.size + 1, 1, none⟩ = some (.slice a2_4 k2_4 c2_4) ∧ w'.cell? ⟨w2.heap.size + 1, 0, none⟩ = some (.bool n2_2) ∧ w'.cell? ⟨w2.heap.size + 1, 1, none⟩ = some (.slice a2_2 k2_2 c2_2) ∧ w'.cell? ⟨w4.heap.size, 0, none⟩ = some (.bool n_4) ∧ w'.cell? ⟨w4.heap.size, 1, none⟩ = some (.slice a_4 k_4 c_4)) => hs.1)
 have HN6 := Lib.hid (noInt_one (noInt4 BR.out))
 have HS6 := Lib.hid (Stay.refl (w.heap.size + 1 + 1) (w.heap.size + 1 + 1 + 1) W5)
 have HC6 := Lib.hid (Below.drew (Below.refl W5.heap.size W5))
 go_region_held3 (fun w' => Stay (w.heap.size + 1 + 1) (w.heap.size + 1 + 1 + 1) W5 w' ∧ w'.cell? ⟨w2.heap.size, 0, none⟩ = some (.bool n_2) ∧ w'.cell? ⟨w2.heap.size, 1, none⟩ = some (.slice a_2 k_2 c_2) ∧ w'.cell? ⟨w4.heap.size + 1, 0, none⟩ = some (.bool n2_4) ∧ w'.cell? ⟨w4.heap.size + 1, 1, none⟩ = some (.slice a2_4 k2_4 c2_4) ∧ w'.cell? ⟨w2.heap.size + 1, 0, none⟩ = some (.bool n2_2) ∧ w'.cell? ⟨w2.heap.size + 1, 1, none⟩ = some (.slice a2_2 k2_2 c2_2) ∧ w'.cell? ⟨w4.heap.size, 0, none⟩ = some (.bool n_4) ∧ w'.cell? ⟨w4.heap.size, 1, none⟩ = some (.slice a_4 k_4 c_4))
  (first | exact HL6.out _ (Stay.drew HS6.out) | exact HL6.out _ (Stay.next (HI6.out _ (by assumption)) (by assumption)) | exact HL6.out _ (stay_set4 (HI6.out _ (by assumption)) (by omega) (by omega)))
  (first | (go_at_call 74; (with_reducible refine (mul_any (HA.out.stay (HI6.out _ (by assumption)) HN6.out) (HD.out.stay (HI6.out _ (by assumption)) HN6.out) hp1 hq2 (by omega)).mono ?_); rintro e w7 ⟨n_7, a_7, k_7, c_7, rfl, hu_7, hbr7⟩; have HM1 := Lib.hid hu_7; clear hu_7; have HRX7 := Lib.hid (blk_next (w := W5.drew) BR.out hbr7)) | (go_at_call 74; (with_reducible refine (mul_any (HBd.out.stay (HI6.out _ (by assumption)) HN6.out) (HC.out.stay (HI6.out _ (by assumption)) HN6.out) hp2 hq1 (by omega)).mono ?_); rintro e w8 ⟨n_8, a_8, k_8, c_8, rfl, hu_8, hbr8⟩; have HM3 := Lib.hid hu_8; clear hu_8; have HRX8 := Lib.hid (blk_next HRX7.out hbr8)) | (go_at_call 79; (with_reducible refine (new_any (HM1.out.below hbr8) HM3.out HZ2.out d1 d5 (by omega)).mono ?_); rintro e w9 ⟨n_9, a_9, k_9, c_9, n2_9, a2_9, k2_9, c2_9, rfl, hu_9, hv_9, hbr9⟩; have HX := Lib.hid hu_9; have HY := Lib.hid hv_9; clear hu_9 hv_9; have HRX9 := Lib.hid (blk_next HRX8.out hbr9); obtain ⟨⟨d0, d1, d2, d3⟩, e0, e1, e2, e3⟩ := res4_facts HRX9.out))
 go_wp2
 try simp only [Exit.inBlock, Exit.then]
 refine bodyPost_ret (results_cell_slot rfl _ _ (w.heap.size + 1 + 1) 37 _ (0, 0) _ (.int .i64 0) rfl rfl (res4_set HRX9.out) Tryz.underlying37 rfl (by kernel_rfl)) rfl ?_
 exact ⟨_, _, _, _, _, _, _, _, rfl, ((HX.out.stay set4_stay (noInt_one (noInt4 HRX9.out))).as (by rw [rat_div p q])), ((HY.out.stay set4_stay (noInt_one (noInt4 HRX9.out))).as (by rw [rat_div p q])), (fin4 (bt HB.out (bt (bt (bt HC6.out hbr7) hbr8) hbr9)) (by omega))⟩
set_option maxHeartbeats 2000000 in
set_option maxRecDepth 100000 in
theorem ratcmp_any {w : World} {v u : Value} {p q : Rat} {N : Nat} (h : RatR w v p) (k : RatR w u q) (hp : Rg N p) (hq : Rg N q) (hN : 2 * N + 2 ≤ 999999999990) :
  Calls Tryz.prog 20 #[v, u] w (fun e w' => e = .returned (.int .i64 (p.num * q.den - q.num * p.den).sign) ∧ Below w.heap.size w w') := by
 obtain ⟨n1, a1, k1, c1, n2, a2, k2, c2, rfl⟩ := h.shape
 obtain ⟨n3, a3, k3, c3, n4, a4, k4, c4, rfl⟩ := k.shape
 have hp1 := hp.1
 have hp2 := hp.2
 have hq1 := hq.1
 have hq2 := hq.2
 have d1 : Dg (N + N) (p.num * q.den) := Dg.mul hp.1 hq.2
 have d2 : Dg (N + N) (q.num * p.den) := Dg.mul hq.1 hp.2
 have d3 : Dg (N + N) ((p.den : Int) * q.den) := Dg.mul hp.2 hq.2
 have d6 := d1.add d2
 have d7 : Dg (N + N + 1) ((p.den : Int) * q.den) := d3.mono (by omega)
 have d4 : Dg (N + N) (p.num * q.num) := Dg.mul hp.1 hq.1
 have d5 : Dg (N + N) ((p.den : Int) * q.num) := Dg.mul hp.2 hq.1
 have HZ := Lib.hid (show (p.den : Int) * q.den ≠ 0 from Int.mul_ne_zero (by have := p.den_nz; omega) (by have := q.den_nz; omega))
 have HP := Lib.hid h
 have HQ := Lib.hid k
 clear h k
 go_enter Tryz.func20, Tryz.ntmps20
 go_wp2_with fail
 obtain ⟨W1, hW, hs, hb, b0, b1⟩ := alloc2 w (.cells #[.bool n1, .slice a1 k1 c1, .bool n2, .slice a2 k2 c2] 37) (.cells #[.bool n3, .slice a3 k3 c3, .bool n4, .slice a4 k4 c4] 37)
 rw [← hW]
 have HB := Lib.hid hb
 replace HP := Lib.hid (HP.out.below hb)
 replace HQ := Lib.hid (HQ.out.below hb)
 have BP := Lib.hid b0
 have BU := Lib.hid b1
 clear hW hs hb b0 b1
 (with_reducible refine (parts_any HP.out).mono ?_)
 rintro e w2 ⟨n_2, a_2, k_2, c_2, n2_2, a2_2, k2_2, c2_2, rfl, hu_2, hv_2, hb⟩
 replace HB := Lib.hid (bt HB.out hb)
 replace HP := Lib.hid (HP.out.below hb)
 replace HQ := Lib.hid (HQ.out.below hb)
 replace BP := Lib.hid (blk_next BP.out hb)
 replace BU := Lib.hid (blk_next BU.out hb)
 have HA := Lib.hid hu_2
 have HBd := Lib.hid hv_2
 clear hu_2 hv_2
 clear hb
 have lt1_P : w.heap.size < w2.heap.size := (Array.getElem?_eq_some_iff.1 BP.out).1
 have lt2_U : w.heap.size + 1 < w2.heap.size := (Array.getElem?_eq_some_iff.1 BU.out).1
 obtain ⟨⟨cU0, cU1, cU2, cU3⟩, fU0, fU1, fU2, fU3⟩ := res4_facts BU.out
 go_wp2_with fail
 clear cU0 cU1 cU2 cU3 fU0 fU1 fU2 fU3
 obtain ⟨W3, hW, hs, hb, b0, b1⟩ := alloc2 w2 (.cells #[.bool n_2, .slice a_2 k_2 c_2] 35) (.cells #[.bool n2_2, .slice a2_2 k2_2 c2_2] 35)
 rw [← hW]
 replace HB := Lib.hid (bt HB.out hb)
 replace HP := Lib.hid (HP.out.below hb)
 replace HQ := Lib.hid (HQ.out.below hb)
 replace HA := Lib.hid (HA.out.below hb)
 replace HBd := Lib.hid (HBd.out.below hb)
 replace BP := Lib.hid (blk_next BP.out hb)
 replace BU := Lib.hid (blk_next BU.out hb)
 have Ba := Lib.hid b0
 have Bb := Lib.hid b1
 clear hW hs hb b0 b1
 (with_reducible refine (parts_any HQ.out).mono ?_)
 rintro e w4 ⟨n_4, a_4, k_4, c_4, n2_4, a2_4, k2_4, c2_4, rfl, hu_4, hv_4, hb⟩
 replace HB := Lib.hid (bt HB.out hb)
 replace HP := Lib.hid (HP.out.below hb)
 replace HQ := Lib.hid (HQ.out.below hb)
 replace HA := Lib.hid (HA.out.below hb)
 replace HBd := Lib.hid (HBd.out.below hb)
 replace BP := Lib.hid (blk_next BP.out hb)
 replace BU := Lib.hid (blk_next BU.out hb)
 replace Ba := Lib.hid (blk_next Ba.out hb)
 replace Bb := Lib.hid (blk_next Bb.out hb)
 have HC := Lib.hid hu_4
 have HD := Lib.hid hv_4
 clear hu_4 hv_4
 clear hb
 have lt3_P : w.heap.size < w4.heap.size := (Array.getElem?_eq_some_iff.1 BP.out).1
 have lt4_U : w.heap.size + 1 < w4.heap.size := (Array.getElem?_eq_some_iff.1 BU.out).1
 have lt5_a : w2.heap.size < w4.heap.size := (Array.getElem?_eq_some_iff.1 Ba.out).1
 have lt6_b : w2.heap.size + 1 < w4.heap.size := (Array.getElem?_eq_some_iff.1 Bb.out).1
 obtain ⟨ca0, ca1, fa0, fa1⟩ := res_facts Ba.out
 obtain ⟨cb0, cb1, fb0, fb1⟩ := res_facts Bb.out
 obtain ⟨⟨cU0, cU1, cU2, cU3⟩, fU0, fU1, fU2, fU3⟩ := res4_facts BU.out
 go_wp2_with fail
 clear ca0 ca1 fa0 fa1 cb0 cb1 fb0 fb1 cU0 cU1 cU2 cU3 fU0 fU1 fU2 fU3
 obtain ⟨W5, hW, hs, hb, b0, b1⟩ := alloc2 w4 (.cells #[.bool n_4, .slice a_4 k_4 c_4] 35) (.cells #[.bool n2_4, .slice a2_4 k2_4 c2_4] 35)
 rw [← hW]
 replace HB := Lib.hid (bt HB.out hb)
 replace HP := Lib.hid (HP.out.below hb)
 replace HQ := Lib.hid (HQ.out.below hb)
 replace HA := Lib.hid (HA.out.below hb)
 replace HBd := Lib.hid (HBd.out.below hb)
 replace HC := Lib.hid (HC.out.below hb)
 replace HD := Lib.hid (HD.out.below hb)
 replace BP := Lib.hid (blk_next BP.out hb)
 replace BU := Lib.hid (blk_next BU.out hb)
 replace Ba := Lib.hid (blk_next Ba.out hb)
 replace Bb := Lib.hid (blk_next Bb.out hb)
 have Bc := Lib.hid b0
 have Bd := Lib.hid b1
 clear hW hs hb b0 b1
 have lt7_P : w.heap.size < W5.heap.size := (Array.getElem?_eq_some_iff.1 BP.out).1
 have lt8_U : w.heap.size + 1 < W5.heap.size := (Array.getElem?_eq_some_iff.1 BU.out).1
 have lt9_a : w2.heap.size < W5.heap.size := (Array.getElem?_eq_some_iff.1 Ba.out).1
 have lt10_b : w2.heap.size + 1 < W5.heap.size := (Array.getElem?_eq_some_iff.1 Bb.out).1
 have lt11_c : w4.heap.size < W5.heap.size := (Array.getElem?_eq_some_iff.1 Bc.out).1
 have lt12_d : w4.heap.size + 1 < W5.heap.size := (Array.getElem?_eq_some_iff.1 Bd.out).1
 obtain ⟨ca0, ca1, fa0, fa1⟩ := res_facts Ba.out
 obtain ⟨cd0, cd1, fd0, fd1⟩ := res_facts Bd.out
 obtain ⟨cc0, cc1, fc0, fc1⟩ := res_facts Bc.out
 obtain ⟨cb0, cb1, fb0, fb1⟩ := res_facts Bb.out
 have HL6 := Lib.hid (fun (w' : World) (hb : Below W5.heap.size W5 w') => (⟨hb, keepc hb ca0, keepc hb ca1, keepc hb cd0, keepc hb cd1, keepc hb cc0, keepc hb cc1, keepc hb cb0, keepc hb cb1⟩ : Below W5.heap.size W5 w' ∧ w'.cell? ⟨w2.heap.size, 0, none⟩ = some (.bool n_2) ∧ w'.cell? ⟨w2.heap.size, 1, none⟩ = some (.slice a_2 k_2 c_2) ∧ w'.cell? ⟨w4.heap.size + 1, 0, none⟩ = some (.bool n2_4) ∧ w'.cell? ⟨w4.heap.size + 1, 1, none⟩ = some (.slice a2_4 k2_4 c2_4) ∧ w'.cell? ⟨w4.heap.size, 0, none⟩ = some (.bool n_4) ∧ w'.cell? ⟨w4.heap.size, 1, none⟩ = some (.slice a_4 k_4 c_4) ∧ w'.cell? ⟨w2.heap.size + 1, 0, none⟩ = some (.bool n2_2) ∧ w'.cell? ⟨w2.heap.size + 1, 1, none⟩ = some (.slice a2_2 k2_2 c2_2)))
 have HI6 := Lib.hid (fun (w' : World) (hs : Below W5.heap.size W5 w' ∧ w'.cell? ⟨w2.heap.size, 0, none⟩ = some (.bool n_2) ∧ w'.cell? ⟨w2.heap.size, 1, none⟩ = some (.slice a_2 k_2 c_2) ∧ w'.cell? ⟨w4.heap.size + 1, 0, none⟩ = some (.bool n2_4) ∧ w'.cell? ⟨w4.heap.size + 1, 1, none⟩ = some (.slice a2_4 k2_4 c2_4) ∧ w'.cell? ⟨w4.heap.size, 0, none⟩ = some (.bool n_4) ∧ w'.cell? ⟨w4.heap.size, 1, none⟩ = some (.slice a_4 k_4 c_4) ∧ w'.cell? ⟨w2.heap.size + 1, 0, none⟩ = some (.bool n2_2) ∧ w'.cell? ⟨w2.heap.size + 1, 1, none⟩ = some (.slice a2_2 k2_2 c2_2)) => hs.1)
 have HS6 := Lib.hid (Below.refl W5.heap.size W5)
 have HC6 := Lib.hid (Below.drew (Below.refl W5.heap.size W5))
 go_region_held3 (fun w' => Below W5.heap.size W5 w' ∧ w'.cell? ⟨w2.heap.size, 0, none⟩ = some (.bool n_2) ∧ w'.cell? ⟨w2.heap.size, 1, none⟩ = some (.slice a_2 k_2 c_2) ∧ w'.cell? ⟨w4.heap.size + 1, 0, none⟩ = some (.bool n2_4) ∧ w'.cell? ⟨w4.heap.size + 1, 1, none⟩ = some (.slice a2_4 k2_4 c2_4) ∧ w'.cell? ⟨w4.heap.size, 0, none⟩ = some (.bool n_4) ∧ w'.cell? ⟨w4.heap.size, 1, none⟩ = some (.slice a_4 k_4 c_4) ∧ w'.cell? ⟨w2.heap.size + 1, 0, none⟩ = some (.bool n2_2) ∧ w'.cell? ⟨w2.heap.size + 1, 1, none⟩ = some (.slice a2_2 k2_2 c2_2))
  (first | exact HL6.out _ (Below.drew HS6.out) | exact HL6.out _ (bt (HI6.out _ (by assumption)) (by assumption)))
  (first | (go_at_call 74; (with_reducible refine (mul_any (HA.out.below (HI6.out _ (by assumption))) (HD.out.below (HI6.out _ (by assumption))) hp1 hq2 (by omega)).mono ?_); rintro e w7 ⟨n_7, a_7, k_7, c_7, rfl, hu_7, hbr7⟩; have HM1 := Lib.hid hu_7; clear hu_7) | (go_at_call 74; (with_reducible refine (mul_any (HC.out.below (HI6.out _ (by assumption))) (HBd.out.below (HI6.out _ (by assumption))) hq1 hp2 (by omega)).mono ?_); rintro e w8 ⟨n_8, a_8, k_8, c_8, rfl, hu_8, hbr8⟩; have HM2 := Lib.hid hu_8; clear hu_8) | (go_at_call 73; (with_reducible refine (cmp_any (HM1.out.below hbr8) HM2.out).mono ?_); rintro e w9 ⟨rfl, hbr9⟩))
 clear ca0 ca1 fa0 fa1 cd0 cd1 fd0 fd1 cc0 cc1 fc0 fc1 cb0 cb1 fb0 fb1
 have hbR := (bt (bt (bt HC6.out hbr7) hbr8) hbr9)
 replace HA := Lib.hid (HA.out.below hbR)
 replace HBd := Lib.hid (HBd.out.below hbR)
 replace HC := Lib.hid (HC.out.below hbR)
 replace HD := Lib.hid (HD.out.below hbR)
 replace HM1 := Lib.hid ((HM1.out.below hbr8).below hbr9)
 replace HM2 := Lib.hid (HM2.out.below hbr9)
 replace HB := Lib.hid (bt HB.out hbR)
 replace BP := Lib.hid (blk_next BP.out hbR)
 replace BU := Lib.hid (blk_next BU.out hbR)
 replace Ba := Lib.hid (blk_next Ba.out hbR)
 replace Bb := Lib.hid (blk_next Bb.out hbR)
 replace Bc := Lib.hid (blk_next Bc.out hbR)
 replace Bd := Lib.hid (blk_next Bd.out hbR)
 clear hbR hbr7 hbr8 hbr9
 go_wp2
 go_ret
 exact ⟨rfl, HB.out⟩
set_option maxHeartbeats 2000000 in
set_option maxRecDepth 100000 in
theorem ratsub_any {w : World} {v u : Value} {p q : Rat} {N : Nat} (h : RatR w v p) (k : RatR w u q) (hp : Rg N p) (hq : Rg N q) (hN : 2 * N + 2 ≤ 999999999990) :
  Calls Tryz.prog 103 #[v, u] w (GivesP w (p - q)) := by
 obtain ⟨n1, a1, k1, c1, n2, a2, k2, c2, rfl⟩ := h.shape
 obtain ⟨n3, a3, k3, c3, n4, a4, k4, c4, rfl⟩ := k.shape
 have hq' : Rg N (-q) := ⟨by rw [Rat.neg_num]; exact hq.1.neg, hq.2⟩
 have HP := Lib.hid h
 have HQ := Lib.hid k
 clear h k
 go_enter Tryz.func103, Tryz.ntmps103
 go_wp2_with fail
 obtain ⟨W1, hW, hs, hb, b0, b1, b2⟩ := alloc3 w (.cells #[.bool n1, .slice a1 k1 c1, .bool n2, .slice a2 k2 c2] 37) (.cells #[.bool n3, .slice a3 k3 c3, .bool n4, .slice a4 k4 c4] 37) (.cells #[.bool false, .slice none 0 0, .bool false, .slice none 0 0] 37)
 rw [← hW]
 have HB := Lib.hid hb
 replace HP := Lib.hid (HP.out.below hb)
 replace HQ := Lib.hid (HQ.out.below hb)
 have BP := Lib.hid b0
 have BU := Lib.hid b1
 have BR := Lib.hid b2
 clear hW hs hb b0 b1 b2
 have lt1_P : w.heap.size < W1.heap.size := (Array.getElem?_eq_some_iff.1 BP.out).1
 have lt2_U : w.heap.size + 1 < W1.heap.size := (Array.getElem?_eq_some_iff.1 BU.out).1
 have lt3_R : w.heap.size + 1 + 1 < W1.heap.size := (Array.getElem?_eq_some_iff.1 BR.out).1
 obtain ⟨⟨cP0, cP1, cP2, cP3⟩, fP0, fP1, fP2, fP3⟩ := res4_facts BP.out
 obtain ⟨⟨cU0, cU1, cU2, cU3⟩, fU0, fU1, fU2, fU3⟩ := res4_facts BU.out
 have HL2 := Lib.hid (fun (w' : World) (hb : Stay (w.heap.size + 1 + 1) (w.heap.size + 1 + 1 + 1) W1 w') => (⟨hb, hb.cell (by omega) cP0, hb.cell (by omega) cP1, hb.cell (by omega) cP2, hb.cell (by omega) cP3, hb.cell (by omega) cU0, hb.cell (by omega) cU1, hb.cell (by omega) cU2, hb.cell (by omega) cU3⟩ : Stay (w.heap.size + 1 + 1) (w.heap.size + 1 + 1 + 1) W1 w' ∧ w'.cell? ⟨w.heap.size, 0, none⟩ = some (.bool n1) ∧ w'.cell? ⟨w.heap.size, 1, none⟩ = some (.slice a1 k1 c1) ∧ w'.cell? ⟨w.heap.size, 2, none⟩ = some (.bool n2) ∧ w'.cell? ⟨w.heap.size, 3, none⟩ = some (.slice a2 k2 c2) ∧ w'.cell? ⟨w.heap.size + 1, 0, none⟩ = some (.bool n3) ∧ w'.cell? ⟨w.heap.size + 1, 1, none⟩ = some (.slice a3 k3 c3) ∧ w'.cell? ⟨w.heap.size + 1, 2, none⟩ = some (.bool n4) ∧ w'.cell? ⟨w.heap.size + 1, 3, none⟩ = some (.slice a4 k4 c4)))
 have HI2 := Lib.hid (fun (w' : World) (hs : Stay (w.heap.size + 1 + 1) (w.heap.size + 1 + 1 + 1) W1 w' ∧ w'.cell? ⟨w.heap.size, 0, none⟩ = some (.bool n1) ∧ w'.cell? ⟨w.heap.size, 1, none⟩ = some (.slice a1 k1 c1) ∧ w'.cell? ⟨w.heap.size, 2, none⟩ = some (.bool n2) ∧ w'.cell? ⟨w.heap.size, 3, none⟩ = some (.slice a2 k2 c2) ∧ w'.cell? ⟨w.heap.size + 1, 0, none⟩ = some (.bool n3) ∧ w'.cell? ⟨w.heap.size + 1, 1, none⟩ = some (.slice a3 k3 c3) ∧ w'.cell? ⟨w.heap.size + 1, 2, none⟩ = some (.bool n4) ∧ w'.cell? ⟨w.heap.size + 1, 3, none⟩ = some (.slice a4 k4 c4)) => hs.1)
 have HN2 := Lib.hid (noInt_one (noInt4 BR.out))
 have HS2 := Lib.hid (Stay.refl (w.heap.size + 1 + 1) (w.heap.size + 1 + 1 + 1) W1)
 have HC2 := Lib.hid (Below.drew (Below.refl W1.heap.size W1))
 go_region_held3 (fun w' => Stay (w.heap.size + 1 + 1) (w.heap.size + 1 + 1 + 1) W1 w' ∧ w'.cell? ⟨w.heap.size, 0, none⟩ = some (.bool n1) ∧ w'.cell? ⟨w.heap.size, 1, none⟩ = some (.slice a1 k1 c1) ∧ w'.cell? ⟨w.heap.size, 2, none⟩ = some (.bool n2) ∧ w'.cell? ⟨w.heap.size, 3, none⟩ = some (.slice a2 k2 c2) ∧ w'.cell? ⟨w.heap.size + 1, 0, none⟩ = some (.bool n3) ∧ w'.cell? ⟨w.heap.size + 1, 1, none⟩ = some (.slice a3 k3 c3) ∧ w'.cell? ⟨w.heap.size + 1, 2, none⟩ = some (.bool n4) ∧ w'.cell? ⟨w.heap.size + 1, 3, none⟩ = some (.slice a4 k4 c4))
  (first | exact HL2.out _ (Stay.drew HS2.out) | exact HL2.out _ (Stay.next (HI2.out _ (by assumption)) (by assumption)) | exact HL2.out _ (stay_set4 (HI2.out _ (by assumption)) (by omega) (by omega)))
  (first | (go_at_call 129; (with_reducible refine (ratneg_any (HQ.out.stay (HI2.out _ (by assumption)) HN2.out)).mono ?_); rintro e w3 ⟨n_3, a_3, k_3, c_3, n2_3, a2_3, k2_3, c2_3, rfl, hu_3, hbr3⟩; have HNQ := Lib.hid hu_3; clear hu_3; have HRX3 := Lib.hid (blk_next (w := W1.drew) BR.out hbr3)) | (go_at_call 28; (with_reducible refine (ratadd_any (HP.out.stay (HI2.out _ (by assumption)) HN2.out) HNQ.out hp hq' hN).mono ?_); rintro e w4 ⟨n_4, a_4, k_4, c_4, n2_4, a2_4, k2_4, c2_4, rfl, hu_4, hv_4, hbr4⟩; have HX := Lib.hid hu_4; have HY := Lib.hid hv_4; clear hu_4 hv_4; have HRX4 := Lib.hid (blk_next HRX3.out hbr4); obtain ⟨⟨d0, d1, d2, d3⟩, e0, e1, e2, e3⟩ := res4_facts HRX4.out))
 go_wp2
 try simp only [Exit.inBlock, Exit.then]
 refine bodyPost_ret (results_cell_row rfl _ _ (w.heap.size + 1 + 1) 37 _ (0, 0) _ rfl (res4_set HRX4.out) Tryz.underlying37 rfl (by kernel_rfl)) rfl ?_
 exact ⟨_, _, _, _, _, _, _, _, rfl, ((HX.out.stay set4_stay (noInt_one (noInt4 HRX4.out))).as (by rw [rat_sub])), ((HY.out.stay set4_stay (noInt_one (noInt4 HRX4.out))).as (by rw [rat_sub])), (fin4 (bt HB.out (bt (bt HC2.out hbr3) hbr4)) (by omega))⟩
end Go.Proofs.YteionhenpehogaaGreatDoor
