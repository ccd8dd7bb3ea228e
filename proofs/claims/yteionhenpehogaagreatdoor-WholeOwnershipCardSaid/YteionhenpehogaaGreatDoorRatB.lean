import Derived.Test.YteionhenpehogaaGreatDoorRat
namespace Go.Proofs.YteionhenpehogaaGreatDoor
open Go.RowKit Tally
set_option maxHeartbeats 2000000 in
set_option maxRecDepth 100000 in
theorem reduced_any {w : World} {n1 : Bool} {a1 : Option Addr} {k1 c1 : Nat} {n2 : Bool} {a2 : Option Addr} {k2 c2 : Nat} {x y : Int} {N : Nat} (h : IntR w (.agg #[.bool n1, .slice a1 k1 c1]) x) (k : IntR w (.agg #[.bool n2, .slice a2 k2 c2]) y) (hy : y ≠ 0) (hx : Dg N x) (hd : Dg N y) (hN : N ≤ 999999999990) :
  Calls Tryz.prog 83 #[.agg #[.bool n1, .slice a1 k1 c1, .bool n2, .slice a2 k2 c2]] w (GivesP w (Rat.divInt x y)) := by
 have HX := Lib.hid h
 have HY := Lib.hid k
 have HY0 := Lib.hid hy
 clear h k hy
 go_enter Tryz.func83, Tryz.ntmps83
 go_wp2_with fail
 obtain ⟨W1, hW, hs, hb, b0, b1⟩ := alloc2 w (.cells #[.bool n1, .slice a1 k1 c1, .bool n2, .slice a2 k2 c2] 37) (.cells #[.bool false, .slice none 0 0, .bool false, .slice none 0 0] 37)
 rw [← hW]
 have HB := Lib.hid hb
 replace HX := Lib.hid (HX.out.below hb)
 replace HY := Lib.hid (HY.out.below hb)
 have BP := Lib.hid b0
 have BR := Lib.hid b1
 clear hW hs hb b0 b1
 (with_reducible refine (gcd_any HX.out HY.out hx hd hN).mono ?_)
 rintro e w2 ⟨n_2, a_2, k_2, c_2, rfl, hu_2, hb⟩
 replace HB := Lib.hid (bt HB.out hb)
 replace HX := Lib.hid (HX.out.below hb)
 replace HY := Lib.hid (HY.out.below hb)
 replace BP := Lib.hid (blk_next BP.out hb)
 replace BR := Lib.hid (blk_next BR.out hb)
 have HG := Lib.hid hu_2
 clear hu_2
 clear hb
 have lt1_P : w.heap.size < w2.heap.size := (Array.getElem?_eq_some_iff.1 BP.out).1
 have lt2_R : w.heap.size + 1 < w2.heap.size := (Array.getElem?_eq_some_iff.1 BR.out).1
 obtain ⟨⟨cP0, cP1, cP2, cP3⟩, fP0, fP1, fP2, fP3⟩ := res4_facts BP.out
 go_wp2_with fail
 clear cP0 cP1 cP2 cP3 fP0 fP1 fP2 fP3
 obtain ⟨W3, hW, hs, hb, b0⟩ := alloc1 w2 (.cells #[.bool n_2, .slice a_2 k_2 c_2] 35)
 rw [← hW]
 replace HB := Lib.hid (bt HB.out hb)
 replace HX := Lib.hid (HX.out.below hb)
 replace HY := Lib.hid (HY.out.below hb)
 replace HG := Lib.hid (HG.out.below hb)
 replace BP := Lib.hid (blk_next BP.out hb)
 replace BR := Lib.hid (blk_next BR.out hb)
 have BD := Lib.hid b0
 clear hW hs hb b0
 (with_reducible refine (sign_any HY.out).mono ?_)
 rintro e w4 ⟨rfl, hb⟩
 replace HB := Lib.hid (bt HB.out hb)
 replace HX := Lib.hid (HX.out.below hb)
 replace HY := Lib.hid (HY.out.below hb)
 replace HG := Lib.hid (HG.out.below hb)
 replace BP := Lib.hid (blk_next BP.out hb)
 replace BR := Lib.hid (blk_next BR.out hb)
 replace BD := Lib.hid (blk_next BD.out hb)
 clear hb
 by_cases hneg : y < 0
 ·have hsg : y.sign < 0 := by rw [Int.sign_eq_neg_one_of_neg hneg]; decide
  have HG0 := Lib.hid (show -((x.gcd y : Nat) : Int) ≠ 0 from fun e => HY0.out (gcd_zero.1 (show ((x.gcd y : Nat) : Int) = 0 by omega)).2)
  have E1 := Lib.hid (low_num (n := x) HY0.out (g := -((x.gcd y : Nat) : Int)) (by rw [if_pos hneg]))
  have E2 := Lib.hid (low_den (n := x) HY0.out (g := -((x.gcd y : Nat) : Int)) (by rw [if_pos hneg]))
  have lt3_P : w.heap.size < w4.heap.size := (Array.getElem?_eq_some_iff.1 BP.out).1
  have lt4_R : w.heap.size + 1 < w4.heap.size := (Array.getElem?_eq_some_iff.1 BR.out).1
  have lt5_D : w2.heap.size < w4.heap.size := (Array.getElem?_eq_some_iff.1 BD.out).1
  obtain ⟨cD0, cD1, fD0, fD1⟩ := res_facts BD.out
  go_wp2_with fail
  clear cD0 cD1 fD0 fD1
  (with_reducible refine (neg_any HG.out).mono ?_)
  rintro e w5 ⟨n_5, a_5, k_5, c_5, rfl, hu_5, hb⟩
  replace HB := Lib.hid (bt HB.out hb)
  replace HX := Lib.hid (HX.out.below hb)
  replace HY := Lib.hid (HY.out.below hb)
  replace HG := Lib.hid (HG.out.below hb)
  replace BP := Lib.hid (blk_next BP.out hb)
  replace BR := Lib.hid (blk_next BR.out hb)
  replace BD := Lib.hid (blk_next BD.out hb)
  have HG2 := Lib.hid hu_5
  clear hu_5
  clear hb
  have lt6_P : w.heap.size < w5.heap.size := (Array.getElem?_eq_some_iff.1 BP.out).1
  have lt7_R : w.heap.size + 1 < w5.heap.size := (Array.getElem?_eq_some_iff.1 BR.out).1
  have lt8_D : w2.heap.size < w5.heap.size := (Array.getElem?_eq_some_iff.1 BD.out).1
  obtain ⟨⟨cP0, cP1, cP2, cP3⟩, fP0, fP1, fP2, fP3⟩ := res4_facts BP.out
  obtain ⟨cD0, cD1, fD0, fD1⟩ := res_facts BD.out
  go_wp2_with fail
  clear cP0 cP1 cP2 cP3 fP0 fP1 fP2 fP3 cD0 cD1 fD0 fD1
  obtain ⟨W6, hW⟩ : ∃ W', W' = ((w5.setCell ⟨w2.heap.size, 0, none⟩ (.bool n_5)).setCell ⟨w2.heap.size, 1, none⟩ (.slice a_5 k_5 c_5)) := ⟨_, rfl⟩
  rw [← hW]
  have hst : Stay (w2.heap.size) (w2.heap.size + 1) w5 W6 := by rw [hW]; exact set2_stay
  have hsb : w.heap.size ≤ w2.heap.size := by omega
  replace HB := Lib.hid (HB.out.trans (hst.below hsb HB.out.size))
  clear hsb
  replace HX := Lib.hid (HX.out.stay hst (noInt_one (noInt2 BD.out)))
  replace HY := Lib.hid (HY.out.stay hst (noInt_one (noInt2 BD.out)))
  replace HG := Lib.hid (HG.out.stay hst (noInt_one (noInt2 BD.out)))
  replace HG2 := Lib.hid (HG2.out.stay hst (noInt_one (noInt2 BD.out)))
  have hbn : W6.heap[w2.heap.size]? = some (.cells #[.bool n_5, .slice a_5 k_5 c_5] 35 (0, 0)) := by rw [hW]; exact res_set BD.out
  replace BP := Lib.hid ((hst.block (w.heap.size) (Array.getElem?_eq_some_iff.1 BP.out).1 (by omega)).trans BP.out)
  replace BR := Lib.hid ((hst.block (w.heap.size + 1) (Array.getElem?_eq_some_iff.1 BR.out).1 (by omega)).trans BR.out)
  replace BD := Lib.hid hbn
  clear hW hst hbn
  (with_reducible refine (quorem_any HX.out HG2.out HG0.out hx hN).mono ?_)
  rintro e w7 ⟨n_7, a_7, k_7, c_7, n2_7, a2_7, k2_7, c2_7, rfl, hu_7, hv_7, hb⟩
  replace HB := Lib.hid (bt HB.out hb)
  replace HX := Lib.hid (HX.out.below hb)
  replace HY := Lib.hid (HY.out.below hb)
  replace HG := Lib.hid (HG.out.below hb)
  replace HG2 := Lib.hid (HG2.out.below hb)
  replace BP := Lib.hid (blk_next BP.out hb)
  replace BR := Lib.hid (blk_next BR.out hb)
  replace BD := Lib.hid (blk_next BD.out hb)
  have HQ1 := Lib.hid hu_7
  have HQ2 := Lib.hid hv_7
  clear hu_7 hv_7
  clear hb
  have lt9_P : w.heap.size < w7.heap.size := (Array.getElem?_eq_some_iff.1 BP.out).1
  have lt10_R : w.heap.size + 1 < w7.heap.size := (Array.getElem?_eq_some_iff.1 BR.out).1
  have lt11_D : w2.heap.size < w7.heap.size := (Array.getElem?_eq_some_iff.1 BD.out).1
  obtain ⟨⟨cP0, cP1, cP2, cP3⟩, fP0, fP1, fP2, fP3⟩ := res4_facts BP.out
  obtain ⟨cD0, cD1, fD0, fD1⟩ := res_facts BD.out
  go_wp2_with fail
  clear cP0 cP1 cP2 cP3 fP0 fP1 fP2 fP3 cD0 cD1 fD0 fD1
  obtain ⟨W8, hW, hs, hb, b0, b1⟩ := alloc2 w7 (.cells #[.bool n_7, .slice a_7 k_7 c_7] 35) (.cells #[.bool n2_7, .slice a2_7 k2_7 c2_7] 35)
  rw [← hW]
  replace HB := Lib.hid (bt HB.out hb)
  replace HX := Lib.hid (HX.out.below hb)
  replace HY := Lib.hid (HY.out.below hb)
  replace HG := Lib.hid (HG.out.below hb)
  replace HG2 := Lib.hid (HG2.out.below hb)
  replace HQ1 := Lib.hid (HQ1.out.below hb)
  replace HQ2 := Lib.hid (HQ2.out.below hb)
  replace BP := Lib.hid (blk_next BP.out hb)
  replace BR := Lib.hid (blk_next BR.out hb)
  replace BD := Lib.hid (blk_next BD.out hb)
  have BA := Lib.hid b0
  have BA2 := Lib.hid b1
  clear hW hs hb b0 b1
  (with_reducible refine (quorem_any HY.out HG2.out HG0.out hd hN).mono ?_)
  rintro e w9 ⟨n_9, a_9, k_9, c_9, n2_9, a2_9, k2_9, c2_9, rfl, hu_9, hv_9, hb⟩
  replace HB := Lib.hid (bt HB.out hb)
  replace HX := Lib.hid (HX.out.below hb)
  replace HY := Lib.hid (HY.out.below hb)
  replace HG := Lib.hid (HG.out.below hb)
  replace HG2 := Lib.hid (HG2.out.below hb)
  replace HQ1 := Lib.hid (HQ1.out.below hb)
  replace HQ2 := Lib.hid (HQ2.out.below hb)
  replace BP := Lib.hid (blk_next BP.out hb)
  replace BR := Lib.hid (blk_next BR.out hb)
  replace BD := Lib.hid (blk_next BD.out hb)
  replace BA := Lib.hid (blk_next BA.out hb)
  replace BA2 := Lib.hid (blk_next BA2.out hb)
  have HQ3 := Lib.hid hu_9
  have HQ4 := Lib.hid hv_9
  clear hu_9 hv_9
  clear hb
  have lt12_P : w.heap.size < w9.heap.size := (Array.getElem?_eq_some_iff.1 BP.out).1
  have lt13_R : w.heap.size + 1 < w9.heap.size := (Array.getElem?_eq_some_iff.1 BR.out).1
  have lt14_D : w2.heap.size < w9.heap.size := (Array.getElem?_eq_some_iff.1 BD.out).1
  have lt15_A : w7.heap.size < w9.heap.size := (Array.getElem?_eq_some_iff.1 BA.out).1
  have lt16_A2 : w7.heap.size + 1 < w9.heap.size := (Array.getElem?_eq_some_iff.1 BA2.out).1
  obtain ⟨cA0, cA1, fA0, fA1⟩ := res_facts BA.out
  obtain ⟨⟨cR0, cR1, cR2, cR3⟩, fR0, fR1, fR2, fR3⟩ := res4_facts BR.out
  go_wp2
  try simp only [Exit.inBlock, Exit.then]
  refine bodyPost_ret (results_cell_row rfl _ _ (w.heap.size + 1) 37 _ (0, 0) _ rfl (blk_next (res4_set BR.out) (allocs_below2 _ _ _)) Tryz.underlying37 rfl (by kernel_rfl)) rfl ?_
  exact ⟨_, _, _, _, _, _, _, _, rfl, (((HQ1.out.stay set4_stay (noInt_one (noInt4 BR.out))).below (allocs_below2 _ _ _)).as E1.out), (((HQ3.out.stay set4_stay (noInt_one (noInt4 BR.out))).below (allocs_below2 _ _ _)).as E2.out), (bt (fin4 HB.out (by omega)) (allocs_below2 _ _ _))⟩
 ·have hsg : ¬ y.sign < 0 := by have := Int.sign_nonneg_iff.2 (show 0 ≤ y by omega); omega
  have HG0 := Lib.hid (show ((x.gcd y : Nat) : Int) ≠ 0 from fun e => HY0.out (gcd_zero.1 e).2)
  have E1 := Lib.hid (low_num (n := x) HY0.out (g := ((x.gcd y : Nat) : Int)) (by rw [if_neg hneg]))
  have E2 := Lib.hid (low_den (n := x) HY0.out (g := ((x.gcd y : Nat) : Int)) (by rw [if_neg hneg]))
  have lt3_P : w.heap.size < w4.heap.size := (Array.getElem?_eq_some_iff.1 BP.out).1
  have lt4_R : w.heap.size + 1 < w4.heap.size := (Array.getElem?_eq_some_iff.1 BR.out).1
  have lt5_D : w2.heap.size < w4.heap.size := (Array.getElem?_eq_some_iff.1 BD.out).1
  obtain ⟨⟨cP0, cP1, cP2, cP3⟩, fP0, fP1, fP2, fP3⟩ := res4_facts BP.out
  obtain ⟨cD0, cD1, fD0, fD1⟩ := res_facts BD.out
  go_wp2_with fail
  clear cP0 cP1 cP2 cP3 fP0 fP1 fP2 fP3 cD0 cD1 fD0 fD1
  (with_reducible refine (quorem_any HX.out HG.out HG0.out hx hN).mono ?_)
  rintro e w5 ⟨n_5, a_5, k_5, c_5, n2_5, a2_5, k2_5, c2_5, rfl, hu_5, hv_5, hb⟩
  replace HB := Lib.hid (bt HB.out hb)
  replace HX := Lib.hid (HX.out.below hb)
  replace HY := Lib.hid (HY.out.below hb)
  replace HG := Lib.hid (HG.out.below hb)
  replace BP := Lib.hid (blk_next BP.out hb)
  replace BR := Lib.hid (blk_next BR.out hb)
  replace BD := Lib.hid (blk_next BD.out hb)
  have HQ1 := Lib.hid hu_5
  have HQ2 := Lib.hid hv_5
  clear hu_5 hv_5
  clear hb
  have lt6_P : w.heap.size < w5.heap.size := (Array.getElem?_eq_some_iff.1 BP.out).1
  have lt7_R : w.heap.size + 1 < w5.heap.size := (Array.getElem?_eq_some_iff.1 BR.out).1
  have lt8_D : w2.heap.size < w5.heap.size := (Array.getElem?_eq_some_iff.1 BD.out).1
  obtain ⟨⟨cP0, cP1, cP2, cP3⟩, fP0, fP1, fP2, fP3⟩ := res4_facts BP.out
  obtain ⟨cD0, cD1, fD0, fD1⟩ := res_facts BD.out
  go_wp2_with fail
  clear cP0 cP1 cP2 cP3 fP0 fP1 fP2 fP3 cD0 cD1 fD0 fD1
  obtain ⟨W6, hW, hs, hb, b0, b1⟩ := alloc2 w5 (.cells #[.bool n_5, .slice a_5 k_5 c_5] 35) (.cells #[.bool n2_5, .slice a2_5 k2_5 c2_5] 35)
  rw [← hW]
  replace HB := Lib.hid (bt HB.out hb)
  replace HX := Lib.hid (HX.out.below hb)
  replace HY := Lib.hid (HY.out.below hb)
  replace HG := Lib.hid (HG.out.below hb)
  replace HQ1 := Lib.hid (HQ1.out.below hb)
  replace HQ2 := Lib.hid (HQ2.out.below hb)
  replace BP := Lib.hid (blk_next BP.out hb)
  replace BR := Lib.hid (blk_next BR.out hb)
  replace BD := Lib.hid (blk_next BD.out hb)
  have BA := Lib.hid b0
  have BA2 := Lib.hid b1
  clear hW hs hb b0 b1
  (with_reducible refine (quorem_any HY.out HG.out HG0.out hd hN).mono ?_)
  rintro e w7 ⟨n_7, a_7, k_7, c_7, n2_7, a2_7, k2_7, c2_7, rfl, hu_7, hv_7, hb⟩
  replace HB := Lib.hid (bt HB.out hb)
  replace HX := Lib.hid (HX.out.below hb)
  replace HY := Lib.hid (HY.out.below hb)
  replace HG := Lib.hid (HG.out.below hb)
  replace HQ1 := Lib.hid (HQ1.out.below hb)
  replace HQ2 := Lib.hid (HQ2.out.below hb)
  replace BP := Lib.hid (blk_next BP.out hb)
  replace BR := Lib.hid (blk_next BR.out hb)
  replace BD := Lib.hid (blk_next BD.out hb)
  replace BA := Lib.hid (blk_next BA.out hb)
  replace BA2 := Lib.hid (blk_next BA2.out hb)
  have HQ3 := Lib.hid hu_7
  have HQ4 := Lib.hid hv_7
  clear hu_7 hv_7
  clear hb
  have lt9_P : w.heap.size < w7.heap.size := (Array.getElem?_eq_some_iff.1 BP.out).1
  have lt10_R : w.heap.size + 1 < w7.heap.size := (Array.getElem?_eq_some_iff.1 BR.out).1
  have lt11_D : w2.heap.size < w7.heap.size := (Array.getElem?_eq_some_iff.1 BD.out).1
  have lt12_A : w5.heap.size < w7.heap.size := (Array.getElem?_eq_some_iff.1 BA.out).1
  have lt13_A2 : w5.heap.size + 1 < w7.heap.size := (Array.getElem?_eq_some_iff.1 BA2.out).1
  obtain ⟨cA0, cA1, fA0, fA1⟩ := res_facts BA.out
  obtain ⟨⟨cR0, cR1, cR2, cR3⟩, fR0, fR1, fR2, fR3⟩ := res4_facts BR.out
  go_wp2
  try simp only [Exit.inBlock, Exit.then]
  refine bodyPost_ret (results_cell_row rfl _ _ (w.heap.size + 1) 37 _ (0, 0) _ rfl (blk_next (res4_set BR.out) (allocs_below2 _ _ _)) Tryz.underlying37 rfl (by kernel_rfl)) rfl ?_
  exact ⟨_, _, _, _, _, _, _, _, rfl, (((HQ1.out.stay set4_stay (noInt_one (noInt4 BR.out))).below (allocs_below2 _ _ _)).as E1.out), (((HQ3.out.stay set4_stay (noInt_one (noInt4 BR.out))).below (allocs_below2 _ _ _)).as E2.out), (bt (fin4 HB.out (by omega)) (allocs_below2 _ _ _))⟩
set_option maxHeartbeats 2000000 in
set_option maxRecDepth 100000 in
theorem parts_any {w : World} {v : Value} {q : Rat} (h : RatR w v q) :
  Calls Tryz.prog 72 #[v] w (GivesZZ w q.num q.den) := by
 obtain ⟨n1, a1, k1, c1, n2, a2, k2, c2, rfl⟩ := h.shape
 obtain ⟨d, hx, hd, hc⟩ := h.two
 have HX := Lib.hid hx
 have HD := Lib.hid hd
 have HC := Lib.hid hc
 clear h hx hd hc
 go_enter Tryz.func72, Tryz.ntmps72
 go_wp2_with fail
 obtain ⟨W1, hW, hs, hb, b0, b1, b2⟩ := alloc3 w (.cells #[.bool n1, .slice a1 k1 c1, .bool n2, .slice a2 k2 c2] 37) (.cells #[.bool false, .slice none 0 0] 35) (.cells #[.bool false, .slice none 0 0] 35)
 rw [← hW]
 have HB := Lib.hid hb
 replace HX := Lib.hid (HX.out.below hb)
 replace HD := Lib.hid (HD.out.below hb)
 have BP := Lib.hid b0
 have BR1 := Lib.hid b1
 have BR2 := Lib.hid b2
 clear hW hs hb b0 b1 b2
 (with_reducible refine (sign_any HD.out).mono ?_)
 rintro e w2 ⟨rfl, hb⟩
 replace HB := Lib.hid (bt HB.out hb)
 replace HX := Lib.hid (HX.out.below hb)
 replace HD := Lib.hid (HD.out.below hb)
 replace BP := Lib.hid (blk_next BP.out hb)
 replace BR1 := Lib.hid (blk_next BR1.out hb)
 replace BR2 := Lib.hid (blk_next BR2.out hb)
 clear hb
 by_cases hd0 : d = 0
 ·subst hd0
  have E := Lib.hid (show q = 0 from by
     rcases HC.out with e | e
     ·exact absurd e (by have := q.den_nz; omega)
     ·exact e.2)
  have E1 := Lib.hid (show (1 : Int) = q.den from by rw [E.out]; rfl)
  rw [show Int.sign 0 = 0 from rfl]
  have lt1_P : w.heap.size < w2.heap.size := (Array.getElem?_eq_some_iff.1 BP.out).1
  have lt2_R1 : w.heap.size + 1 < w2.heap.size := (Array.getElem?_eq_some_iff.1 BR1.out).1
  have lt3_R2 : w.heap.size + 1 + 1 < w2.heap.size := (Array.getElem?_eq_some_iff.1 BR2.out).1
  obtain ⟨⟨cP0, cP1, cP2, cP3⟩, fP0, fP1, fP2, fP3⟩ := res4_facts BP.out
  go_wp2_with fail
  clear cP0 cP1 cP2 cP3 fP0 fP1 fP2 fP3
  obtain ⟨⟨cP0, cP1, cP2, cP3⟩, fP0, fP1, fP2, fP3⟩ := res4_facts BP.out
  have HL3 := Lib.hid (fun (w' : World) (hb : Stay (w.heap.size + 1) (w.heap.size + 1 + 1 + 1) w2 w') => (⟨hb, hb.cell (by omega) cP0, hb.cell (by omega) cP1⟩ : Stay (w.heap.size + 1) (w.heap.size + 1 + 1 + 1) w2 w' ∧ w'.cell? ⟨w.heap.size, 0, none⟩ = some (.bool n1) ∧ w'.cell? ⟨w.heap.size, 1, none⟩ = some (.slice a1 k1 c1)))
  have HI3 := Lib.hid (fun (w' : World) (hs : Stay (w.heap.size + 1) (w.heap.size + 1 + 1 + 1) w2 w' ∧ w'.cell? ⟨w.heap.size, 0, none⟩ = some (.bool n1) ∧ w'.cell? ⟨w.heap.size, 1, none⟩ = some (.slice a1 k1 c1)) => hs.1)
  have HN3 := Lib.hid (noInt_two (noInt2 BR1.out) (noInt2 BR2.out))
  have HS3 := Lib.hid (Stay.refl (w.heap.size + 1) (w.heap.size + 1 + 1 + 1) w2)
  have HC3 := Lib.hid (Below.drew (Below.refl w2.heap.size w2))
  go_region_held3 (fun w' => Stay (w.heap.size + 1) (w.heap.size + 1 + 1 + 1) w2 w' ∧ w'.cell? ⟨w.heap.size, 0, none⟩ = some (.bool n1) ∧ w'.cell? ⟨w.heap.size, 1, none⟩ = some (.slice a1 k1 c1))
   (first | exact HL3.out _ (Stay.drew HS3.out) | exact HL3.out _ (Stay.next (HI3.out _ (by assumption)) (by assumption)) | exact HL3.out _ (stay_set2 (HI3.out _ (by assumption)) (by omega) (by omega)))
   (first | (go_at_call 80; (with_reducible refine (of_any (n := 1) (by decide) (by decide)).mono ?_); rintro e w4 ⟨n_4, a_4, k_4, c_4, rfl, hu_4, hbr4⟩; have HONE := Lib.hid hu_4; clear hu_4; have HRX4 := Lib.hid (blk_next (w := w2.drew) BR1.out hbr4); have HRY4 := Lib.hid (blk_next (w := w2.drew) BR2.out hbr4); obtain ⟨d0, d1, e0, e1⟩ := res_facts HRX4.out; obtain ⟨d4, d5, e4, e5⟩ := res_facts HRY4.out))
  go_wp2
  try simp only [Exit.inBlock, Exit.then]
  have S22 := store22 (x' := .bool n1) (y' := .slice a1 k1 c1) (z' := .bool n_4) (u' := .slice a_4 k_4 c_4) HRX4.out HRY4.out (show w.heap.size + 1 ≠ w.heap.size + 1 + 1 by omega)
  refine bodyPost_ret (results_cell2 rfl _ _ (w.heap.size + 1) (w.heap.size + 1 + 1) 35 35 _ _ (0, 0) (0, 0) _ _ rfl rfl S22.2.1 S22.2.2 Tryz.underlying35 rfl (by kernel_rfl) Tryz.underlying35 rfl (by kernel_rfl)) rfl ?_
  exact ⟨_, _, _, _, _, _, _, _, rfl, (((HX.out.below (bt HC3.out hbr4)).set2 HRX4.out).set2 S22.1), (((HONE.out.set2 HRX4.out).set2 S22.1).as E1.out), held_set2 (held_set2 (bt HB.out (bt HC3.out hbr4)) (by omega)) (by omega)⟩
 ·have hs0 : (d.sign == 0) = false := by
     rw [beq_eq_false_iff_ne]
     intro e
     exact hd0 (Int.sign_eq_zero_iff_zero.1 e)
  have E1 := Lib.hid (show d = q.den from by
     rcases HC.out with e | e
     ·exact e
     ·exact absurd e.1 hd0)
  clear hd0
  have lt1_P : w.heap.size < w2.heap.size := (Array.getElem?_eq_some_iff.1 BP.out).1
  have lt2_R1 : w.heap.size + 1 < w2.heap.size := (Array.getElem?_eq_some_iff.1 BR1.out).1
  have lt3_R2 : w.heap.size + 1 + 1 < w2.heap.size := (Array.getElem?_eq_some_iff.1 BR2.out).1
  obtain ⟨⟨cP0, cP1, cP2, cP3⟩, fP0, fP1, fP2, fP3⟩ := res4_facts BP.out
  obtain ⟨cR10, cR11, fR10, fR11⟩ := res_facts BR1.out
  obtain ⟨cR20, cR21, fR20, fR21⟩ := res_facts BR2.out
  go_wp2_with fail
  clear cP0 cP1 cP2 cP3 fP0 fP1 fP2 fP3 cR10 cR11 fR10 fR11 cR20 cR21 fR20 fR21
  obtain ⟨⟨cP0, cP1, cP2, cP3⟩, fP0, fP1, fP2, fP3⟩ := res4_facts BP.out
  have HL3 := Lib.hid (fun (w' : World) (hb : Stay (w.heap.size + 1) (w.heap.size + 1 + 1 + 1) w2 w') => (⟨hb, hb.cell (by omega) cP0, hb.cell (by omega) cP1, hb.cell (by omega) cP2, hb.cell (by omega) cP3⟩ : Stay (w.heap.size + 1) (w.heap.size + 1 + 1 + 1) w2 w' ∧ w'.cell? ⟨w.heap.size, 0, none⟩ = some (.bool n1) ∧ w'.cell? ⟨w.heap.size, 1, none⟩ = some (.slice a1 k1 c1) ∧ w'.cell? ⟨w.heap.size, 2, none⟩ = some (.bool n2) ∧ w'.cell? ⟨w.heap.size, 3, none⟩ = some (.slice a2 k2 c2)))
  have HI3 := Lib.hid (fun (w' : World) (hs : Stay (w.heap.size + 1) (w.heap.size + 1 + 1 + 1) w2 w' ∧ w'.cell? ⟨w.heap.size, 0, none⟩ = some (.bool n1) ∧ w'.cell? ⟨w.heap.size, 1, none⟩ = some (.slice a1 k1 c1) ∧ w'.cell? ⟨w.heap.size, 2, none⟩ = some (.bool n2) ∧ w'.cell? ⟨w.heap.size, 3, none⟩ = some (.slice a2 k2 c2)) => hs.1)
  have HN3 := Lib.hid (noInt_two (noInt2 BR1.out) (noInt2 BR2.out))
  have HS3 := Lib.hid (Stay.refl (w.heap.size + 1) (w.heap.size + 1 + 1 + 1) w2)
  have HC3 := Lib.hid (Below.drew (Below.refl w2.heap.size w2))
  obtain ⟨cR10, cR11, fR10, fR11⟩ := res_facts BR1.out
  obtain ⟨cR20, cR21, fR20, fR21⟩ := res_facts BR2.out
  go_region_held3 (fun w' => Stay (w.heap.size + 1) (w.heap.size + 1 + 1 + 1) w2 w' ∧ w'.cell? ⟨w.heap.size, 0, none⟩ = some (.bool n1) ∧ w'.cell? ⟨w.heap.size, 1, none⟩ = some (.slice a1 k1 c1) ∧ w'.cell? ⟨w.heap.size, 2, none⟩ = some (.bool n2) ∧ w'.cell? ⟨w.heap.size, 3, none⟩ = some (.slice a2 k2 c2))
   (first | exact HL3.out _ (Stay.drew HS3.out) | exact HL3.out _ (Stay.drew (stay_set2 HS3.out (by omega) (by omega))) | exact HL3.out _ (Stay.drew (stay_set2 (stay_set2 HS3.out (by omega) (by omega)) (by omega) (by omega))))
   (fail)
  go_wp2
  try simp only [Exit.inBlock, Exit.then]
  have S22 := store22 (x' := .bool n1) (y' := .slice a1 k1 c1) (z' := .bool n2) (u' := .slice a2 k2 c2) BR1.out BR2.out (show w.heap.size + 1 ≠ w.heap.size + 1 + 1 by omega)
  refine bodyPost_ret (results_cell2 rfl _ _ (w.heap.size + 1) (w.heap.size + 1 + 1) 35 35 _ _ (0, 0) (0, 0) _ _ rfl rfl S22.2.1 S22.2.2 Tryz.underlying35 rfl (by kernel_rfl) Tryz.underlying35 rfl (by kernel_rfl)) rfl ?_
  exact ⟨_, _, _, _, _, _, _, _, rfl, (((HX.out.set2 BR1.out).set2 S22.1).below (Below.drew (Below.refl _ _))), ((((HD.out.set2 BR1.out).set2 S22.1).below (Below.drew (Below.refl _ _))).as E1.out), Below.drew (held_set2 (held_set2 HB.out (by omega)) (by omega))⟩
set_option maxHeartbeats 2000000 in
set_option maxRecDepth 100000 in
theorem new_any {w : World} {v u : Value} {x y : Int} {N : Nat} (h : IntR w v x) (k : IntR w u y) (hy : y ≠ 0) (hx : Dg N x) (hd : Dg N y) (hN : N ≤ 999999999990) :
  Calls Tryz.prog 79 #[v, u] w (GivesPE w (Rat.divInt x y) 0) := by
 obtain ⟨n1, a1, k1, c1, rfl⟩ := h.shape
 obtain ⟨n2, a2, k2, c2, rfl⟩ := k.shape
 have HX := Lib.hid h
 have HY := Lib.hid k
 have HY0 := Lib.hid hy
 have hys : (y.sign == 0) = false := by
   rw [beq_eq_false_iff_ne]
   intro e
   exact hy (Int.sign_eq_zero_iff_zero.1 e)
 clear hy
 clear h k
 go_enter Tryz.func79, Tryz.ntmps79
 go_wp2_with fail
 obtain ⟨W1, hW, hs, hb, b0, b1, b2⟩ := alloc3 w (.cells #[.bool n1, .slice a1 k1 c1] 35) (.cells #[.bool n2, .slice a2 k2 c2] 35) (.cells #[.bool false, .slice none 0 0, .bool false, .slice none 0 0] 37)
 rw [← hW]
 have HB := Lib.hid hb
 replace HX := Lib.hid (HX.out.below hb)
 replace HY := Lib.hid (HY.out.below hb)
 have BP := Lib.hid b0
 have BU := Lib.hid b1
 have BR := Lib.hid b2
 clear hW hs hb b0 b1 b2
 (with_reducible refine (sign_any HY.out).mono ?_)
 rintro e w2 ⟨rfl, hb⟩
 replace HB := Lib.hid (bt HB.out hb)
 replace HX := Lib.hid (HX.out.below hb)
 replace HY := Lib.hid (HY.out.below hb)
 replace BP := Lib.hid (blk_next BP.out hb)
 replace BU := Lib.hid (blk_next BU.out hb)
 replace BR := Lib.hid (blk_next BR.out hb)
 clear hb
 have lt1_P : w.heap.size < w2.heap.size := (Array.getElem?_eq_some_iff.1 BP.out).1
 have lt2_U : w.heap.size + 1 < w2.heap.size := (Array.getElem?_eq_some_iff.1 BU.out).1
 have lt3_R : w.heap.size + 1 + 1 < w2.heap.size := (Array.getElem?_eq_some_iff.1 BR.out).1
 obtain ⟨cP0, cP1, fP0, fP1⟩ := res_facts BP.out
 obtain ⟨cU0, cU1, fU0, fU1⟩ := res_facts BU.out
 go_wp2_with fail
 clear cP0 cP1 fP0 fP1 cU0 cU1 fU0 fU1
 (with_reducible refine (reduced_any HX.out HY.out HY0.out hx hd hN).mono ?_)
 rintro e w3 ⟨n_3, a_3, k_3, c_3, n2_3, a2_3, k2_3, c2_3, rfl, hu_3, hv_3, hb⟩
 replace HB := Lib.hid (bt HB.out hb)
 replace HX := Lib.hid (HX.out.below hb)
 replace HY := Lib.hid (HY.out.below hb)
 replace BP := Lib.hid (blk_next BP.out hb)
 replace BU := Lib.hid (blk_next BU.out hb)
 replace BR := Lib.hid (blk_next BR.out hb)
 have HA := Lib.hid hu_3
 have HBd := Lib.hid hv_3
 clear hu_3 hv_3
 clear hb
 have lt4_P : w.heap.size < w3.heap.size := (Array.getElem?_eq_some_iff.1 BP.out).1
 have lt5_U : w.heap.size + 1 < w3.heap.size := (Array.getElem?_eq_some_iff.1 BU.out).1
 have lt6_R : w.heap.size + 1 + 1 < w3.heap.size := (Array.getElem?_eq_some_iff.1 BR.out).1
 obtain ⟨⟨cR0, cR1, cR2, cR3⟩, fR0, fR1, fR2, fR3⟩ := res4_facts BR.out
 go_wp2
 try simp only [Exit.inBlock, Exit.then]
 refine bodyPost_ret (results_cell_slot rfl _ _ (w.heap.size + 1 + 1) 37 _ (0, 0) _ (.int .i64 0) rfl rfl (res4_set BR.out) Tryz.underlying37 rfl (by kernel_rfl)) rfl ?_
 exact ⟨_, _, _, _, _, _, _, _, rfl, (HA.out.stay set4_stay (noInt_one (noInt4 BR.out))), (HBd.out.stay set4_stay (noInt_one (noInt4 BR.out))), (fin4 HB.out (by omega))⟩
theorem dg_int {n : Int} (h1 : -9223372036854775808 ≤ n) (h2 : n ≤ 9223372036854775807) : Dg 19 n := by
 unfold Dg
 have : (10 : Nat) ^ 19 = 10000000000000000000 := by decide
 omega
set_option maxHeartbeats 2000000 in
set_option maxRecDepth 100000 in
theorem ratof_any {w : World} {n d : Int} (h1 : -9223372036854775808 ≤ n) (h2 : n ≤ 9223372036854775807) (h3 : -9223372036854775808 ≤ d) (h4 : d ≤ 9223372036854775807) (hd : d ≠ 0) :
  Calls Tryz.prog 26 #[.int .i64 n, .int .i64 d] w (GivesPE w (Rat.divInt n d) 0) := by
 have HD := Lib.hid hd
 clear hd
 go_enter Tryz.func26, Tryz.ntmps26
 go_wp2_with fail
 obtain ⟨W1, hW, hs, hb, b0⟩ := alloc1 w (.cells #[.bool false, .slice none 0 0, .bool false, .slice none 0 0] 37)
 rw [← hW]
 have HB := Lib.hid hb
 have BR := Lib.hid b0
 clear hW hs hb b0
 (with_reducible refine (of_any h1 h2).mono ?_)
 rintro e w2 ⟨n_2, a_2, k_2, c_2, rfl, hu_2, hb⟩
 replace HB := Lib.hid (bt HB.out hb)
 replace BR := Lib.hid (blk_next BR.out hb)
 have HA := Lib.hid hu_2
 clear hu_2
 clear hb
 go_wp2_with fail
 (with_reducible refine (of_any h3 h4).mono ?_)
 rintro e w3 ⟨n_3, a_3, k_3, c_3, rfl, hu_3, hb⟩
 replace HB := Lib.hid (bt HB.out hb)
 replace HA := Lib.hid (HA.out.below hb)
 replace BR := Lib.hid (blk_next BR.out hb)
 have HBI := Lib.hid hu_3
 clear hu_3
 clear hb
 go_wp2_with fail
 (with_reducible refine (new_any HA.out HBI.out HD.out (dg_int h1 h2) (dg_int h3 h4) (by omega)).mono ?_)
 rintro e w4 ⟨n_4, a_4, k_4, c_4, n2_4, a2_4, k2_4, c2_4, rfl, hu_4, hv_4, hb⟩
 replace HB := Lib.hid (bt HB.out hb)
 replace HA := Lib.hid (HA.out.below hb)
 replace HBI := Lib.hid (HBI.out.below hb)
 replace BR := Lib.hid (blk_next BR.out hb)
 have HC := Lib.hid hu_4
 have HE := Lib.hid hv_4
 clear hu_4 hv_4
 clear hb
 have lt1_R : w.heap.size < w4.heap.size := (Array.getElem?_eq_some_iff.1 BR.out).1
 obtain ⟨⟨cR0, cR1, cR2, cR3⟩, fR0, fR1, fR2, fR3⟩ := res4_facts BR.out
 go_wp2
 try simp only [Exit.inBlock, Exit.then]
 refine bodyPost_ret (results_cell_slot rfl _ _ (w.heap.size) 37 _ (0, 0) _ (.int .i64 0) rfl rfl (res4_set BR.out) Tryz.underlying37 rfl (by kernel_rfl)) rfl ?_
 exact ⟨_, _, _, _, _, _, _, _, rfl, (HC.out.stay set4_stay (noInt_one (noInt4 BR.out))), (HE.out.stay set4_stay (noInt_one (noInt4 BR.out))), (fin4 HB.out (by omega))⟩
set_option maxHeartbeats 2000000 in
set_option maxRecDepth 100000 in
theorem ratsign_any {w : World} {v : Value} {q : Rat} (h : RatR w v q) :
  Calls Tryz.prog 18 #[v] w (fun e w' => e = .returned (.int .i64 q.num.sign) ∧ Below w.heap.size w w') := by
 obtain ⟨n1, a1, k1, c1, n2, a2, k2, c2, rfl⟩ := h.shape
 obtain ⟨d, hx, _, _⟩ := h.two
 have HX := Lib.hid hx
 clear h hx
 go_enter Tryz.func18, Tryz.ntmps18
 go_wp2_with fail
 obtain ⟨W1, hW, hs, hb, b0⟩ := alloc1 w (.cells #[.bool n1, .slice a1 k1 c1, .bool n2, .slice a2 k2 c2] 37)
 rw [← hW]
 have HB := Lib.hid hb
 replace HX := Lib.hid (HX.out.below hb)
 have BP := Lib.hid b0
 clear hW hs hb b0
 (with_reducible refine (sign_any HX.out).mono ?_)
 rintro e w2 ⟨rfl, hb⟩
 replace HB := Lib.hid (bt HB.out hb)
 replace HX := Lib.hid (HX.out.below hb)
 replace BP := Lib.hid (blk_next BP.out hb)
 clear hb
 go_wp2
 go_ret
 exact ⟨rfl, HB.out⟩
end Go.Proofs.YteionhenpehogaaGreatDoor
