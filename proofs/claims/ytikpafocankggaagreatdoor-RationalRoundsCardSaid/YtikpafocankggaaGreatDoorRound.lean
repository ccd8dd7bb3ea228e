/- The program's Round. -/
import Derived.Test.YtikpafocankggaaGreatDoorRatD
import Derived.Test.YtikpafocankggaaGreatDoorInv
import Derived.Deep.DeepCutAuto
namespace Go.Proofs.YtikpafocankggaaGreatDoor
open Go.RowKit Tally Go.Lib
set_option maxHeartbeats 2000000 in
set_option maxRecDepth 100000 in
theorem ratround_any {w : World} {v : Value} {q : Rat} {N : Nat} (h : RatR w v q) (hq : Rg N q) (hN : N + 5 ≤ 999999999990) :
  Calls Tryz.prog 42 #[v] w (GivesZ w (roundQ q)) := by
 obtain ⟨n1, a1, k1, c1, n2, a2, k2, c2, rfl⟩ := h.shape
 have hq1 := hq.1
 have hq2 := hq.2
 have hq3 := hq2.neg
 have t1 : Dg 1 (2 : Int) := by unfold Dg; decide
 have hq4 := hq1.mono (show N ≤ N + 1 by omega)
 have hq5 := hq2.mono (show N ≤ N + 1 by omega)
 have t2 := t1.mono (show 1 ≤ N + 1 by omega)
 have d1 : Dg (N + 2) ((2 : Int) * q.num) := (Dg.mul t1 hq1).mono (by omega)
 have d2 : Dg (N + 2) (q.den : Int) := hq2.mono (by omega)
 have d3 : Dg (N + 2) (-(q.den : Int)) := hq3.mono (by omega)
 have d4 := d1.add d2
 have d5 := d1.add d3
 have HZ := hid (show (2 : Int) * q.den ≠ 0 from Int.mul_ne_zero (by decide) (by have := q.den_nz; omega))
 have HQ := hid h
 clear h
 go_enter Tryz.func42, Tryz.ntmps42
 go_wp2_with fail
 obtain ⟨W1, hW, hs, hb, b0, b1⟩ := alloc2 w (.cells #[.bool n1, .slice a1 k1 c1, .bool n2, .slice a2 k2 c2] 27) (.cells #[.bool false, .slice none 0 0] 25)
 rw [← hW]
 have HB := hid hb
 replace HQ := hid (HQ.out.below hb)
 have BP := hid b0
 have BR := hid b1
 clear hW hs hb b0 b1
 (with_reducible refine (parts_any HQ.out).mono ?_)
 rintro e w2 ⟨n_2, a_2, k_2, c_2, n2_2, a2_2, k2_2, c2_2, rfl, hu_2, hv_2, hb⟩
 replace HB := hid (bt HB.out hb)
 replace HQ := hid (HQ.out.below hb)
 replace BP := hid (blk_next BP.out hb)
 replace BR := hid (blk_next BR.out hb)
 have HA := hid hu_2
 have HD := hid hv_2
 clear hu_2 hv_2
 clear hb
 have lt1_P : w.heap.size < w2.heap.size := (Array.getElem?_eq_some_iff.1 BP.out).1
 have lt2_R : w.heap.size + 1 < w2.heap.size := (Array.getElem?_eq_some_iff.1 BR.out).1
 obtain ⟨⟨cP0, cP1, cP2, cP3⟩, fP0, fP1, fP2, fP3⟩ := res4_facts BP.out
 go_wp2_with fail
 clear cP0 cP1 cP2 cP3 fP0 fP1 fP2 fP3
 obtain ⟨W3, hW, hs, hb, b0, b1, b2⟩ := alloc3 w2 (.cells #[.bool n_2, .slice a_2 k_2 c_2] 25) (.cells #[.bool n2_2, .slice a2_2 k2_2 c2_2] 25) (.cells #[.bool n2_2, .slice a2_2 k2_2 c2_2] 25)
 rw [← hW]
 replace HB := hid (bt HB.out hb)
 replace HA := hid (HA.out.below hb)
 replace HD := hid (HD.out.below hb)
 replace BP := hid (blk_next BP.out hb)
 replace BR := hid (blk_next BR.out hb)
 have Ba := hid b0
 have Bd := hid b1
 have Bhalf := hid b2
 clear hW hs hb b0 b1 b2
 (with_reducible refine (sign_any HA.out).mono ?_)
 rintro e w4 ⟨rfl, hb⟩
 replace HB := hid (bt HB.out hb)
 replace HA := hid (HA.out.below hb)
 replace HD := hid (HD.out.below hb)
 replace BP := hid (blk_next BP.out hb)
 replace BR := hid (blk_next BR.out hb)
 replace Ba := hid (blk_next Ba.out hb)
 replace Bd := hid (blk_next Bd.out hb)
 replace Bhalf := hid (blk_next Bhalf.out hb)
 clear hb
 by_cases hneg : q.num < 0
 ·have hsg : q.num.sign < 0 := by rw [Int.sign_eq_neg_one_of_neg hneg]; decide
  have HE := hid (show ((2 : Int) * q.num + -(q.den : Int)).tdiv (2 * q.den) = roundQ q from by unfold roundQ; rw [if_pos hneg])
  have lt3_P : w.heap.size < w4.heap.size := (Array.getElem?_eq_some_iff.1 BP.out).1
  have lt4_R : w.heap.size + 1 < w4.heap.size := (Array.getElem?_eq_some_iff.1 BR.out).1
  have lt5_a : w2.heap.size < w4.heap.size := (Array.getElem?_eq_some_iff.1 Ba.out).1
  have lt6_d : w2.heap.size + 1 < w4.heap.size := (Array.getElem?_eq_some_iff.1 Bd.out).1
  have lt7_half : w2.heap.size + 1 + 1 < w4.heap.size := (Array.getElem?_eq_some_iff.1 Bhalf.out).1
  obtain ⟨cd0, cd1, fd0, fd1⟩ := res_facts Bd.out
  obtain ⟨chalf0, chalf1, fhalf0, fhalf1⟩ := res_facts Bhalf.out
  go_wp2_with fail
  clear cd0 cd1 fd0 fd1 chalf0 chalf1 fhalf0 fhalf1
  (with_reducible refine (neg_any HD.out).mono ?_)
  rintro e w5 ⟨n_5, a_5, k_5, c_5, rfl, hu_5, hb⟩
  replace HB := hid (bt HB.out hb)
  replace HA := hid (HA.out.below hb)
  replace HD := hid (HD.out.below hb)
  replace BP := hid (blk_next BP.out hb)
  replace BR := hid (blk_next BR.out hb)
  replace Ba := hid (blk_next Ba.out hb)
  replace Bd := hid (blk_next Bd.out hb)
  replace Bhalf := hid (blk_next Bhalf.out hb)
  have HH2 := hid hu_5
  clear hu_5
  clear hb
  have lt8_P : w.heap.size < w5.heap.size := (Array.getElem?_eq_some_iff.1 BP.out).1
  have lt9_R : w.heap.size + 1 < w5.heap.size := (Array.getElem?_eq_some_iff.1 BR.out).1
  have lt10_a : w2.heap.size < w5.heap.size := (Array.getElem?_eq_some_iff.1 Ba.out).1
  have lt11_d : w2.heap.size + 1 < w5.heap.size := (Array.getElem?_eq_some_iff.1 Bd.out).1
  have lt12_half : w2.heap.size + 1 + 1 < w5.heap.size := (Array.getElem?_eq_some_iff.1 Bhalf.out).1
  obtain ⟨chalf0, chalf1, fhalf0, fhalf1⟩ := res_facts Bhalf.out
  go_wp2_with fail
  clear chalf0 chalf1 fhalf0 fhalf1
  obtain ⟨W6, hW⟩ : ∃ W', W' = ((w5.setCell ⟨w2.heap.size + 1 + 1, 0, none⟩ (.bool n_5)).setCell ⟨w2.heap.size + 1 + 1, 1, none⟩ (.slice a_5 k_5 c_5)) := ⟨_, rfl⟩
  rw [← hW]
  have hst : Stay (w2.heap.size + 1 + 1) (w2.heap.size + 1 + 1 + 1) w5 W6 := by rw [hW]; exact set2_stay
  have hsb : w.heap.size ≤ w2.heap.size + 1 + 1 := by omega
  replace HB := hid (HB.out.trans (hst.below hsb HB.out.size))
  clear hsb
  replace HA := hid (HA.out.stay hst (noInt_one (noInt2 Bhalf.out)))
  replace HD := hid (HD.out.stay hst (noInt_one (noInt2 Bhalf.out)))
  replace HH2 := hid (HH2.out.stay hst (noInt_one (noInt2 Bhalf.out)))
  have hbn : W6.heap[w2.heap.size + 1 + 1]? = some (.cells #[.bool n_5, .slice a_5 k_5 c_5] 25 (0, 0)) := by rw [hW]; exact res_set Bhalf.out
  replace BP := hid ((hst.block (w.heap.size) (Array.getElem?_eq_some_iff.1 BP.out).1 (by omega)).trans BP.out)
  replace BR := hid ((hst.block (w.heap.size + 1) (Array.getElem?_eq_some_iff.1 BR.out).1 (by omega)).trans BR.out)
  replace Ba := hid ((hst.block (w2.heap.size) (Array.getElem?_eq_some_iff.1 Ba.out).1 (by omega)).trans Ba.out)
  replace Bd := hid ((hst.block (w2.heap.size + 1) (Array.getElem?_eq_some_iff.1 Bd.out).1 (by omega)).trans Bd.out)
  replace Bhalf := hid hbn
  clear hW hst hbn
  (with_reducible refine (of_any (n := 2) (by decide) (by decide)).mono ?_)
  rintro e w7 ⟨n_7, a_7, k_7, c_7, rfl, hu_7, hb⟩
  replace HB := hid (bt HB.out hb)
  replace HA := hid (HA.out.below hb)
  replace HD := hid (HD.out.below hb)
  replace HH2 := hid (HH2.out.below hb)
  replace BP := hid (blk_next BP.out hb)
  replace BR := hid (blk_next BR.out hb)
  replace Ba := hid (blk_next Ba.out hb)
  replace Bd := hid (blk_next Bd.out hb)
  replace Bhalf := hid (blk_next Bhalf.out hb)
  have HTWO := hid hu_7
  clear hu_7
  clear hb
  have lt13_P : w.heap.size < w7.heap.size := (Array.getElem?_eq_some_iff.1 BP.out).1
  have lt14_R : w.heap.size + 1 < w7.heap.size := (Array.getElem?_eq_some_iff.1 BR.out).1
  have lt15_a : w2.heap.size < w7.heap.size := (Array.getElem?_eq_some_iff.1 Ba.out).1
  have lt16_d : w2.heap.size + 1 < w7.heap.size := (Array.getElem?_eq_some_iff.1 Bd.out).1
  have lt17_half : w2.heap.size + 1 + 1 < w7.heap.size := (Array.getElem?_eq_some_iff.1 Bhalf.out).1
  obtain ⟨ca0, ca1, fa0, fa1⟩ := res_facts Ba.out
  obtain ⟨cd0, cd1, fd0, fd1⟩ := res_facts Bd.out
  obtain ⟨chalf0, chalf1, fhalf0, fhalf1⟩ := res_facts Bhalf.out
  go_wp2_with fail
  clear ca0 ca1 fa0 fa1 cd0 cd1 fd0 fd1 chalf0 chalf1 fhalf0 fhalf1
  obtain ⟨W8, hW, hs, hb, b0⟩ := alloc1 w7 (.cells #[.bool n_7, .slice a_7 k_7 c_7] 25)
  rw [← hW]
  replace HB := hid (bt HB.out hb)
  replace HA := hid (HA.out.below hb)
  replace HD := hid (HD.out.below hb)
  replace HH2 := hid (HH2.out.below hb)
  replace HTWO := hid (HTWO.out.below hb)
  replace BP := hid (blk_next BP.out hb)
  replace BR := hid (blk_next BR.out hb)
  replace Ba := hid (blk_next Ba.out hb)
  replace Bd := hid (blk_next Bd.out hb)
  replace Bhalf := hid (blk_next Bhalf.out hb)
  have Btwo := hid b0
  clear hW hs hb b0
  go_upto_region 6 with fail
  go_cut [7, 8, 9] (fun s7 s8 s9 wx => ∃ (g : Nat) (n : Bool) (a : Option Addr) (k c : Nat), s7 = .pointer (some ⟨g, 0, none⟩) ∧ wx.cell? ⟨g, 0, none⟩ = some (.bool n) ∧ wx.cell? ⟨g, 1, none⟩ = some (.slice a k c) ∧ IntR wx (.agg #[.bool n, .slice a k c]) (((2 : Int) * q.num + -(q.den : Int)).tdiv ((2 : Int) * (q.den : Int))) ∧ Below W8.heap.size W8 wx)
  case first =>
   have lt18_P : w.heap.size < W8.heap.size := (Array.getElem?_eq_some_iff.1 BP.out).1
   have lt19_R : w.heap.size + 1 < W8.heap.size := (Array.getElem?_eq_some_iff.1 BR.out).1
   have lt20_a : w2.heap.size < W8.heap.size := (Array.getElem?_eq_some_iff.1 Ba.out).1
   have lt21_d : w2.heap.size + 1 < W8.heap.size := (Array.getElem?_eq_some_iff.1 Bd.out).1
   have lt22_half : w2.heap.size + 1 + 1 < W8.heap.size := (Array.getElem?_eq_some_iff.1 Bhalf.out).1
   have lt23_two : w7.heap.size < W8.heap.size := (Array.getElem?_eq_some_iff.1 Btwo.out).1
   obtain ⟨ctwo0, ctwo1, ftwo0, ftwo1⟩ := res_facts Btwo.out
   obtain ⟨ca0, ca1, fa0, fa1⟩ := res_facts Ba.out
   obtain ⟨chalf0, chalf1, fhalf0, fhalf1⟩ := res_facts Bhalf.out
   obtain ⟨cd0, cd1, fd0, fd1⟩ := res_facts Bd.out
   have HCtwo0 := hid ctwo0
   have HCtwo1 := hid ctwo1
   have HCa0 := hid ca0
   have HCa1 := hid ca1
   have HChalf0 := hid chalf0
   have HChalf1 := hid chalf1
   have HCd0 := hid cd0
   have HCd1 := hid cd1
   clear ctwo0 ctwo1 ftwo0 ftwo1 ca0 ca1 fa0 fa1 chalf0 chalf1 fhalf0 fhalf1 cd0 cd1 fd0 fd1
   refine wp_region_inv (by kernel_rfl) (fun b l a w' => ∃ u0 u1 u2 u3 u4 u5 u6 u7 u8 u9 u10 u11 u12 u13 u14 u17 : Value, l.size = 18 ∧ a = (⟨((((((((((((((((b.tmps.setIfInBounds 23 u0).setIfInBounds 24 u1).setIfInBounds 25 u2).setIfInBounds 26 u3).setIfInBounds 27 u4).setIfInBounds 28 u5).setIfInBounds 29 u6).setIfInBounds 30 u7).setIfInBounds 31 u8).setIfInBounds 22 u9).setIfInBounds 32 u10).setIfInBounds 33 u11).setIfInBounds 34 u12).setIfInBounds 7 u13).setIfInBounds 8 u14).setIfInBounds 9 u17), b.defers⟩ : Act) ∧ Below W8.heap.size W8 w' ∧ (l.getD 0 false = true → u0 = .agg #[.bool n_7, .slice a_7 k_7 c_7]) ∧ (l.getD 1 false = true → u1 = .agg #[.bool n_2, .slice a_2 k_2 c_2]) ∧ (l.getD 2 false = true → ∃ (n : Bool) (a : Option Addr) (k c : Nat), u2 = .agg #[.bool n, .slice a k c] ∧ IntR w' (.agg #[.bool n, .slice a k c]) ((2 : Int) * q.num)) ∧ (l.getD 3 false = true → u3 = .agg #[.bool n_5, .slice a_5 k_5 c_5]) ∧ (l.getD 4 false = true → ∃ (n : Bool) (a : Option Addr) (k c : Nat), u4 = .agg #[.bool n, .slice a k c] ∧ IntR w' (.agg #[.bool n, .slice a k c]) ((2 : Int) * q.num + -(q.den : Int))) ∧ (l.getD 5 false = true → u5 = .agg #[.bool n_7, .slice a_7 k_7 c_7]) ∧ (l.getD 6 false = true → u6 = .agg #[.bool n2_2, .slice a2_2 k2_2 c2_2]) ∧ (l.getD 7 false = true → ∃ (n : Bool) (a : Option Addr) (k c : Nat), u7 = .agg #[.bool n, .slice a k c] ∧ IntR w' (.agg #[.bool n, .slice a k c]) ((2 : Int) * (q.den : Int))) ∧ (l.getD 8 false = true → ∃ (n : Bool) (a : Option Addr) (k c : Nat) (n2 : Bool) (a2 : Option Addr) (k2 c2 : Nat), u8 = .tuple #[.agg #[.bool n, .slice a k c], .agg #[.bool n2, .slice a2 k2 c2], .int .i64 0] ∧ IntR w' (.agg #[.bool n, .slice a k c]) (((2 : Int) * q.num + -(q.den : Int)).tdiv ((2 : Int) * (q.den : Int)))) ∧ (l.getD 9 false = true → ∃ (n : Bool) (a : Option Addr) (k c : Nat) (n2 : Bool) (a2 : Option Addr) (k2 c2 : Nat), u9 = .tuple #[.agg #[.bool n, .slice a k c], .agg #[.bool n2, .slice a2 k2 c2], .int .i64 0] ∧ IntR w' (.agg #[.bool n, .slice a k c]) (((2 : Int) * q.num + -(q.den : Int)).tdiv ((2 : Int) * (q.den : Int)))) ∧ (l.getD 10 false = true → ∃ (n : Bool) (a : Option Addr) (k c : Nat), u10 = .agg #[.bool n, .slice a k c] ∧ IntR w' (.agg #[.bool n, .slice a k c]) (((2 : Int) * q.num + -(q.den : Int)).tdiv ((2 : Int) * (q.den : Int)))) ∧ (l.getD 11 false = true → ∃ (n : Bool) (a : Option Addr) (k c : Nat), u11 = .agg #[.bool n, .slice a k c]) ∧ (l.getD 12 false = true → u12 = .int .i64 0) ∧ (l.getD 13 false = true → ∃ (g : Nat) (n : Bool) (a : Option Addr) (k c : Nat), u13 = .pointer (some ⟨g, 0, none⟩) ∧ W8.heap.size ≤ g ∧ w'.heap[g]? = some (.cells #[.bool n, .slice a k c] 25 (0, 0))) ∧ (l.getD 14 false = true → ∃ (g : Nat) (n : Bool) (a : Option Addr) (k c : Nat), u14 = .pointer (some ⟨g, 0, none⟩) ∧ W8.heap.size ≤ g ∧ w'.heap[g]? = some (.cells #[.bool n, .slice a k c] 25 (0, 0))) ∧ (l.getD 15 false = true → ∃ (g : Nat) (n : Bool) (a : Option Addr) (k c : Nat), u13 = .pointer (some ⟨g, 0, none⟩) ∧ w'.heap[g]? = some (.cells #[.bool n, .slice a k c] 25 (0, 0)) ∧ IntR w' (.agg #[.bool n, .slice a k c]) (((2 : Int) * q.num + -(q.den : Int)).tdiv ((2 : Int) * (q.den : Int)))) ∧ (l.getD 16 false = true → True) ∧ (l.getD 17 false = true → u17 = .int .i64 0) ∧ (l.getD 13 false = true → l.getD 14 false = true → ∃ (g g' : Nat), u13 = .pointer (some ⟨g, 0, none⟩) ∧ u14 = .pointer (some ⟨g', 0, none⟩) ∧ g ≠ g') ∧ (l.getD 15 false = true → l.getD 13 false = true ∧ l.getD 14 false = true) ∧ (l.getD 16 false = true → l.getD 13 false = true ∧ l.getD 14 false = true)) ?_ ?_ ?_ ?_ ?_
   ·refine ⟨undef, undef, undef, undef, undef, undef, undef, undef, undef, undef, undef, undef, undef, undef, undef, undef, by simp, by simp only [List.setIfInBounds_toArray, List.set_cons_zero, List.set_cons_succ], Below.drew (Below.refl _ _), ?_, ?_, ?_, ?_, ?_, ?_, ?_, ?_, ?_, ?_, ?_, ?_, ?_, ?_, ?_, ?_, ?_, ?_, ?_, ?_, ?_⟩
    all_goals (intro h; exact absurd h (by decide))
   ·rintro l a' w' ⟨_, _, _, _, _, _, _, _, _, _, _, _, _, _, _, _, hs, _⟩
    exact hs
   ·intro i o ho
    exact region_ord (by kernel_rfl) i o ho
   ·rintro l a' w' i o ⟨u0, u1, u2, u3, u4, u5, u6, u7, u8, u9, u10, u11, u12, u13, u14, u17, hs, rfl, hB, f0, f1, f2, f3, f4, f5, f6, f7, f8, f9, f10, f11, f12, f13, f14, f15, f16, f17, fd, fc15, fc16⟩ ho hu ha
    have HS := hid hs
    have HBW := hid hB
    have F0 := hid f0
    have F1 := hid f1
    have F2 := hid f2
    have F3 := hid f3
    have F4 := hid f4
    have F5 := hid f5
    have F6 := hid f6
    have F7 := hid f7
    have F8 := hid f8
    have F9 := hid f9
    have F10 := hid f10
    have F11 := hid f11
    have F12 := hid f12
    have F13 := hid f13
    have F14 := hid f14
    have F15 := hid f15
    have F16 := hid f16
    have F17 := hid f17
    have FD := hid fd
    have FC15 := hid fc15
    have FC16 := hid fc16
    clear hs hB f0 f1 f2 f3 f4 f5 f6 f7 f8 f9 f10 f11 f12 f13 f14 f15 f16 f17 fd fc15 fc16
    have hi : i < 18 := (Array.getElem?_eq_some_iff.1 ho).1
    rcases i with _ | i
    ·simp only [List.getElem?_toArray, List.getElem?_cons_zero, Option.some.injEq] at ho
     subst ho
     clear ha
     have cc0 := keepc HBW.out HCtwo0.out
     have cc1 := keepc HBW.out HCtwo1.out
     refine wpOp_step rfl (fun K' hK => ?_)
     replace hK := hid hK
     go_simp
     replace hK := hK.out
     refine hK _ _ ⟨.agg #[.bool n_7, .slice a_7 k_7 c_7], u1, u2, u3, u4, u5, u6, u7, u8, u9, u10, u11, u12, u13, u14, u17, by rw [Array.size_setIfInBounds]; exact HS.out, by simp only [List.setIfInBounds_toArray, List.set_cons_zero, List.set_cons_succ], HBW.out, ?_, ?_, ?_, ?_, ?_, ?_, ?_, ?_, ?_, ?_, ?_, ?_, ?_, ?_, ?_, ?_, ?_, ?_, ?_, ?_, ?_⟩
     ·exact fun _ => rfl
     ·exact fun h => F1.out (listed_old h (by decide))
     ·exact fun h => by obtain ⟨n, a, k, c, e, hz⟩ := F2.out (listed_old h (by decide)); exact ⟨n, a, k, c, e, hz⟩
     ·exact fun h => F3.out (listed_old h (by decide))
     ·exact fun h => by obtain ⟨n, a, k, c, e, hz⟩ := F4.out (listed_old h (by decide)); exact ⟨n, a, k, c, e, hz⟩
     ·exact fun h => F5.out (listed_old h (by decide))
     ·exact fun h => F6.out (listed_old h (by decide))
     ·exact fun h => by obtain ⟨n, a, k, c, e, hz⟩ := F7.out (listed_old h (by decide)); exact ⟨n, a, k, c, e, hz⟩
     ·exact fun h => by obtain ⟨n, a, k, c, n2, a2, k2, c2, e, hz⟩ := F8.out (listed_old h (by decide)); exact ⟨n, a, k, c, n2, a2, k2, c2, e, hz⟩
     ·exact fun h => by obtain ⟨n, a, k, c, n2, a2, k2, c2, e, hz⟩ := F9.out (listed_old h (by decide)); exact ⟨n, a, k, c, n2, a2, k2, c2, e, hz⟩
     ·exact fun h => by obtain ⟨n, a, k, c, e, hz⟩ := F10.out (listed_old h (by decide)); exact ⟨n, a, k, c, e, hz⟩
     ·exact fun h => F11.out (listed_old h (by decide))
     ·exact fun h => F12.out (listed_old h (by decide))
     ·exact fun h => F13.out (listed_old h (by decide))
     ·exact fun h => F14.out (listed_old h (by decide))
     ·exact fun h => F15.out (listed_old h (by decide))
     ·exact fun h => F16.out (listed_old h (by decide))
     ·exact fun h => F17.out (listed_old h (by decide))
     ·exact fun h h' => FD.out (listed_old h (by decide)) (listed_old h' (by decide))
     ·exact fun h => ⟨listed_new (FC15.out (listed_old h (by decide))).1 (by decide), listed_new (FC15.out (listed_old h (by decide))).2 (by decide)⟩
     ·exact fun h => ⟨listed_new (FC16.out (listed_old h (by decide))).1 (by decide), listed_new (FC16.out (listed_old h (by decide))).2 (by decide)⟩
    rcases i with _ | i
    ·simp only [List.getElem?_toArray, List.getElem?_cons_zero, List.getElem?_cons_succ, Option.some.injEq] at ho
     subst ho
     clear ha
     have cc0 := keepc HBW.out HCa0.out
     have cc1 := keepc HBW.out HCa1.out
     refine wpOp_step rfl (fun K' hK => ?_)
     replace hK := hid hK
     go_simp
     replace hK := hK.out
     refine hK _ _ ⟨u0, .agg #[.bool n_2, .slice a_2 k_2 c_2], u2, u3, u4, u5, u6, u7, u8, u9, u10, u11, u12, u13, u14, u17, by rw [Array.size_setIfInBounds]; exact HS.out, by simp only [List.setIfInBounds_toArray, List.set_cons_zero, List.set_cons_succ], HBW.out, ?_, ?_, ?_, ?_, ?_, ?_, ?_, ?_, ?_, ?_, ?_, ?_, ?_, ?_, ?_, ?_, ?_, ?_, ?_, ?_, ?_⟩
     ·exact fun h => F0.out (listed_old h (by decide))
     ·exact fun _ => rfl
     ·exact fun h => by obtain ⟨n, a, k, c, e, hz⟩ := F2.out (listed_old h (by decide)); exact ⟨n, a, k, c, e, hz⟩
     ·exact fun h => F3.out (listed_old h (by decide))
     ·exact fun h => by obtain ⟨n, a, k, c, e, hz⟩ := F4.out (listed_old h (by decide)); exact ⟨n, a, k, c, e, hz⟩
     ·exact fun h => F5.out (listed_old h (by decide))
     ·exact fun h => F6.out (listed_old h (by decide))
     ·exact fun h => by obtain ⟨n, a, k, c, e, hz⟩ := F7.out (listed_old h (by decide)); exact ⟨n, a, k, c, e, hz⟩
     ·exact fun h => by obtain ⟨n, a, k, c, n2, a2, k2, c2, e, hz⟩ := F8.out (listed_old h (by decide)); exact ⟨n, a, k, c, n2, a2, k2, c2, e, hz⟩
     ·exact fun h => by obtain ⟨n, a, k, c, n2, a2, k2, c2, e, hz⟩ := F9.out (listed_old h (by decide)); exact ⟨n, a, k, c, n2, a2, k2, c2, e, hz⟩
     ·exact fun h => by obtain ⟨n, a, k, c, e, hz⟩ := F10.out (listed_old h (by decide)); exact ⟨n, a, k, c, e, hz⟩
     ·exact fun h => F11.out (listed_old h (by decide))
     ·exact fun h => F12.out (listed_old h (by decide))
     ·exact fun h => F13.out (listed_old h (by decide))
     ·exact fun h => F14.out (listed_old h (by decide))
     ·exact fun h => F15.out (listed_old h (by decide))
     ·exact fun h => F16.out (listed_old h (by decide))
     ·exact fun h => F17.out (listed_old h (by decide))
     ·exact fun h h' => FD.out (listed_old h (by decide)) (listed_old h' (by decide))
     ·exact fun h => ⟨listed_new (FC15.out (listed_old h (by decide))).1 (by decide), listed_new (FC15.out (listed_old h (by decide))).2 (by decide)⟩
     ·exact fun h => ⟨listed_new (FC16.out (listed_old h (by decide))).1 (by decide), listed_new (FC16.out (listed_old h (by decide))).2 (by decide)⟩
    rcases i with _ | i
    ·simp only [List.getElem?_toArray, List.getElem?_cons_zero, List.getElem?_cons_succ, Option.some.injEq] at ho
     subst ho
     have q0 : l.getD 0 false = true := ha ⟨0, .data⟩ (by simp) rfl
     have q1 : l.getD 1 false = true := ha ⟨1, .data⟩ (by simp) rfl
     clear ha
     obtain rfl := F0.out q0
     obtain rfl := F1.out q1
     refine wpOp_step rfl (fun K' hK => ?_)
     replace hK := hid hK
     go_simp
     (with_reducible refine (mul_any (HTWO.out.below HBW.out) (HA.out.below HBW.out) t2 hq4 (by omega)).mono ?_)
     rintro e v1 ⟨m1, e1, i1, j1, rfl, hz, hb⟩
     have HZ := hid hz
     clear hz
     go_simp
     replace hK := hK.out
     refine hK _ _ ⟨.agg #[.bool n_7, .slice a_7 k_7 c_7], .agg #[.bool n_2, .slice a_2 k_2 c_2], .agg #[.bool m1, .slice e1 i1 j1], u3, u4, u5, u6, u7, u8, u9, u10, u11, u12, u13, u14, u17, by rw [Array.size_setIfInBounds]; exact HS.out, by simp only [List.setIfInBounds_toArray, List.set_cons_zero, List.set_cons_succ], HBW.out.trans (hb.mono HBW.out.size), ?_, ?_, ?_, ?_, ?_, ?_, ?_, ?_, ?_, ?_, ?_, ?_, ?_, ?_, ?_, ?_, ?_, ?_, ?_, ?_, ?_⟩
     ·exact fun h => F0.out (listed_old h (by decide))
     ·exact fun h => F1.out (listed_old h (by decide))
     ·exact fun _ => ⟨m1, e1, i1, j1, rfl, HZ.out⟩
     ·exact fun h => F3.out (listed_old h (by decide))
     ·exact fun h => by obtain ⟨n, a, k, c, e, hz⟩ := F4.out (listed_old h (by decide)); exact ⟨n, a, k, c, e, (hz.below hb)⟩
     ·exact fun h => F5.out (listed_old h (by decide))
     ·exact fun h => F6.out (listed_old h (by decide))
     ·exact fun h => by obtain ⟨n, a, k, c, e, hz⟩ := F7.out (listed_old h (by decide)); exact ⟨n, a, k, c, e, (hz.below hb)⟩
     ·exact fun h => by obtain ⟨n, a, k, c, n2, a2, k2, c2, e, hz⟩ := F8.out (listed_old h (by decide)); exact ⟨n, a, k, c, n2, a2, k2, c2, e, (hz.below hb)⟩
     ·exact fun h => by obtain ⟨n, a, k, c, n2, a2, k2, c2, e, hz⟩ := F9.out (listed_old h (by decide)); exact ⟨n, a, k, c, n2, a2, k2, c2, e, (hz.below hb)⟩
     ·exact fun h => by obtain ⟨n, a, k, c, e, hz⟩ := F10.out (listed_old h (by decide)); exact ⟨n, a, k, c, e, (hz.below hb)⟩
     ·exact fun h => F11.out (listed_old h (by decide))
     ·exact fun h => F12.out (listed_old h (by decide))
     ·exact fun h => by obtain ⟨g, n, a, k, c, e, hg, hh⟩ := F13.out (listed_old h (by decide)); exact ⟨g, n, a, k, c, e, hg, blk_next hh hb⟩
     ·exact fun h => by obtain ⟨g, n, a, k, c, e, hg, hh⟩ := F14.out (listed_old h (by decide)); exact ⟨g, n, a, k, c, e, hg, blk_next hh hb⟩
     ·exact fun h => by obtain ⟨g, n, a, k, c, e, hh, hz⟩ := F15.out (listed_old h (by decide)); exact ⟨g, n, a, k, c, e, blk_next hh hb, hz.below hb⟩
     ·exact fun h => F16.out (listed_old h (by decide))
     ·exact fun h => F17.out (listed_old h (by decide))
     ·exact fun h h' => FD.out (listed_old h (by decide)) (listed_old h' (by decide))
     ·exact fun h => ⟨listed_new (FC15.out (listed_old h (by decide))).1 (by decide), listed_new (FC15.out (listed_old h (by decide))).2 (by decide)⟩
     ·exact fun h => ⟨listed_new (FC16.out (listed_old h (by decide))).1 (by decide), listed_new (FC16.out (listed_old h (by decide))).2 (by decide)⟩
    rcases i with _ | i
    ·simp only [List.getElem?_toArray, List.getElem?_cons_zero, List.getElem?_cons_succ, Option.some.injEq] at ho
     subst ho
     clear ha
     have cc0 := keepc HBW.out HChalf0.out
     have cc1 := keepc HBW.out HChalf1.out
     refine wpOp_step rfl (fun K' hK => ?_)
     replace hK := hid hK
     go_simp
     replace hK := hK.out
     refine hK _ _ ⟨u0, u1, u2, .agg #[.bool n_5, .slice a_5 k_5 c_5], u4, u5, u6, u7, u8, u9, u10, u11, u12, u13, u14, u17, by rw [Array.size_setIfInBounds]; exact HS.out, by simp only [List.setIfInBounds_toArray, List.set_cons_zero, List.set_cons_succ], HBW.out, ?_, ?_, ?_, ?_, ?_, ?_, ?_, ?_, ?_, ?_, ?_, ?_, ?_, ?_, ?_, ?_, ?_, ?_, ?_, ?_, ?_⟩
     ·exact fun h => F0.out (listed_old h (by decide))
     ·exact fun h => F1.out (listed_old h (by decide))
     ·exact fun h => by obtain ⟨n, a, k, c, e, hz⟩ := F2.out (listed_old h (by decide)); exact ⟨n, a, k, c, e, hz⟩
     ·exact fun _ => rfl
     ·exact fun h => by obtain ⟨n, a, k, c, e, hz⟩ := F4.out (listed_old h (by decide)); exact ⟨n, a, k, c, e, hz⟩
     ·exact fun h => F5.out (listed_old h (by decide))
     ·exact fun h => F6.out (listed_old h (by decide))
     ·exact fun h => by obtain ⟨n, a, k, c, e, hz⟩ := F7.out (listed_old h (by decide)); exact ⟨n, a, k, c, e, hz⟩
     ·exact fun h => by obtain ⟨n, a, k, c, n2, a2, k2, c2, e, hz⟩ := F8.out (listed_old h (by decide)); exact ⟨n, a, k, c, n2, a2, k2, c2, e, hz⟩
     ·exact fun h => by obtain ⟨n, a, k, c, n2, a2, k2, c2, e, hz⟩ := F9.out (listed_old h (by decide)); exact ⟨n, a, k, c, n2, a2, k2, c2, e, hz⟩
     ·exact fun h => by obtain ⟨n, a, k, c, e, hz⟩ := F10.out (listed_old h (by decide)); exact ⟨n, a, k, c, e, hz⟩
     ·exact fun h => F11.out (listed_old h (by decide))
     ·exact fun h => F12.out (listed_old h (by decide))
     ·exact fun h => F13.out (listed_old h (by decide))
     ·exact fun h => F14.out (listed_old h (by decide))
     ·exact fun h => F15.out (listed_old h (by decide))
     ·exact fun h => F16.out (listed_old h (by decide))
     ·exact fun h => F17.out (listed_old h (by decide))
     ·exact fun h h' => FD.out (listed_old h (by decide)) (listed_old h' (by decide))
     ·exact fun h => ⟨listed_new (FC15.out (listed_old h (by decide))).1 (by decide), listed_new (FC15.out (listed_old h (by decide))).2 (by decide)⟩
     ·exact fun h => ⟨listed_new (FC16.out (listed_old h (by decide))).1 (by decide), listed_new (FC16.out (listed_old h (by decide))).2 (by decide)⟩
    rcases i with _ | i
    ·simp only [List.getElem?_toArray, List.getElem?_cons_zero, List.getElem?_cons_succ, Option.some.injEq] at ho
     subst ho
     have q2 : l.getD 2 false = true := ha ⟨2, .data⟩ (by simp) rfl
     have q3 : l.getD 3 false = true := ha ⟨3, .data⟩ (by simp) rfl
     clear ha
     obtain ⟨n2, a2, k2, c2, rfl, hz2⟩ := F2.out q2
     have HZ2 := hid hz2
     clear hz2
     obtain rfl := F3.out q3
     refine wpOp_step rfl (fun K' hK => ?_)
     replace hK := hid hK
     go_simp
     (with_reducible refine (add_any HZ2.out (HH2.out.below HBW.out) d1 d3 (by omega)).mono ?_)
     rintro e v1 ⟨m1, e1, i1, j1, rfl, hz, hb⟩
     have HZ := hid hz
     clear hz
     go_simp
     replace hK := hK.out
     refine hK _ _ ⟨u0, u1, .agg #[.bool n2, .slice a2 k2 c2], .agg #[.bool n_5, .slice a_5 k_5 c_5], .agg #[.bool m1, .slice e1 i1 j1], u5, u6, u7, u8, u9, u10, u11, u12, u13, u14, u17, by rw [Array.size_setIfInBounds]; exact HS.out, by simp only [List.setIfInBounds_toArray, List.set_cons_zero, List.set_cons_succ], HBW.out.trans (hb.mono HBW.out.size), ?_, ?_, ?_, ?_, ?_, ?_, ?_, ?_, ?_, ?_, ?_, ?_, ?_, ?_, ?_, ?_, ?_, ?_, ?_, ?_, ?_⟩
     ·exact fun h => F0.out (listed_old h (by decide))
     ·exact fun h => F1.out (listed_old h (by decide))
     ·exact fun h => by obtain ⟨n, a, k, c, e, hz⟩ := F2.out (listed_old h (by decide)); exact ⟨n, a, k, c, e, (hz.below hb)⟩
     ·exact fun h => F3.out (listed_old h (by decide))
     ·exact fun _ => ⟨m1, e1, i1, j1, rfl, HZ.out⟩
     ·exact fun h => F5.out (listed_old h (by decide))
     ·exact fun h => F6.out (listed_old h (by decide))
     ·exact fun h => by obtain ⟨n, a, k, c, e, hz⟩ := F7.out (listed_old h (by decide)); exact ⟨n, a, k, c, e, (hz.below hb)⟩
     ·exact fun h => by obtain ⟨n, a, k, c, n2, a2, k2, c2, e, hz⟩ := F8.out (listed_old h (by decide)); exact ⟨n, a, k, c, n2, a2, k2, c2, e, (hz.below hb)⟩
     ·exact fun h => by obtain ⟨n, a, k, c, n2, a2, k2, c2, e, hz⟩ := F9.out (listed_old h (by decide)); exact ⟨n, a, k, c, n2, a2, k2, c2, e, (hz.below hb)⟩
     ·exact fun h => by obtain ⟨n, a, k, c, e, hz⟩ := F10.out (listed_old h (by decide)); exact ⟨n, a, k, c, e, (hz.below hb)⟩
     ·exact fun h => F11.out (listed_old h (by decide))
     ·exact fun h => F12.out (listed_old h (by decide))
     ·exact fun h => by obtain ⟨g, n, a, k, c, e, hg, hh⟩ := F13.out (listed_old h (by decide)); exact ⟨g, n, a, k, c, e, hg, blk_next hh hb⟩
     ·exact fun h => by obtain ⟨g, n, a, k, c, e, hg, hh⟩ := F14.out (listed_old h (by decide)); exact ⟨g, n, a, k, c, e, hg, blk_next hh hb⟩
     ·exact fun h => by obtain ⟨g, n, a, k, c, e, hh, hz⟩ := F15.out (listed_old h (by decide)); exact ⟨g, n, a, k, c, e, blk_next hh hb, hz.below hb⟩
     ·exact fun h => F16.out (listed_old h (by decide))
     ·exact fun h => F17.out (listed_old h (by decide))
     ·exact fun h h' => FD.out (listed_old h (by decide)) (listed_old h' (by decide))
     ·exact fun h => ⟨listed_new (FC15.out (listed_old h (by decide))).1 (by decide), listed_new (FC15.out (listed_old h (by decide))).2 (by decide)⟩
     ·exact fun h => ⟨listed_new (FC16.out (listed_old h (by decide))).1 (by decide), listed_new (FC16.out (listed_old h (by decide))).2 (by decide)⟩
    rcases i with _ | i
    ·simp only [List.getElem?_toArray, List.getElem?_cons_zero, List.getElem?_cons_succ, Option.some.injEq] at ho
     subst ho
     clear ha
     have cc0 := keepc HBW.out HCtwo0.out
     have cc1 := keepc HBW.out HCtwo1.out
     refine wpOp_step rfl (fun K' hK => ?_)
     replace hK := hid hK
     go_simp
     replace hK := hK.out
     refine hK _ _ ⟨u0, u1, u2, u3, u4, .agg #[.bool n_7, .slice a_7 k_7 c_7], u6, u7, u8, u9, u10, u11, u12, u13, u14, u17, by rw [Array.size_setIfInBounds]; exact HS.out, by simp only [List.setIfInBounds_toArray, List.set_cons_zero, List.set_cons_succ], HBW.out, ?_, ?_, ?_, ?_, ?_, ?_, ?_, ?_, ?_, ?_, ?_, ?_, ?_, ?_, ?_, ?_, ?_, ?_, ?_, ?_, ?_⟩
     ·exact fun h => F0.out (listed_old h (by decide))
     ·exact fun h => F1.out (listed_old h (by decide))
     ·exact fun h => by obtain ⟨n, a, k, c, e, hz⟩ := F2.out (listed_old h (by decide)); exact ⟨n, a, k, c, e, hz⟩
     ·exact fun h => F3.out (listed_old h (by decide))
     ·exact fun h => by obtain ⟨n, a, k, c, e, hz⟩ := F4.out (listed_old h (by decide)); exact ⟨n, a, k, c, e, hz⟩
     ·exact fun _ => rfl
     ·exact fun h => F6.out (listed_old h (by decide))
     ·exact fun h => by obtain ⟨n, a, k, c, e, hz⟩ := F7.out (listed_old h (by decide)); exact ⟨n, a, k, c, e, hz⟩
     ·exact fun h => by obtain ⟨n, a, k, c, n2, a2, k2, c2, e, hz⟩ := F8.out (listed_old h (by decide)); exact ⟨n, a, k, c, n2, a2, k2, c2, e, hz⟩
     ·exact fun h => by obtain ⟨n, a, k, c, n2, a2, k2, c2, e, hz⟩ := F9.out (listed_old h (by decide)); exact ⟨n, a, k, c, n2, a2, k2, c2, e, hz⟩
     ·exact fun h => by obtain ⟨n, a, k, c, e, hz⟩ := F10.out (listed_old h (by decide)); exact ⟨n, a, k, c, e, hz⟩
     ·exact fun h => F11.out (listed_old h (by decide))
     ·exact fun h => F12.out (listed_old h (by decide))
     ·exact fun h => F13.out (listed_old h (by decide))
     ·exact fun h => F14.out (listed_old h (by decide))
     ·exact fun h => F15.out (listed_old h (by decide))
     ·exact fun h => F16.out (listed_old h (by decide))
     ·exact fun h => F17.out (listed_old h (by decide))
     ·exact fun h h' => FD.out (listed_old h (by decide)) (listed_old h' (by decide))
     ·exact fun h => ⟨listed_new (FC15.out (listed_old h (by decide))).1 (by decide), listed_new (FC15.out (listed_old h (by decide))).2 (by decide)⟩
     ·exact fun h => ⟨listed_new (FC16.out (listed_old h (by decide))).1 (by decide), listed_new (FC16.out (listed_old h (by decide))).2 (by decide)⟩
    rcases i with _ | i
    ·simp only [List.getElem?_toArray, List.getElem?_cons_zero, List.getElem?_cons_succ, Option.some.injEq] at ho
     subst ho
     clear ha
     have cc0 := keepc HBW.out HCd0.out
     have cc1 := keepc HBW.out HCd1.out
     refine wpOp_step rfl (fun K' hK => ?_)
     replace hK := hid hK
     go_simp
     replace hK := hK.out
     refine hK _ _ ⟨u0, u1, u2, u3, u4, u5, .agg #[.bool n2_2, .slice a2_2 k2_2 c2_2], u7, u8, u9, u10, u11, u12, u13, u14, u17, by rw [Array.size_setIfInBounds]; exact HS.out, by simp only [List.setIfInBounds_toArray, List.set_cons_zero, List.set_cons_succ], HBW.out, ?_, ?_, ?_, ?_, ?_, ?_, ?_, ?_, ?_, ?_, ?_, ?_, ?_, ?_, ?_, ?_, ?_, ?_, ?_, ?_, ?_⟩
     ·exact fun h => F0.out (listed_old h (by decide))
     ·exact fun h => F1.out (listed_old h (by decide))
     ·exact fun h => by obtain ⟨n, a, k, c, e, hz⟩ := F2.out (listed_old h (by decide)); exact ⟨n, a, k, c, e, hz⟩
     ·exact fun h => F3.out (listed_old h (by decide))
     ·exact fun h => by obtain ⟨n, a, k, c, e, hz⟩ := F4.out (listed_old h (by decide)); exact ⟨n, a, k, c, e, hz⟩
     ·exact fun h => F5.out (listed_old h (by decide))
     ·exact fun _ => rfl
     ·exact fun h => by obtain ⟨n, a, k, c, e, hz⟩ := F7.out (listed_old h (by decide)); exact ⟨n, a, k, c, e, hz⟩
     ·exact fun h => by obtain ⟨n, a, k, c, n2, a2, k2, c2, e, hz⟩ := F8.out (listed_old h (by decide)); exact ⟨n, a, k, c, n2, a2, k2, c2, e, hz⟩
     ·exact fun h => by obtain ⟨n, a, k, c, n2, a2, k2, c2, e, hz⟩ := F9.out (listed_old h (by decide)); exact ⟨n, a, k, c, n2, a2, k2, c2, e, hz⟩
     ·exact fun h => by obtain ⟨n, a, k, c, e, hz⟩ := F10.out (listed_old h (by decide)); exact ⟨n, a, k, c, e, hz⟩
     ·exact fun h => F11.out (listed_old h (by decide))
     ·exact fun h => F12.out (listed_old h (by decide))
     ·exact fun h => F13.out (listed_old h (by decide))
     ·exact fun h => F14.out (listed_old h (by decide))
     ·exact fun h => F15.out (listed_old h (by decide))
     ·exact fun h => F16.out (listed_old h (by decide))
     ·exact fun h => F17.out (listed_old h (by decide))
     ·exact fun h h' => FD.out (listed_old h (by decide)) (listed_old h' (by decide))
     ·exact fun h => ⟨listed_new (FC15.out (listed_old h (by decide))).1 (by decide), listed_new (FC15.out (listed_old h (by decide))).2 (by decide)⟩
     ·exact fun h => ⟨listed_new (FC16.out (listed_old h (by decide))).1 (by decide), listed_new (FC16.out (listed_old h (by decide))).2 (by decide)⟩
    rcases i with _ | i
    ·simp only [List.getElem?_toArray, List.getElem?_cons_zero, List.getElem?_cons_succ, Option.some.injEq] at ho
     subst ho
     have q5 : l.getD 5 false = true := ha ⟨5, .data⟩ (by simp) rfl
     have q6 : l.getD 6 false = true := ha ⟨6, .data⟩ (by simp) rfl
     clear ha
     obtain rfl := F5.out q5
     obtain rfl := F6.out q6
     refine wpOp_step rfl (fun K' hK => ?_)
     replace hK := hid hK
     go_simp
     (with_reducible refine (mul_any (HTWO.out.below HBW.out) (HD.out.below HBW.out) t2 hq5 (by omega)).mono ?_)
     rintro e v1 ⟨m1, e1, i1, j1, rfl, hz, hb⟩
     have HZ := hid hz
     clear hz
     go_simp
     replace hK := hK.out
     refine hK _ _ ⟨u0, u1, u2, u3, u4, .agg #[.bool n_7, .slice a_7 k_7 c_7], .agg #[.bool n2_2, .slice a2_2 k2_2 c2_2], .agg #[.bool m1, .slice e1 i1 j1], u8, u9, u10, u11, u12, u13, u14, u17, by rw [Array.size_setIfInBounds]; exact HS.out, by simp only [List.setIfInBounds_toArray, List.set_cons_zero, List.set_cons_succ], HBW.out.trans (hb.mono HBW.out.size), ?_, ?_, ?_, ?_, ?_, ?_, ?_, ?_, ?_, ?_, ?_, ?_, ?_, ?_, ?_, ?_, ?_, ?_, ?_, ?_, ?_⟩
     ·exact fun h => F0.out (listed_old h (by decide))
     ·exact fun h => F1.out (listed_old h (by decide))
     ·exact fun h => by obtain ⟨n, a, k, c, e, hz⟩ := F2.out (listed_old h (by decide)); exact ⟨n, a, k, c, e, (hz.below hb)⟩
     ·exact fun h => F3.out (listed_old h (by decide))
     ·exact fun h => by obtain ⟨n, a, k, c, e, hz⟩ := F4.out (listed_old h (by decide)); exact ⟨n, a, k, c, e, (hz.below hb)⟩
     ·exact fun h => F5.out (listed_old h (by decide))
     ·exact fun h => F6.out (listed_old h (by decide))
     ·exact fun _ => ⟨m1, e1, i1, j1, rfl, HZ.out⟩
     ·exact fun h => by obtain ⟨n, a, k, c, n2, a2, k2, c2, e, hz⟩ := F8.out (listed_old h (by decide)); exact ⟨n, a, k, c, n2, a2, k2, c2, e, (hz.below hb)⟩
     ·exact fun h => by obtain ⟨n, a, k, c, n2, a2, k2, c2, e, hz⟩ := F9.out (listed_old h (by decide)); exact ⟨n, a, k, c, n2, a2, k2, c2, e, (hz.below hb)⟩
     ·exact fun h => by obtain ⟨n, a, k, c, e, hz⟩ := F10.out (listed_old h (by decide)); exact ⟨n, a, k, c, e, (hz.below hb)⟩
     ·exact fun h => F11.out (listed_old h (by decide))
     ·exact fun h => F12.out (listed_old h (by decide))
     ·exact fun h => by obtain ⟨g, n, a, k, c, e, hg, hh⟩ := F13.out (listed_old h (by decide)); exact ⟨g, n, a, k, c, e, hg, blk_next hh hb⟩
     ·exact fun h => by obtain ⟨g, n, a, k, c, e, hg, hh⟩ := F14.out (listed_old h (by decide)); exact ⟨g, n, a, k, c, e, hg, blk_next hh hb⟩
     ·exact fun h => by obtain ⟨g, n, a, k, c, e, hh, hz⟩ := F15.out (listed_old h (by decide)); exact ⟨g, n, a, k, c, e, blk_next hh hb, hz.below hb⟩
     ·exact fun h => F16.out (listed_old h (by decide))
     ·exact fun h => F17.out (listed_old h (by decide))
     ·exact fun h h' => FD.out (listed_old h (by decide)) (listed_old h' (by decide))
     ·exact fun h => ⟨listed_new (FC15.out (listed_old h (by decide))).1 (by decide), listed_new (FC15.out (listed_old h (by decide))).2 (by decide)⟩
     ·exact fun h => ⟨listed_new (FC16.out (listed_old h (by decide))).1 (by decide), listed_new (FC16.out (listed_old h (by decide))).2 (by decide)⟩
    rcases i with _ | i
    ·simp only [List.getElem?_toArray, List.getElem?_cons_zero, List.getElem?_cons_succ, Option.some.injEq] at ho
     subst ho
     have q4 : l.getD 4 false = true := ha ⟨4, .data⟩ (by simp) rfl
     have q7 : l.getD 7 false = true := ha ⟨7, .data⟩ (by simp) rfl
     clear ha
     obtain ⟨n4, a4, k4, c4, rfl, hz4⟩ := F4.out q4
     have HZ4 := hid hz4
     clear hz4
     obtain ⟨n7, a7, k7, c7, rfl, hz7⟩ := F7.out q7
     have HZ7 := hid hz7
     clear hz7
     refine wpOp_step rfl (fun K' hK => ?_)
     replace hK := hid hK
     go_simp
     (with_reducible refine (quorem_any HZ4.out HZ7.out HZ.out d5 (by omega)).mono ?_)
     rintro e v1 ⟨m1, e1, i1, j1, m2, e2, i2, j2, rfl, hz, _, hb⟩
     have HZ := hid hz
     clear hz
     go_simp
     replace hK := hK.out
     refine hK _ _ ⟨u0, u1, u2, u3, .agg #[.bool n4, .slice a4 k4 c4], u5, u6, .agg #[.bool n7, .slice a7 k7 c7], .tuple #[.agg #[.bool m1, .slice e1 i1 j1], .agg #[.bool m2, .slice e2 i2 j2], .int .i64 0], u9, u10, u11, u12, u13, u14, u17, by rw [Array.size_setIfInBounds]; exact HS.out, by simp only [List.setIfInBounds_toArray, List.set_cons_zero, List.set_cons_succ], HBW.out.trans (hb.mono HBW.out.size), ?_, ?_, ?_, ?_, ?_, ?_, ?_, ?_, ?_, ?_, ?_, ?_, ?_, ?_, ?_, ?_, ?_, ?_, ?_, ?_, ?_⟩
     ·exact fun h => F0.out (listed_old h (by decide))
     ·exact fun h => F1.out (listed_old h (by decide))
     ·exact fun h => by obtain ⟨n, a, k, c, e, hz⟩ := F2.out (listed_old h (by decide)); exact ⟨n, a, k, c, e, (hz.below hb)⟩
     ·exact fun h => F3.out (listed_old h (by decide))
     ·exact fun h => by obtain ⟨n, a, k, c, e, hz⟩ := F4.out (listed_old h (by decide)); exact ⟨n, a, k, c, e, (hz.below hb)⟩
     ·exact fun h => F5.out (listed_old h (by decide))
     ·exact fun h => F6.out (listed_old h (by decide))
     ·exact fun h => by obtain ⟨n, a, k, c, e, hz⟩ := F7.out (listed_old h (by decide)); exact ⟨n, a, k, c, e, (hz.below hb)⟩
     ·exact fun _ => ⟨m1, e1, i1, j1, m2, e2, i2, j2, rfl, HZ.out⟩
     ·exact fun h => by obtain ⟨n, a, k, c, n2, a2, k2, c2, e, hz⟩ := F9.out (listed_old h (by decide)); exact ⟨n, a, k, c, n2, a2, k2, c2, e, (hz.below hb)⟩
     ·exact fun h => by obtain ⟨n, a, k, c, e, hz⟩ := F10.out (listed_old h (by decide)); exact ⟨n, a, k, c, e, (hz.below hb)⟩
     ·exact fun h => F11.out (listed_old h (by decide))
     ·exact fun h => F12.out (listed_old h (by decide))
     ·exact fun h => by obtain ⟨g, n, a, k, c, e, hg, hh⟩ := F13.out (listed_old h (by decide)); exact ⟨g, n, a, k, c, e, hg, blk_next hh hb⟩
     ·exact fun h => by obtain ⟨g, n, a, k, c, e, hg, hh⟩ := F14.out (listed_old h (by decide)); exact ⟨g, n, a, k, c, e, hg, blk_next hh hb⟩
     ·exact fun h => by obtain ⟨g, n, a, k, c, e, hh, hz⟩ := F15.out (listed_old h (by decide)); exact ⟨g, n, a, k, c, e, blk_next hh hb, hz.below hb⟩
     ·exact fun h => F16.out (listed_old h (by decide))
     ·exact fun h => F17.out (listed_old h (by decide))
     ·exact fun h h' => FD.out (listed_old h (by decide)) (listed_old h' (by decide))
     ·exact fun h => ⟨listed_new (FC15.out (listed_old h (by decide))).1 (by decide), listed_new (FC15.out (listed_old h (by decide))).2 (by decide)⟩
     ·exact fun h => ⟨listed_new (FC16.out (listed_old h (by decide))).1 (by decide), listed_new (FC16.out (listed_old h (by decide))).2 (by decide)⟩
    rcases i with _ | i
    ·simp only [List.getElem?_toArray, List.getElem?_cons_zero, List.getElem?_cons_succ, Option.some.injEq] at ho
     subst ho
     have q8 : l.getD 8 false = true := ha ⟨8, .data⟩ (by simp) rfl
     clear ha
     obtain ⟨n8, a8, k8, c8, n28, a28, k28, c28, rfl, hz8⟩ := F8.out q8
     have HZ := hid hz8
     clear hz8
     refine wpOp_step rfl (fun K' hK => ?_)
     replace hK := hid hK
     go_simp
     replace hK := hK.out
     refine hK _ _ ⟨u0, u1, u2, u3, u4, u5, u6, u7, .tuple #[.agg #[.bool n8, .slice a8 k8 c8], .agg #[.bool n28, .slice a28 k28 c28], .int .i64 0], .tuple #[.agg #[.bool n8, .slice a8 k8 c8], .agg #[.bool n28, .slice a28 k28 c28], .int .i64 0], u10, u11, u12, u13, u14, u17, by rw [Array.size_setIfInBounds]; exact HS.out, by simp only [List.setIfInBounds_toArray, List.set_cons_zero, List.set_cons_succ], HBW.out, ?_, ?_, ?_, ?_, ?_, ?_, ?_, ?_, ?_, ?_, ?_, ?_, ?_, ?_, ?_, ?_, ?_, ?_, ?_, ?_, ?_⟩
     ·exact fun h => F0.out (listed_old h (by decide))
     ·exact fun h => F1.out (listed_old h (by decide))
     ·exact fun h => by obtain ⟨n, a, k, c, e, hz⟩ := F2.out (listed_old h (by decide)); exact ⟨n, a, k, c, e, hz⟩
     ·exact fun h => F3.out (listed_old h (by decide))
     ·exact fun h => by obtain ⟨n, a, k, c, e, hz⟩ := F4.out (listed_old h (by decide)); exact ⟨n, a, k, c, e, hz⟩
     ·exact fun h => F5.out (listed_old h (by decide))
     ·exact fun h => F6.out (listed_old h (by decide))
     ·exact fun h => by obtain ⟨n, a, k, c, e, hz⟩ := F7.out (listed_old h (by decide)); exact ⟨n, a, k, c, e, hz⟩
     ·exact fun h => by obtain ⟨n, a, k, c, n2, a2, k2, c2, e, hz⟩ := F8.out (listed_old h (by decide)); exact ⟨n, a, k, c, n2, a2, k2, c2, e, hz⟩
     ·exact fun _ => ⟨n8, a8, k8, c8, n28, a28, k28, c28, rfl, HZ.out⟩
     ·exact fun h => by obtain ⟨n, a, k, c, e, hz⟩ := F10.out (listed_old h (by decide)); exact ⟨n, a, k, c, e, hz⟩
     ·exact fun h => F11.out (listed_old h (by decide))
     ·exact fun h => F12.out (listed_old h (by decide))
     ·exact fun h => F13.out (listed_old h (by decide))
     ·exact fun h => F14.out (listed_old h (by decide))
     ·exact fun h => F15.out (listed_old h (by decide))
     ·exact fun h => F16.out (listed_old h (by decide))
     ·exact fun h => F17.out (listed_old h (by decide))
     ·exact fun h h' => FD.out (listed_old h (by decide)) (listed_old h' (by decide))
     ·exact fun h => ⟨listed_new (FC15.out (listed_old h (by decide))).1 (by decide), listed_new (FC15.out (listed_old h (by decide))).2 (by decide)⟩
     ·exact fun h => ⟨listed_new (FC16.out (listed_old h (by decide))).1 (by decide), listed_new (FC16.out (listed_old h (by decide))).2 (by decide)⟩
    rcases i with _ | i
    ·simp only [List.getElem?_toArray, List.getElem?_cons_zero, List.getElem?_cons_succ, Option.some.injEq] at ho
     subst ho
     have q9 : l.getD 9 false = true := ha ⟨9, .data⟩ (by simp) rfl
     clear ha
     obtain ⟨n9, a9, k9, c9, n29, a29, k29, c29, rfl, hz9⟩ := F9.out q9
     have HZ := hid hz9
     clear hz9
     refine wpOp_step rfl (fun K' hK => ?_)
     replace hK := hid hK
     go_simp
     replace hK := hK.out
     refine hK _ _ ⟨u0, u1, u2, u3, u4, u5, u6, u7, u8, .tuple #[.agg #[.bool n9, .slice a9 k9 c9], .agg #[.bool n29, .slice a29 k29 c29], .int .i64 0], .agg #[.bool n9, .slice a9 k9 c9], u11, u12, u13, u14, u17, by rw [Array.size_setIfInBounds]; exact HS.out, by simp only [List.setIfInBounds_toArray, List.set_cons_zero, List.set_cons_succ], HBW.out, ?_, ?_, ?_, ?_, ?_, ?_, ?_, ?_, ?_, ?_, ?_, ?_, ?_, ?_, ?_, ?_, ?_, ?_, ?_, ?_, ?_⟩
     ·exact fun h => F0.out (listed_old h (by decide))
     ·exact fun h => F1.out (listed_old h (by decide))
     ·exact fun h => by obtain ⟨n, a, k, c, e, hz⟩ := F2.out (listed_old h (by decide)); exact ⟨n, a, k, c, e, hz⟩
     ·exact fun h => F3.out (listed_old h (by decide))
     ·exact fun h => by obtain ⟨n, a, k, c, e, hz⟩ := F4.out (listed_old h (by decide)); exact ⟨n, a, k, c, e, hz⟩
     ·exact fun h => F5.out (listed_old h (by decide))
     ·exact fun h => F6.out (listed_old h (by decide))
     ·exact fun h => by obtain ⟨n, a, k, c, e, hz⟩ := F7.out (listed_old h (by decide)); exact ⟨n, a, k, c, e, hz⟩
     ·exact fun h => by obtain ⟨n, a, k, c, n2, a2, k2, c2, e, hz⟩ := F8.out (listed_old h (by decide)); exact ⟨n, a, k, c, n2, a2, k2, c2, e, hz⟩
     ·exact fun h => by obtain ⟨n, a, k, c, n2, a2, k2, c2, e, hz⟩ := F9.out (listed_old h (by decide)); exact ⟨n, a, k, c, n2, a2, k2, c2, e, hz⟩
     ·exact fun _ => ⟨n9, a9, k9, c9, rfl, HZ.out⟩
     ·exact fun h => F11.out (listed_old h (by decide))
     ·exact fun h => F12.out (listed_old h (by decide))
     ·exact fun h => F13.out (listed_old h (by decide))
     ·exact fun h => F14.out (listed_old h (by decide))
     ·exact fun h => F15.out (listed_old h (by decide))
     ·exact fun h => F16.out (listed_old h (by decide))
     ·exact fun h => F17.out (listed_old h (by decide))
     ·exact fun h h' => FD.out (listed_old h (by decide)) (listed_old h' (by decide))
     ·exact fun h => ⟨listed_new (FC15.out (listed_old h (by decide))).1 (by decide), listed_new (FC15.out (listed_old h (by decide))).2 (by decide)⟩
     ·exact fun h => ⟨listed_new (FC16.out (listed_old h (by decide))).1 (by decide), listed_new (FC16.out (listed_old h (by decide))).2 (by decide)⟩
    rcases i with _ | i
    ·simp only [List.getElem?_toArray, List.getElem?_cons_zero, List.getElem?_cons_succ, Option.some.injEq] at ho
     subst ho
     have q9 : l.getD 9 false = true := ha ⟨9, .data⟩ (by simp) rfl
     clear ha
     obtain ⟨n9, a9, k9, c9, n29, a29, k29, c29, rfl, hz9⟩ := F9.out q9
     have HZ := hid hz9
     clear hz9
     refine wpOp_step rfl (fun K' hK => ?_)
     replace hK := hid hK
     go_simp
     replace hK := hK.out
     refine hK _ _ ⟨u0, u1, u2, u3, u4, u5, u6, u7, u8, .tuple #[.agg #[.bool n9, .slice a9 k9 c9], .agg #[.bool n29, .slice a29 k29 c29], .int .i64 0], u10, .agg #[.bool n29, .slice a29 k29 c29], u12, u13, u14, u17, by rw [Array.size_setIfInBounds]; exact HS.out, by simp only [List.setIfInBounds_toArray, List.set_cons_zero, List.set_cons_succ], HBW.out, ?_, ?_, ?_, ?_, ?_, ?_, ?_, ?_, ?_, ?_, ?_, ?_, ?_, ?_, ?_, ?_, ?_, ?_, ?_, ?_, ?_⟩
     ·exact fun h => F0.out (listed_old h (by decide))
     ·exact fun h => F1.out (listed_old h (by decide))
     ·exact fun h => by obtain ⟨n, a, k, c, e, hz⟩ := F2.out (listed_old h (by decide)); exact ⟨n, a, k, c, e, hz⟩
     ·exact fun h => F3.out (listed_old h (by decide))
     ·exact fun h => by obtain ⟨n, a, k, c, e, hz⟩ := F4.out (listed_old h (by decide)); exact ⟨n, a, k, c, e, hz⟩
     ·exact fun h => F5.out (listed_old h (by decide))
     ·exact fun h => F6.out (listed_old h (by decide))
     ·exact fun h => by obtain ⟨n, a, k, c, e, hz⟩ := F7.out (listed_old h (by decide)); exact ⟨n, a, k, c, e, hz⟩
     ·exact fun h => by obtain ⟨n, a, k, c, n2, a2, k2, c2, e, hz⟩ := F8.out (listed_old h (by decide)); exact ⟨n, a, k, c, n2, a2, k2, c2, e, hz⟩
     ·exact fun h => by obtain ⟨n, a, k, c, n2, a2, k2, c2, e, hz⟩ := F9.out (listed_old h (by decide)); exact ⟨n, a, k, c, n2, a2, k2, c2, e, hz⟩
     ·exact fun h => by obtain ⟨n, a, k, c, e, hz⟩ := F10.out (listed_old h (by decide)); exact ⟨n, a, k, c, e, hz⟩
     ·exact fun _ => ⟨n29, a29, k29, c29, rfl⟩
     ·exact fun h => F12.out (listed_old h (by decide))
     ·exact fun h => F13.out (listed_old h (by decide))
     ·exact fun h => F14.out (listed_old h (by decide))
     ·exact fun h => F15.out (listed_old h (by decide))
     ·exact fun h => F16.out (listed_old h (by decide))
     ·exact fun h => F17.out (listed_old h (by decide))
     ·exact fun h h' => FD.out (listed_old h (by decide)) (listed_old h' (by decide))
     ·exact fun h => ⟨listed_new (FC15.out (listed_old h (by decide))).1 (by decide), listed_new (FC15.out (listed_old h (by decide))).2 (by decide)⟩
     ·exact fun h => ⟨listed_new (FC16.out (listed_old h (by decide))).1 (by decide), listed_new (FC16.out (listed_old h (by decide))).2 (by decide)⟩
    rcases i with _ | i
    ·simp only [List.getElem?_toArray, List.getElem?_cons_zero, List.getElem?_cons_succ, Option.some.injEq] at ho
     subst ho
     have q9 : l.getD 9 false = true := ha ⟨9, .data⟩ (by simp) rfl
     clear ha
     obtain ⟨n9, a9, k9, c9, n29, a29, k29, c29, rfl, hz9⟩ := F9.out q9
     have HZ := hid hz9
     clear hz9
     refine wpOp_step rfl (fun K' hK => ?_)
     replace hK := hid hK
     go_simp
     replace hK := hK.out
     refine hK _ _ ⟨u0, u1, u2, u3, u4, u5, u6, u7, u8, .tuple #[.agg #[.bool n9, .slice a9 k9 c9], .agg #[.bool n29, .slice a29 k29 c29], .int .i64 0], u10, u11, .int .i64 0, u13, u14, u17, by rw [Array.size_setIfInBounds]; exact HS.out, by simp only [List.setIfInBounds_toArray, List.set_cons_zero, List.set_cons_succ], HBW.out, ?_, ?_, ?_, ?_, ?_, ?_, ?_, ?_, ?_, ?_, ?_, ?_, ?_, ?_, ?_, ?_, ?_, ?_, ?_, ?_, ?_⟩
     ·exact fun h => F0.out (listed_old h (by decide))
     ·exact fun h => F1.out (listed_old h (by decide))
     ·exact fun h => by obtain ⟨n, a, k, c, e, hz⟩ := F2.out (listed_old h (by decide)); exact ⟨n, a, k, c, e, hz⟩
     ·exact fun h => F3.out (listed_old h (by decide))
     ·exact fun h => by obtain ⟨n, a, k, c, e, hz⟩ := F4.out (listed_old h (by decide)); exact ⟨n, a, k, c, e, hz⟩
     ·exact fun h => F5.out (listed_old h (by decide))
     ·exact fun h => F6.out (listed_old h (by decide))
     ·exact fun h => by obtain ⟨n, a, k, c, e, hz⟩ := F7.out (listed_old h (by decide)); exact ⟨n, a, k, c, e, hz⟩
     ·exact fun h => by obtain ⟨n, a, k, c, n2, a2, k2, c2, e, hz⟩ := F8.out (listed_old h (by decide)); exact ⟨n, a, k, c, n2, a2, k2, c2, e, hz⟩
     ·exact fun h => by obtain ⟨n, a, k, c, n2, a2, k2, c2, e, hz⟩ := F9.out (listed_old h (by decide)); exact ⟨n, a, k, c, n2, a2, k2, c2, e, hz⟩
     ·exact fun h => by obtain ⟨n, a, k, c, e, hz⟩ := F10.out (listed_old h (by decide)); exact ⟨n, a, k, c, e, hz⟩
     ·exact fun h => F11.out (listed_old h (by decide))
     ·exact fun _ => rfl
     ·exact fun h => F13.out (listed_old h (by decide))
     ·exact fun h => F14.out (listed_old h (by decide))
     ·exact fun h => F15.out (listed_old h (by decide))
     ·exact fun h => F16.out (listed_old h (by decide))
     ·exact fun h => F17.out (listed_old h (by decide))
     ·exact fun h h' => FD.out (listed_old h (by decide)) (listed_old h' (by decide))
     ·exact fun h => ⟨listed_new (FC15.out (listed_old h (by decide))).1 (by decide), listed_new (FC15.out (listed_old h (by decide))).2 (by decide)⟩
     ·exact fun h => ⟨listed_new (FC16.out (listed_old h (by decide))).1 (by decide), listed_new (FC16.out (listed_old h (by decide))).2 (by decide)⟩
    rcases i with _ | i
    ·simp only [List.getElem?_toArray, List.getElem?_cons_zero, List.getElem?_cons_succ, Option.some.injEq] at ho
     subst ho
     clear ha
     have hnl13 := hid (show l.getD 13 false = false from not_listed hu)
     refine wpOp_step rfl (fun K' hK => ?_)
     replace hK := hid hK
     go_simp
     replace hK := hK.out
     have hb := allocs_below1 w' (.cells #[.bool false, .slice none 0 0] 25)
     refine hK _ _ ⟨u0, u1, u2, u3, u4, u5, u6, u7, u8, u9, u10, u11, u12, .pointer (some ⟨w'.heap.size, 0, none⟩), u14, u17, by rw [Array.size_setIfInBounds]; exact HS.out, by simp only [List.setIfInBounds_toArray, List.set_cons_zero, List.set_cons_succ], HBW.out.alloc HBW.out.size _, ?_, ?_, ?_, ?_, ?_, ?_, ?_, ?_, ?_, ?_, ?_, ?_, ?_, ?_, ?_, ?_, ?_, ?_, ?_, ?_, ?_⟩
     ·exact fun h => F0.out (listed_old h (by decide))
     ·exact fun h => F1.out (listed_old h (by decide))
     ·exact fun h => by obtain ⟨n, a, k, c, e, hz⟩ := F2.out (listed_old h (by decide)); exact ⟨n, a, k, c, e, (hz.below hb)⟩
     ·exact fun h => F3.out (listed_old h (by decide))
     ·exact fun h => by obtain ⟨n, a, k, c, e, hz⟩ := F4.out (listed_old h (by decide)); exact ⟨n, a, k, c, e, (hz.below hb)⟩
     ·exact fun h => F5.out (listed_old h (by decide))
     ·exact fun h => F6.out (listed_old h (by decide))
     ·exact fun h => by obtain ⟨n, a, k, c, e, hz⟩ := F7.out (listed_old h (by decide)); exact ⟨n, a, k, c, e, (hz.below hb)⟩
     ·exact fun h => by obtain ⟨n, a, k, c, n2, a2, k2, c2, e, hz⟩ := F8.out (listed_old h (by decide)); exact ⟨n, a, k, c, n2, a2, k2, c2, e, (hz.below hb)⟩
     ·exact fun h => by obtain ⟨n, a, k, c, n2, a2, k2, c2, e, hz⟩ := F9.out (listed_old h (by decide)); exact ⟨n, a, k, c, n2, a2, k2, c2, e, (hz.below hb)⟩
     ·exact fun h => by obtain ⟨n, a, k, c, e, hz⟩ := F10.out (listed_old h (by decide)); exact ⟨n, a, k, c, e, (hz.below hb)⟩
     ·exact fun h => F11.out (listed_old h (by decide))
     ·exact fun h => F12.out (listed_old h (by decide))
     ·exact fun _ => ⟨w'.heap.size, false, none, 0, 0, rfl, HBW.out.size, heap_alloc_new w' _⟩
     ·exact fun h => by obtain ⟨g, n, a, k, c, e, hg, hh⟩ := F14.out (listed_old h (by decide)); exact ⟨g, n, a, k, c, e, hg, blk_next hh hb⟩
     ·exact fun h => absurd (FC15.out (listed_old h (by decide))).1 (by rw [hnl13.out]; decide)
     ·exact fun h => F16.out (listed_old h (by decide))
     ·exact fun h => F17.out (listed_old h (by decide))
     ·intro h h'; obtain ⟨g, n, a, k, c, e, hg, hh⟩ := F14.out (listed_old h' (by decide)); have := (Array.getElem?_eq_some_iff.1 hh).1; exact ⟨_, _, rfl, e, by omega⟩
     ·exact fun h => absurd (FC15.out (listed_old h (by decide))).1 (by rw [hnl13.out]; decide)
     ·exact fun h => absurd (FC16.out (listed_old h (by decide))).1 (by rw [hnl13.out]; decide)
    rcases i with _ | i
    ·simp only [List.getElem?_toArray, List.getElem?_cons_zero, List.getElem?_cons_succ, Option.some.injEq] at ho
     subst ho
     clear ha
     have hnl14 := hid (show l.getD 14 false = false from not_listed hu)
     refine wpOp_step rfl (fun K' hK => ?_)
     replace hK := hid hK
     go_simp
     replace hK := hK.out
     have hb := allocs_below1 w' (.cells #[.bool false, .slice none 0 0] 25)
     refine hK _ _ ⟨u0, u1, u2, u3, u4, u5, u6, u7, u8, u9, u10, u11, u12, u13, .pointer (some ⟨w'.heap.size, 0, none⟩), u17, by rw [Array.size_setIfInBounds]; exact HS.out, by simp only [List.setIfInBounds_toArray, List.set_cons_zero, List.set_cons_succ], HBW.out.alloc HBW.out.size _, ?_, ?_, ?_, ?_, ?_, ?_, ?_, ?_, ?_, ?_, ?_, ?_, ?_, ?_, ?_, ?_, ?_, ?_, ?_, ?_, ?_⟩
     ·exact fun h => F0.out (listed_old h (by decide))
     ·exact fun h => F1.out (listed_old h (by decide))
     ·exact fun h => by obtain ⟨n, a, k, c, e, hz⟩ := F2.out (listed_old h (by decide)); exact ⟨n, a, k, c, e, (hz.below hb)⟩
     ·exact fun h => F3.out (listed_old h (by decide))
     ·exact fun h => by obtain ⟨n, a, k, c, e, hz⟩ := F4.out (listed_old h (by decide)); exact ⟨n, a, k, c, e, (hz.below hb)⟩
     ·exact fun h => F5.out (listed_old h (by decide))
     ·exact fun h => F6.out (listed_old h (by decide))
     ·exact fun h => by obtain ⟨n, a, k, c, e, hz⟩ := F7.out (listed_old h (by decide)); exact ⟨n, a, k, c, e, (hz.below hb)⟩
     ·exact fun h => by obtain ⟨n, a, k, c, n2, a2, k2, c2, e, hz⟩ := F8.out (listed_old h (by decide)); exact ⟨n, a, k, c, n2, a2, k2, c2, e, (hz.below hb)⟩
     ·exact fun h => by obtain ⟨n, a, k, c, n2, a2, k2, c2, e, hz⟩ := F9.out (listed_old h (by decide)); exact ⟨n, a, k, c, n2, a2, k2, c2, e, (hz.below hb)⟩
     ·exact fun h => by obtain ⟨n, a, k, c, e, hz⟩ := F10.out (listed_old h (by decide)); exact ⟨n, a, k, c, e, (hz.below hb)⟩
     ·exact fun h => F11.out (listed_old h (by decide))
     ·exact fun h => F12.out (listed_old h (by decide))
     ·exact fun h => by obtain ⟨g, n, a, k, c, e, hg, hh⟩ := F13.out (listed_old h (by decide)); exact ⟨g, n, a, k, c, e, hg, blk_next hh hb⟩
     ·exact fun _ => ⟨w'.heap.size, false, none, 0, 0, rfl, HBW.out.size, heap_alloc_new w' _⟩
     ·exact fun h => absurd (FC15.out (listed_old h (by decide))).2 (by rw [hnl14.out]; decide)
     ·exact fun h => F16.out (listed_old h (by decide))
     ·exact fun h => F17.out (listed_old h (by decide))
     ·intro h h'; obtain ⟨g, n, a, k, c, e, hg, hh⟩ := F13.out (listed_old h (by decide)); have := (Array.getElem?_eq_some_iff.1 hh).1; exact ⟨_, _, e, rfl, by omega⟩
     ·exact fun h => absurd (FC15.out (listed_old h (by decide))).2 (by rw [hnl14.out]; decide)
     ·exact fun h => absurd (FC16.out (listed_old h (by decide))).2 (by rw [hnl14.out]; decide)
    rcases i with _ | i
    ·simp only [List.getElem?_toArray, List.getElem?_cons_zero, List.getElem?_cons_succ, Option.some.injEq] at ho
     subst ho
     have q13 : l.getD 13 false = true := ha ⟨13, .data⟩ (by simp) rfl
     have q10 : l.getD 10 false = true := ha ⟨10, .data⟩ (by simp) rfl
     have q14 : l.getD 14 false = true := ha ⟨14, .phase⟩ (by simp) rfl
     clear ha
     obtain ⟨nx, ax, kx, cx, rfl, hzx⟩ := F10.out q10
     have HZX := hid hzx
     clear hzx
     obtain ⟨gs, gs', es, es', hne⟩ := FD.out q13 q14
     obtain ⟨g, n, a, k, c, e, hg, hh⟩ := F13.out q13
     obtain ⟨g2, n2, a2, k2, c2, e2, hg2, hh2⟩ := F14.out q14
     subst e e2
     have hgg : g ≠ g2 := by have x1 := ptr_inj es; have x2 := ptr_inj es'; omega
     have HH := hid hh
     have HH2 := hid hh2
     have HGG := hid hgg
     have HG := hid hg
     have HG2 := hid hg2
     clear hh2 hgg es es' hne hg2
     obtain ⟨d0, d1, z0, z1⟩ := res_facts hh
     clear hh
     refine wpOp_step rfl (fun K' hK => ?_)
     replace hK := hid hK
     go_simp
     replace hK := hK.out
     have hst : Stay g (g + 1) w' ((w'.setCell ⟨g, 0, none⟩ (.bool nx)).setCell ⟨g, 1, none⟩ (.slice ax kx cx)) := set2_stay
     have hni := noInt_one (noInt2 HH.out)
     have hn1 := res_set (x' := .bool nx) (y' := .slice ax kx cx) HH.out
     have hn2 := (hst.block g2 (Array.getElem?_eq_some_iff.1 HH2.out).1 (by have := HGG.out; omega)).trans HH2.out
     refine hK _ _ ⟨u0, u1, u2, u3, u4, u5, u6, u7, u8, u9, .agg #[.bool nx, .slice ax kx cx], u11, u12, .pointer (some ⟨g, 0, none⟩), .pointer (some ⟨g2, 0, none⟩), u17, by rw [Array.size_setIfInBounds]; exact HS.out, by simp only [List.setIfInBounds_toArray, List.set_cons_zero, List.set_cons_succ], HBW.out.trans (hst.below HG.out HBW.out.size), ?_, ?_, ?_, ?_, ?_, ?_, ?_, ?_, ?_, ?_, ?_, ?_, ?_, ?_, ?_, ?_, ?_, ?_, ?_, ?_, ?_⟩
     ·exact fun h => F0.out (listed_old h (by decide))
     ·exact fun h => F1.out (listed_old h (by decide))
     ·exact fun h => by obtain ⟨n, a, k, c, e, hz⟩ := F2.out (listed_old h (by decide)); exact ⟨n, a, k, c, e, (hz.stay hst hni)⟩
     ·exact fun h => F3.out (listed_old h (by decide))
     ·exact fun h => by obtain ⟨n, a, k, c, e, hz⟩ := F4.out (listed_old h (by decide)); exact ⟨n, a, k, c, e, (hz.stay hst hni)⟩
     ·exact fun h => F5.out (listed_old h (by decide))
     ·exact fun h => F6.out (listed_old h (by decide))
     ·exact fun h => by obtain ⟨n, a, k, c, e, hz⟩ := F7.out (listed_old h (by decide)); exact ⟨n, a, k, c, e, (hz.stay hst hni)⟩
     ·exact fun h => by obtain ⟨n, a, k, c, n2, a2, k2, c2, e, hz⟩ := F8.out (listed_old h (by decide)); exact ⟨n, a, k, c, n2, a2, k2, c2, e, (hz.stay hst hni)⟩
     ·exact fun h => by obtain ⟨n, a, k, c, n2, a2, k2, c2, e, hz⟩ := F9.out (listed_old h (by decide)); exact ⟨n, a, k, c, n2, a2, k2, c2, e, (hz.stay hst hni)⟩
     ·exact fun h => by obtain ⟨n, a, k, c, e, hz⟩ := F10.out (listed_old h (by decide)); exact ⟨n, a, k, c, e, (hz.stay hst hni)⟩
     ·exact fun h => F11.out (listed_old h (by decide))
     ·exact fun h => F12.out (listed_old h (by decide))
     ·exact fun _ => ⟨g, _, _, _, _, rfl, HG.out, hn1⟩
     ·exact fun _ => ⟨g2, _, _, _, _, rfl, HG2.out, hn2⟩
     ·exact fun _ => ⟨g, nx, ax, kx, cx, rfl, hn1, HZX.out.stay hst hni⟩
     ·exact fun h => F16.out (listed_old h (by decide))
     ·exact fun h => F17.out (listed_old h (by decide))
     ·exact fun h h' => FD.out (listed_old h (by decide)) (listed_old h' (by decide))
     ·exact fun _ => ⟨listed_new q13 (by decide), listed_new q14 (by decide)⟩
     ·exact fun h => ⟨listed_new (FC16.out (listed_old h (by decide))).1 (by decide), listed_new (FC16.out (listed_old h (by decide))).2 (by decide)⟩
    rcases i with _ | i
    ·simp only [List.getElem?_toArray, List.getElem?_cons_zero, List.getElem?_cons_succ, Option.some.injEq] at ho
     subst ho
     have q14 : l.getD 14 false = true := ha ⟨14, .data⟩ (by simp) rfl
     have q11 : l.getD 11 false = true := ha ⟨11, .data⟩ (by simp) rfl
     have q13 : l.getD 13 false = true := ha ⟨13, .phase⟩ (by simp) rfl
     clear ha
     obtain ⟨nx, ax, kx, cx, rfl⟩ := F11.out q11
     obtain ⟨gs, gs', es, es', hne⟩ := FD.out q13 q14
     obtain ⟨g, n, a, k, c, e, hg, hh⟩ := F14.out q14
     obtain ⟨g2, n2, a2, k2, c2, e2, hg2, hh2⟩ := F13.out q13
     subst e e2
     have hgg : g ≠ g2 := by have x1 := ptr_inj es; have x2 := ptr_inj es'; omega
     have HH := hid hh
     have HH2 := hid hh2
     have HGG := hid hgg
     have HG := hid hg
     have HG2 := hid hg2
     clear hh2 hgg es es' hne hg2
     obtain ⟨d0, d1, z0, z1⟩ := res_facts hh
     clear hh
     refine wpOp_step rfl (fun K' hK => ?_)
     replace hK := hid hK
     go_simp
     replace hK := hK.out
     have hst : Stay g (g + 1) w' ((w'.setCell ⟨g, 0, none⟩ (.bool nx)).setCell ⟨g, 1, none⟩ (.slice ax kx cx)) := set2_stay
     have hni := noInt_one (noInt2 HH.out)
     have hn1 := res_set (x' := .bool nx) (y' := .slice ax kx cx) HH.out
     have hn2 := (hst.block g2 (Array.getElem?_eq_some_iff.1 HH2.out).1 (by have := HGG.out; omega)).trans HH2.out
     refine hK _ _ ⟨u0, u1, u2, u3, u4, u5, u6, u7, u8, u9, u10, .agg #[.bool nx, .slice ax kx cx], u12, .pointer (some ⟨g2, 0, none⟩), .pointer (some ⟨g, 0, none⟩), u17, by rw [Array.size_setIfInBounds]; exact HS.out, by simp only [List.setIfInBounds_toArray, List.set_cons_zero, List.set_cons_succ], HBW.out.trans (hst.below HG.out HBW.out.size), ?_, ?_, ?_, ?_, ?_, ?_, ?_, ?_, ?_, ?_, ?_, ?_, ?_, ?_, ?_, ?_, ?_, ?_, ?_, ?_, ?_⟩
     ·exact fun h => F0.out (listed_old h (by decide))
     ·exact fun h => F1.out (listed_old h (by decide))
     ·exact fun h => by obtain ⟨n, a, k, c, e, hz⟩ := F2.out (listed_old h (by decide)); exact ⟨n, a, k, c, e, (hz.stay hst hni)⟩
     ·exact fun h => F3.out (listed_old h (by decide))
     ·exact fun h => by obtain ⟨n, a, k, c, e, hz⟩ := F4.out (listed_old h (by decide)); exact ⟨n, a, k, c, e, (hz.stay hst hni)⟩
     ·exact fun h => F5.out (listed_old h (by decide))
     ·exact fun h => F6.out (listed_old h (by decide))
     ·exact fun h => by obtain ⟨n, a, k, c, e, hz⟩ := F7.out (listed_old h (by decide)); exact ⟨n, a, k, c, e, (hz.stay hst hni)⟩
     ·exact fun h => by obtain ⟨n, a, k, c, n2, a2, k2, c2, e, hz⟩ := F8.out (listed_old h (by decide)); exact ⟨n, a, k, c, n2, a2, k2, c2, e, (hz.stay hst hni)⟩
     ·exact fun h => by obtain ⟨n, a, k, c, n2, a2, k2, c2, e, hz⟩ := F9.out (listed_old h (by decide)); exact ⟨n, a, k, c, n2, a2, k2, c2, e, (hz.stay hst hni)⟩
     ·exact fun h => by obtain ⟨n, a, k, c, e, hz⟩ := F10.out (listed_old h (by decide)); exact ⟨n, a, k, c, e, (hz.stay hst hni)⟩
     ·exact fun h => F11.out (listed_old h (by decide))
     ·exact fun h => F12.out (listed_old h (by decide))
     ·exact fun _ => ⟨g2, _, _, _, _, rfl, HG2.out, hn2⟩
     ·exact fun _ => ⟨g, _, _, _, _, rfl, HG.out, hn1⟩
     ·intro h; obtain ⟨g3, n3, a3, k3, c3, e3, h3, z3⟩ := F15.out (listed_old h (by decide)); have e4 := ptr_inj e3; subst e4; exact ⟨_, n3, a3, k3, c3, rfl, (hst.block _ (Array.getElem?_eq_some_iff.1 h3).1 (by have := HGG.out; omega)).trans h3, z3.stay hst hni⟩
     ·exact fun _ => trivial
     ·exact fun h => F17.out (listed_old h (by decide))
     ·exact fun h h' => FD.out (listed_old h (by decide)) (listed_old h' (by decide))
     ·exact fun h => ⟨listed_new (FC15.out (listed_old h (by decide))).1 (by decide), listed_new (FC15.out (listed_old h (by decide))).2 (by decide)⟩
     ·exact fun _ => ⟨listed_new q13 (by decide), listed_new q14 (by decide)⟩
    rcases i with _ | i
    ·simp only [List.getElem?_toArray, List.getElem?_cons_zero, List.getElem?_cons_succ, Option.some.injEq] at ho
     subst ho
     have q12 : l.getD 12 false = true := ha ⟨12, .data⟩ (by simp) rfl
     clear ha
     obtain rfl := F12.out q12
     refine wpOp_step rfl (fun K' hK => ?_)
     replace hK := hid hK
     go_simp
     replace hK := hK.out
     refine hK _ _ ⟨u0, u1, u2, u3, u4, u5, u6, u7, u8, u9, u10, u11, .int .i64 0, u13, u14, .int .i64 0, by rw [Array.size_setIfInBounds]; exact HS.out, by simp only [List.setIfInBounds_toArray, List.set_cons_zero, List.set_cons_succ], HBW.out, ?_, ?_, ?_, ?_, ?_, ?_, ?_, ?_, ?_, ?_, ?_, ?_, ?_, ?_, ?_, ?_, ?_, ?_, ?_, ?_, ?_⟩
     ·exact fun h => F0.out (listed_old h (by decide))
     ·exact fun h => F1.out (listed_old h (by decide))
     ·exact fun h => by obtain ⟨n, a, k, c, e, hz⟩ := F2.out (listed_old h (by decide)); exact ⟨n, a, k, c, e, hz⟩
     ·exact fun h => F3.out (listed_old h (by decide))
     ·exact fun h => by obtain ⟨n, a, k, c, e, hz⟩ := F4.out (listed_old h (by decide)); exact ⟨n, a, k, c, e, hz⟩
     ·exact fun h => F5.out (listed_old h (by decide))
     ·exact fun h => F6.out (listed_old h (by decide))
     ·exact fun h => by obtain ⟨n, a, k, c, e, hz⟩ := F7.out (listed_old h (by decide)); exact ⟨n, a, k, c, e, hz⟩
     ·exact fun h => by obtain ⟨n, a, k, c, n2, a2, k2, c2, e, hz⟩ := F8.out (listed_old h (by decide)); exact ⟨n, a, k, c, n2, a2, k2, c2, e, hz⟩
     ·exact fun h => by obtain ⟨n, a, k, c, n2, a2, k2, c2, e, hz⟩ := F9.out (listed_old h (by decide)); exact ⟨n, a, k, c, n2, a2, k2, c2, e, hz⟩
     ·exact fun h => by obtain ⟨n, a, k, c, e, hz⟩ := F10.out (listed_old h (by decide)); exact ⟨n, a, k, c, e, hz⟩
     ·exact fun h => F11.out (listed_old h (by decide))
     ·exact fun h => F12.out (listed_old h (by decide))
     ·exact fun h => F13.out (listed_old h (by decide))
     ·exact fun h => F14.out (listed_old h (by decide))
     ·exact fun h => F15.out (listed_old h (by decide))
     ·exact fun h => F16.out (listed_old h (by decide))
     ·exact fun _ => rfl
     ·exact fun h h' => FD.out (listed_old h (by decide)) (listed_old h' (by decide))
     ·exact fun h => ⟨listed_new (FC15.out (listed_old h (by decide))).1 (by decide), listed_new (FC15.out (listed_old h (by decide))).2 (by decide)⟩
     ·exact fun h => ⟨listed_new (FC16.out (listed_old h (by decide))).1 (by decide), listed_new (FC16.out (listed_old h (by decide))).2 (by decide)⟩
    omega
   ·rintro l a' w' ⟨u0, u1, u2, u3, u4, u5, u6, u7, u8, u9, u10, u11, u12, u13, u14, u17, _, rfl, hB, _, _, _, _, _, _, _, _, _, _, _, _, _, f13, f14, f15, _, f17, _, _, _⟩ hall
    obtain ⟨g, n, a, k, c, e1, hh, hz⟩ := f15 (hall 15 (by decide))
    subst e1
    obtain ⟨d0, d1, _, _⟩ := res_facts hh
    simp only [List.setIfInBounds_toArray, List.set_cons_zero, List.set_cons_succ]
    simp only [Exit.then]
    go_wp2_with fail
    go_meet
    exact ⟨g, n, a, k, c, rfl, d0, d1, hz, hB⟩
  case rest =>
   obtain ⟨g, n, a, k, c, rfl, q0, q1, hz, hbc⟩ := hcut
   have HZQ := hid hz
   have BR3 := hid (blk_next BR.out hbc)
   replace HB := hid (bt HB.out hbc)
   clear hz hbc
   obtain ⟨d0, d1, e0, e1⟩ := res_facts BR3.out
   go_wp2
   try simp only [Exit.inBlock, Exit.then]
   refine bodyPost_ret (results_cell_row rfl _ _ (w.heap.size + 1) 25 _ (0, 0) _ rfl (res_set BR3.out) Tryz.underlying25 rfl (by kernel_rfl)) rfl ?_
   exact ⟨_, _, _, _, rfl, ((HZQ.out.stay set2_stay (noInt_one (noInt2 BR3.out))).as HE.out), (fin2 HB.out (by omega))⟩
 ·have hsg : ¬ q.num.sign < 0 := by have := Int.sign_nonneg_iff.2 (show 0 ≤ q.num by omega); omega
  have HE := hid (show ((2 : Int) * q.num + (q.den : Int)).tdiv (2 * q.den) = roundQ q from by unfold roundQ; rw [if_neg hneg])
  go_wp2_with fail
  (with_reducible refine (of_any (n := 2) (by decide) (by decide)).mono ?_)
  rintro e w5 ⟨n_5, a_5, k_5, c_5, rfl, hu_5, hb⟩
  replace HB := hid (bt HB.out hb)
  replace HA := hid (HA.out.below hb)
  replace HD := hid (HD.out.below hb)
  replace BP := hid (blk_next BP.out hb)
  replace BR := hid (blk_next BR.out hb)
  replace Ba := hid (blk_next Ba.out hb)
  replace Bd := hid (blk_next Bd.out hb)
  replace Bhalf := hid (blk_next Bhalf.out hb)
  have HTWO := hid hu_5
  clear hu_5
  clear hb
  have lt3_P : w.heap.size < w5.heap.size := (Array.getElem?_eq_some_iff.1 BP.out).1
  have lt4_R : w.heap.size + 1 < w5.heap.size := (Array.getElem?_eq_some_iff.1 BR.out).1
  have lt5_a : w2.heap.size < w5.heap.size := (Array.getElem?_eq_some_iff.1 Ba.out).1
  have lt6_d : w2.heap.size + 1 < w5.heap.size := (Array.getElem?_eq_some_iff.1 Bd.out).1
  have lt7_half : w2.heap.size + 1 + 1 < w5.heap.size := (Array.getElem?_eq_some_iff.1 Bhalf.out).1
  obtain ⟨ca0, ca1, fa0, fa1⟩ := res_facts Ba.out
  obtain ⟨cd0, cd1, fd0, fd1⟩ := res_facts Bd.out
  obtain ⟨chalf0, chalf1, fhalf0, fhalf1⟩ := res_facts Bhalf.out
  go_wp2_with fail
  clear ca0 ca1 fa0 fa1 cd0 cd1 fd0 fd1 chalf0 chalf1 fhalf0 fhalf1
  obtain ⟨W6, hW, hs, hb, b0⟩ := alloc1 w5 (.cells #[.bool n_5, .slice a_5 k_5 c_5] 25)
  rw [← hW]
  replace HB := hid (bt HB.out hb)
  replace HA := hid (HA.out.below hb)
  replace HD := hid (HD.out.below hb)
  replace HTWO := hid (HTWO.out.below hb)
  replace BP := hid (blk_next BP.out hb)
  replace BR := hid (blk_next BR.out hb)
  replace Ba := hid (blk_next Ba.out hb)
  replace Bd := hid (blk_next Bd.out hb)
  replace Bhalf := hid (blk_next Bhalf.out hb)
  have Btwo := hid b0
  clear hW hs hb b0
  go_upto_region 6 with fail
  go_cut [7, 8, 9] (fun s7 s8 s9 wx => ∃ (g : Nat) (n : Bool) (a : Option Addr) (k c : Nat), s7 = .pointer (some ⟨g, 0, none⟩) ∧ wx.cell? ⟨g, 0, none⟩ = some (.bool n) ∧ wx.cell? ⟨g, 1, none⟩ = some (.slice a k c) ∧ IntR wx (.agg #[.bool n, .slice a k c]) (((2 : Int) * q.num + (q.den : Int)).tdiv ((2 : Int) * (q.den : Int))) ∧ Below W6.heap.size W6 wx)
  case first =>
   have lt8_P : w.heap.size < W6.heap.size := (Array.getElem?_eq_some_iff.1 BP.out).1
   have lt9_R : w.heap.size + 1 < W6.heap.size := (Array.getElem?_eq_some_iff.1 BR.out).1
   have lt10_a : w2.heap.size < W6.heap.size := (Array.getElem?_eq_some_iff.1 Ba.out).1
   have lt11_d : w2.heap.size + 1 < W6.heap.size := (Array.getElem?_eq_some_iff.1 Bd.out).1
   have lt12_half : w2.heap.size + 1 + 1 < W6.heap.size := (Array.getElem?_eq_some_iff.1 Bhalf.out).1
   have lt13_two : w5.heap.size < W6.heap.size := (Array.getElem?_eq_some_iff.1 Btwo.out).1
   obtain ⟨ctwo0, ctwo1, ftwo0, ftwo1⟩ := res_facts Btwo.out
   obtain ⟨ca0, ca1, fa0, fa1⟩ := res_facts Ba.out
   obtain ⟨chalf0, chalf1, fhalf0, fhalf1⟩ := res_facts Bhalf.out
   obtain ⟨cd0, cd1, fd0, fd1⟩ := res_facts Bd.out
   have HCtwo0 := hid ctwo0
   have HCtwo1 := hid ctwo1
   have HCa0 := hid ca0
   have HCa1 := hid ca1
   have HChalf0 := hid chalf0
   have HChalf1 := hid chalf1
   have HCd0 := hid cd0
   have HCd1 := hid cd1
   clear ctwo0 ctwo1 ftwo0 ftwo1 ca0 ca1 fa0 fa1 chalf0 chalf1 fhalf0 fhalf1 cd0 cd1 fd0 fd1
   refine wp_region_inv (by kernel_rfl) (fun b l a w' => ∃ u0 u1 u2 u3 u4 u5 u6 u7 u8 u9 u10 u11 u12 u13 u14 u17 : Value, l.size = 18 ∧ a = (⟨((((((((((((((((b.tmps.setIfInBounds 23 u0).setIfInBounds 24 u1).setIfInBounds 25 u2).setIfInBounds 26 u3).setIfInBounds 27 u4).setIfInBounds 28 u5).setIfInBounds 29 u6).setIfInBounds 30 u7).setIfInBounds 31 u8).setIfInBounds 22 u9).setIfInBounds 32 u10).setIfInBounds 33 u11).setIfInBounds 34 u12).setIfInBounds 7 u13).setIfInBounds 8 u14).setIfInBounds 9 u17), b.defers⟩ : Act) ∧ Below W6.heap.size W6 w' ∧ (l.getD 0 false = true → u0 = .agg #[.bool n_5, .slice a_5 k_5 c_5]) ∧ (l.getD 1 false = true → u1 = .agg #[.bool n_2, .slice a_2 k_2 c_2]) ∧ (l.getD 2 false = true → ∃ (n : Bool) (a : Option Addr) (k c : Nat), u2 = .agg #[.bool n, .slice a k c] ∧ IntR w' (.agg #[.bool n, .slice a k c]) ((2 : Int) * q.num)) ∧ (l.getD 3 false = true → u3 = .agg #[.bool n2_2, .slice a2_2 k2_2 c2_2]) ∧ (l.getD 4 false = true → ∃ (n : Bool) (a : Option Addr) (k c : Nat), u4 = .agg #[.bool n, .slice a k c] ∧ IntR w' (.agg #[.bool n, .slice a k c]) ((2 : Int) * q.num + (q.den : Int))) ∧ (l.getD 5 false = true → u5 = .agg #[.bool n_5, .slice a_5 k_5 c_5]) ∧ (l.getD 6 false = true → u6 = .agg #[.bool n2_2, .slice a2_2 k2_2 c2_2]) ∧ (l.getD 7 false = true → ∃ (n : Bool) (a : Option Addr) (k c : Nat), u7 = .agg #[.bool n, .slice a k c] ∧ IntR w' (.agg #[.bool n, .slice a k c]) ((2 : Int) * (q.den : Int))) ∧ (l.getD 8 false = true → ∃ (n : Bool) (a : Option Addr) (k c : Nat) (n2 : Bool) (a2 : Option Addr) (k2 c2 : Nat), u8 = .tuple #[.agg #[.bool n, .slice a k c], .agg #[.bool n2, .slice a2 k2 c2], .int .i64 0] ∧ IntR w' (.agg #[.bool n, .slice a k c]) (((2 : Int) * q.num + (q.den : Int)).tdiv ((2 : Int) * (q.den : Int)))) ∧ (l.getD 9 false = true → ∃ (n : Bool) (a : Option Addr) (k c : Nat) (n2 : Bool) (a2 : Option Addr) (k2 c2 : Nat), u9 = .tuple #[.agg #[.bool n, .slice a k c], .agg #[.bool n2, .slice a2 k2 c2], .int .i64 0] ∧ IntR w' (.agg #[.bool n, .slice a k c]) (((2 : Int) * q.num + (q.den : Int)).tdiv ((2 : Int) * (q.den : Int)))) ∧ (l.getD 10 false = true → ∃ (n : Bool) (a : Option Addr) (k c : Nat), u10 = .agg #[.bool n, .slice a k c] ∧ IntR w' (.agg #[.bool n, .slice a k c]) (((2 : Int) * q.num + (q.den : Int)).tdiv ((2 : Int) * (q.den : Int)))) ∧ (l.getD 11 false = true → ∃ (n : Bool) (a : Option Addr) (k c : Nat), u11 = .agg #[.bool n, .slice a k c]) ∧ (l.getD 12 false = true → u12 = .int .i64 0) ∧ (l.getD 13 false = true → ∃ (g : Nat) (n : Bool) (a : Option Addr) (k c : Nat), u13 = .pointer (some ⟨g, 0, none⟩) ∧ W6.heap.size ≤ g ∧ w'.heap[g]? = some (.cells #[.bool n, .slice a k c] 25 (0, 0))) ∧ (l.getD 14 false = true → ∃ (g : Nat) (n : Bool) (a : Option Addr) (k c : Nat), u14 = .pointer (some ⟨g, 0, none⟩) ∧ W6.heap.size ≤ g ∧ w'.heap[g]? = some (.cells #[.bool n, .slice a k c] 25 (0, 0))) ∧ (l.getD 15 false = true → ∃ (g : Nat) (n : Bool) (a : Option Addr) (k c : Nat), u13 = .pointer (some ⟨g, 0, none⟩) ∧ w'.heap[g]? = some (.cells #[.bool n, .slice a k c] 25 (0, 0)) ∧ IntR w' (.agg #[.bool n, .slice a k c]) (((2 : Int) * q.num + (q.den : Int)).tdiv ((2 : Int) * (q.den : Int)))) ∧ (l.getD 16 false = true → True) ∧ (l.getD 17 false = true → u17 = .int .i64 0) ∧ (l.getD 13 false = true → l.getD 14 false = true → ∃ (g g' : Nat), u13 = .pointer (some ⟨g, 0, none⟩) ∧ u14 = .pointer (some ⟨g', 0, none⟩) ∧ g ≠ g') ∧ (l.getD 15 false = true → l.getD 13 false = true ∧ l.getD 14 false = true) ∧ (l.getD 16 false = true → l.getD 13 false = true ∧ l.getD 14 false = true)) ?_ ?_ ?_ ?_ ?_
   ·refine ⟨undef, undef, undef, undef, undef, undef, undef, undef, undef, undef, undef, undef, undef, undef, undef, undef, by simp, by simp only [List.setIfInBounds_toArray, List.set_cons_zero, List.set_cons_succ], Below.drew (Below.refl _ _), ?_, ?_, ?_, ?_, ?_, ?_, ?_, ?_, ?_, ?_, ?_, ?_, ?_, ?_, ?_, ?_, ?_, ?_, ?_, ?_, ?_⟩
    all_goals (intro h; exact absurd h (by decide))
   ·rintro l a' w' ⟨_, _, _, _, _, _, _, _, _, _, _, _, _, _, _, _, hs, _⟩
    exact hs
   ·intro i o ho
    exact region_ord (by kernel_rfl) i o ho
   ·rintro l a' w' i o ⟨u0, u1, u2, u3, u4, u5, u6, u7, u8, u9, u10, u11, u12, u13, u14, u17, hs, rfl, hB, f0, f1, f2, f3, f4, f5, f6, f7, f8, f9, f10, f11, f12, f13, f14, f15, f16, f17, fd, fc15, fc16⟩ ho hu ha
    have HS := hid hs
    have HBW := hid hB
    have F0 := hid f0
    have F1 := hid f1
    have F2 := hid f2
    have F3 := hid f3
    have F4 := hid f4
    have F5 := hid f5
    have F6 := hid f6
    have F7 := hid f7
    have F8 := hid f8
    have F9 := hid f9
    have F10 := hid f10
    have F11 := hid f11
    have F12 := hid f12
    have F13 := hid f13
    have F14 := hid f14
    have F15 := hid f15
    have F16 := hid f16
    have F17 := hid f17
    have FD := hid fd
    have FC15 := hid fc15
    have FC16 := hid fc16
    clear hs hB f0 f1 f2 f3 f4 f5 f6 f7 f8 f9 f10 f11 f12 f13 f14 f15 f16 f17 fd fc15 fc16
    have hi : i < 18 := (Array.getElem?_eq_some_iff.1 ho).1
    rcases i with _ | i
    ·simp only [List.getElem?_toArray, List.getElem?_cons_zero, Option.some.injEq] at ho
     subst ho
     clear ha
     have cc0 := keepc HBW.out HCtwo0.out
     have cc1 := keepc HBW.out HCtwo1.out
     refine wpOp_step rfl (fun K' hK => ?_)
     replace hK := hid hK
     go_simp
     replace hK := hK.out
     refine hK _ _ ⟨.agg #[.bool n_5, .slice a_5 k_5 c_5], u1, u2, u3, u4, u5, u6, u7, u8, u9, u10, u11, u12, u13, u14, u17, by rw [Array.size_setIfInBounds]; exact HS.out, by simp only [List.setIfInBounds_toArray, List.set_cons_zero, List.set_cons_succ], HBW.out, ?_, ?_, ?_, ?_, ?_, ?_, ?_, ?_, ?_, ?_, ?_, ?_, ?_, ?_, ?_, ?_, ?_, ?_, ?_, ?_, ?_⟩
     ·exact fun _ => rfl
     ·exact fun h => F1.out (listed_old h (by decide))
     ·exact fun h => by obtain ⟨n, a, k, c, e, hz⟩ := F2.out (listed_old h (by decide)); exact ⟨n, a, k, c, e, hz⟩
     ·exact fun h => F3.out (listed_old h (by decide))
     ·exact fun h => by obtain ⟨n, a, k, c, e, hz⟩ := F4.out (listed_old h (by decide)); exact ⟨n, a, k, c, e, hz⟩
     ·exact fun h => F5.out (listed_old h (by decide))
     ·exact fun h => F6.out (listed_old h (by decide))
     ·exact fun h => by obtain ⟨n, a, k, c, e, hz⟩ := F7.out (listed_old h (by decide)); exact ⟨n, a, k, c, e, hz⟩
     ·exact fun h => by obtain ⟨n, a, k, c, n2, a2, k2, c2, e, hz⟩ := F8.out (listed_old h (by decide)); exact ⟨n, a, k, c, n2, a2, k2, c2, e, hz⟩
     ·exact fun h => by obtain ⟨n, a, k, c, n2, a2, k2, c2, e, hz⟩ := F9.out (listed_old h (by decide)); exact ⟨n, a, k, c, n2, a2, k2, c2, e, hz⟩
     ·exact fun h => by obtain ⟨n, a, k, c, e, hz⟩ := F10.out (listed_old h (by decide)); exact ⟨n, a, k, c, e, hz⟩
     ·exact fun h => F11.out (listed_old h (by decide))
     ·exact fun h => F12.out (listed_old h (by decide))
     ·exact fun h => F13.out (listed_old h (by decide))
     ·exact fun h => F14.out (listed_old h (by decide))
     ·exact fun h => F15.out (listed_old h (by decide))
     ·exact fun h => F16.out (listed_old h (by decide))
     ·exact fun h => F17.out (listed_old h (by decide))
     ·exact fun h h' => FD.out (listed_old h (by decide)) (listed_old h' (by decide))
     ·exact fun h => ⟨listed_new (FC15.out (listed_old h (by decide))).1 (by decide), listed_new (FC15.out (listed_old h (by decide))).2 (by decide)⟩
     ·exact fun h => ⟨listed_new (FC16.out (listed_old h (by decide))).1 (by decide), listed_new (FC16.out (listed_old h (by decide))).2 (by decide)⟩
    rcases i with _ | i
    ·simp only [List.getElem?_toArray, List.getElem?_cons_zero, List.getElem?_cons_succ, Option.some.injEq] at ho
     subst ho
     clear ha
     have cc0 := keepc HBW.out HCa0.out
     have cc1 := keepc HBW.out HCa1.out
     refine wpOp_step rfl (fun K' hK => ?_)
     replace hK := hid hK
     go_simp
     replace hK := hK.out
     refine hK _ _ ⟨u0, .agg #[.bool n_2, .slice a_2 k_2 c_2], u2, u3, u4, u5, u6, u7, u8, u9, u10, u11, u12, u13, u14, u17, by rw [Array.size_setIfInBounds]; exact HS.out, by simp only [List.setIfInBounds_toArray, List.set_cons_zero, List.set_cons_succ], HBW.out, ?_, ?_, ?_, ?_, ?_, ?_, ?_, ?_, ?_, ?_, ?_, ?_, ?_, ?_, ?_, ?_, ?_, ?_, ?_, ?_, ?_⟩
     ·exact fun h => F0.out (listed_old h (by decide))
     ·exact fun _ => rfl
     ·exact fun h => by obtain ⟨n, a, k, c, e, hz⟩ := F2.out (listed_old h (by decide)); exact ⟨n, a, k, c, e, hz⟩
     ·exact fun h => F3.out (listed_old h (by decide))
     ·exact fun h => by obtain ⟨n, a, k, c, e, hz⟩ := F4.out (listed_old h (by decide)); exact ⟨n, a, k, c, e, hz⟩
     ·exact fun h => F5.out (listed_old h (by decide))
     ·exact fun h => F6.out (listed_old h (by decide))
     ·exact fun h => by obtain ⟨n, a, k, c, e, hz⟩ := F7.out (listed_old h (by decide)); exact ⟨n, a, k, c, e, hz⟩
     ·exact fun h => by obtain ⟨n, a, k, c, n2, a2, k2, c2, e, hz⟩ := F8.out (listed_old h (by decide)); exact ⟨n, a, k, c, n2, a2, k2, c2, e, hz⟩
     ·exact fun h => by obtain ⟨n, a, k, c, n2, a2, k2, c2, e, hz⟩ := F9.out (listed_old h (by decide)); exact ⟨n, a, k, c, n2, a2, k2, c2, e, hz⟩
     ·exact fun h => by obtain ⟨n, a, k, c, e, hz⟩ := F10.out (listed_old h (by decide)); exact ⟨n, a, k, c, e, hz⟩
     ·exact fun h => F11.out (listed_old h (by decide))
     ·exact fun h => F12.out (listed_old h (by decide))
     ·exact fun h => F13.out (listed_old h (by decide))
     ·exact fun h => F14.out (listed_old h (by decide))
     ·exact fun h => F15.out (listed_old h (by decide))
     ·exact fun h => F16.out (listed_old h (by decide))
     ·exact fun h => F17.out (listed_old h (by decide))
     ·exact fun h h' => FD.out (listed_old h (by decide)) (listed_old h' (by decide))
     ·exact fun h => ⟨listed_new (FC15.out (listed_old h (by decide))).1 (by decide), listed_new (FC15.out (listed_old h (by decide))).2 (by decide)⟩
     ·exact fun h => ⟨listed_new (FC16.out (listed_old h (by decide))).1 (by decide), listed_new (FC16.out (listed_old h (by decide))).2 (by decide)⟩
    rcases i with _ | i
    ·simp only [List.getElem?_toArray, List.getElem?_cons_zero, List.getElem?_cons_succ, Option.some.injEq] at ho
     subst ho
     have q0 : l.getD 0 false = true := ha ⟨0, .data⟩ (by simp) rfl
     have q1 : l.getD 1 false = true := ha ⟨1, .data⟩ (by simp) rfl
     clear ha
     obtain rfl := F0.out q0
     obtain rfl := F1.out q1
     refine wpOp_step rfl (fun K' hK => ?_)
     replace hK := hid hK
     go_simp
     (with_reducible refine (mul_any (HTWO.out.below HBW.out) (HA.out.below HBW.out) t2 hq4 (by omega)).mono ?_)
     rintro e v1 ⟨m1, e1, i1, j1, rfl, hz, hb⟩
     have HZ := hid hz
     clear hz
     go_simp
     replace hK := hK.out
     refine hK _ _ ⟨.agg #[.bool n_5, .slice a_5 k_5 c_5], .agg #[.bool n_2, .slice a_2 k_2 c_2], .agg #[.bool m1, .slice e1 i1 j1], u3, u4, u5, u6, u7, u8, u9, u10, u11, u12, u13, u14, u17, by rw [Array.size_setIfInBounds]; exact HS.out, by simp only [List.setIfInBounds_toArray, List.set_cons_zero, List.set_cons_succ], HBW.out.trans (hb.mono HBW.out.size), ?_, ?_, ?_, ?_, ?_, ?_, ?_, ?_, ?_, ?_, ?_, ?_, ?_, ?_, ?_, ?_, ?_, ?_, ?_, ?_, ?_⟩
     ·exact fun h => F0.out (listed_old h (by decide))
     ·exact fun h => F1.out (listed_old h (by decide))
     ·exact fun _ => ⟨m1, e1, i1, j1, rfl, HZ.out⟩
     ·exact fun h => F3.out (listed_old h (by decide))
     ·exact fun h => by obtain ⟨n, a, k, c, e, hz⟩ := F4.out (listed_old h (by decide)); exact ⟨n, a, k, c, e, (hz.below hb)⟩
     ·exact fun h => F5.out (listed_old h (by decide))
     ·exact fun h => F6.out (listed_old h (by decide))
     ·exact fun h => by obtain ⟨n, a, k, c, e, hz⟩ := F7.out (listed_old h (by decide)); exact ⟨n, a, k, c, e, (hz.below hb)⟩
     ·exact fun h => by obtain ⟨n, a, k, c, n2, a2, k2, c2, e, hz⟩ := F8.out (listed_old h (by decide)); exact ⟨n, a, k, c, n2, a2, k2, c2, e, (hz.below hb)⟩
     ·exact fun h => by obtain ⟨n, a, k, c, n2, a2, k2, c2, e, hz⟩ := F9.out (listed_old h (by decide)); exact ⟨n, a, k, c, n2, a2, k2, c2, e, (hz.below hb)⟩
     ·exact fun h => by obtain ⟨n, a, k, c, e, hz⟩ := F10.out (listed_old h (by decide)); exact ⟨n, a, k, c, e, (hz.below hb)⟩
     ·exact fun h => F11.out (listed_old h (by decide))
     ·exact fun h => F12.out (listed_old h (by decide))
     ·exact fun h => by obtain ⟨g, n, a, k, c, e, hg, hh⟩ := F13.out (listed_old h (by decide)); exact ⟨g, n, a, k, c, e, hg, blk_next hh hb⟩
     ·exact fun h => by obtain ⟨g, n, a, k, c, e, hg, hh⟩ := F14.out (listed_old h (by decide)); exact ⟨g, n, a, k, c, e, hg, blk_next hh hb⟩
     ·exact fun h => by obtain ⟨g, n, a, k, c, e, hh, hz⟩ := F15.out (listed_old h (by decide)); exact ⟨g, n, a, k, c, e, blk_next hh hb, hz.below hb⟩
     ·exact fun h => F16.out (listed_old h (by decide))
     ·exact fun h => F17.out (listed_old h (by decide))
     ·exact fun h h' => FD.out (listed_old h (by decide)) (listed_old h' (by decide))
     ·exact fun h => ⟨listed_new (FC15.out (listed_old h (by decide))).1 (by decide), listed_new (FC15.out (listed_old h (by decide))).2 (by decide)⟩
     ·exact fun h => ⟨listed_new (FC16.out (listed_old h (by decide))).1 (by decide), listed_new (FC16.out (listed_old h (by decide))).2 (by decide)⟩
    rcases i with _ | i
    ·simp only [List.getElem?_toArray, List.getElem?_cons_zero, List.getElem?_cons_succ, Option.some.injEq] at ho
     subst ho
     clear ha
     have cc0 := keepc HBW.out HChalf0.out
     have cc1 := keepc HBW.out HChalf1.out
     refine wpOp_step rfl (fun K' hK => ?_)
     replace hK := hid hK
     go_simp
     replace hK := hK.out
     refine hK _ _ ⟨u0, u1, u2, .agg #[.bool n2_2, .slice a2_2 k2_2 c2_2], u4, u5, u6, u7, u8, u9, u10, u11, u12, u13, u14, u17, by rw [Array.size_setIfInBounds]; exact HS.out, by simp only [List.setIfInBounds_toArray, List.set_cons_zero, List.set_cons_succ], HBW.out, ?_, ?_, ?_, ?_, ?_, ?_, ?_, ?_, ?_, ?_, ?_, ?_, ?_, ?_, ?_, ?_, ?_, ?_, ?_, ?_, ?_⟩
     ·exact fun h => F0.out (listed_old h (by decide))
     ·exact fun h => F1.out (listed_old h (by decide))
     ·exact fun h => by obtain ⟨n, a, k, c, e, hz⟩ := F2.out (listed_old h (by decide)); exact ⟨n, a, k, c, e, hz⟩
     ·exact fun _ => rfl
     ·exact fun h => by obtain ⟨n, a, k, c, e, hz⟩ := F4.out (listed_old h (by decide)); exact ⟨n, a, k, c, e, hz⟩
     ·exact fun h => F5.out (listed_old h (by decide))
     ·exact fun h => F6.out (listed_old h (by decide))
     ·exact fun h => by obtain ⟨n, a, k, c, e, hz⟩ := F7.out (listed_old h (by decide)); exact ⟨n, a, k, c, e, hz⟩
     ·exact fun h => by obtain ⟨n, a, k, c, n2, a2, k2, c2, e, hz⟩ := F8.out (listed_old h (by decide)); exact ⟨n, a, k, c, n2, a2, k2, c2, e, hz⟩
     ·exact fun h => by obtain ⟨n, a, k, c, n2, a2, k2, c2, e, hz⟩ := F9.out (listed_old h (by decide)); exact ⟨n, a, k, c, n2, a2, k2, c2, e, hz⟩
     ·exact fun h => by obtain ⟨n, a, k, c, e, hz⟩ := F10.out (listed_old h (by decide)); exact ⟨n, a, k, c, e, hz⟩
     ·exact fun h => F11.out (listed_old h (by decide))
     ·exact fun h => F12.out (listed_old h (by decide))
     ·exact fun h => F13.out (listed_old h (by decide))
     ·exact fun h => F14.out (listed_old h (by decide))
     ·exact fun h => F15.out (listed_old h (by decide))
     ·exact fun h => F16.out (listed_old h (by decide))
     ·exact fun h => F17.out (listed_old h (by decide))
     ·exact fun h h' => FD.out (listed_old h (by decide)) (listed_old h' (by decide))
     ·exact fun h => ⟨listed_new (FC15.out (listed_old h (by decide))).1 (by decide), listed_new (FC15.out (listed_old h (by decide))).2 (by decide)⟩
     ·exact fun h => ⟨listed_new (FC16.out (listed_old h (by decide))).1 (by decide), listed_new (FC16.out (listed_old h (by decide))).2 (by decide)⟩
    rcases i with _ | i
    ·simp only [List.getElem?_toArray, List.getElem?_cons_zero, List.getElem?_cons_succ, Option.some.injEq] at ho
     subst ho
     have q2 : l.getD 2 false = true := ha ⟨2, .data⟩ (by simp) rfl
     have q3 : l.getD 3 false = true := ha ⟨3, .data⟩ (by simp) rfl
     clear ha
     obtain ⟨n2, a2, k2, c2, rfl, hz2⟩ := F2.out q2
     have HZ2 := hid hz2
     clear hz2
     obtain rfl := F3.out q3
     refine wpOp_step rfl (fun K' hK => ?_)
     replace hK := hid hK
     go_simp
     (with_reducible refine (add_any HZ2.out (HD.out.below HBW.out) d1 d2 (by omega)).mono ?_)
     rintro e v1 ⟨m1, e1, i1, j1, rfl, hz, hb⟩
     have HZ := hid hz
     clear hz
     go_simp
     replace hK := hK.out
     refine hK _ _ ⟨u0, u1, .agg #[.bool n2, .slice a2 k2 c2], .agg #[.bool n2_2, .slice a2_2 k2_2 c2_2], .agg #[.bool m1, .slice e1 i1 j1], u5, u6, u7, u8, u9, u10, u11, u12, u13, u14, u17, by rw [Array.size_setIfInBounds]; exact HS.out, by simp only [List.setIfInBounds_toArray, List.set_cons_zero, List.set_cons_succ], HBW.out.trans (hb.mono HBW.out.size), ?_, ?_, ?_, ?_, ?_, ?_, ?_, ?_, ?_, ?_, ?_, ?_, ?_, ?_, ?_, ?_, ?_, ?_, ?_, ?_, ?_⟩
     ·exact fun h => F0.out (listed_old h (by decide))
     ·exact fun h => F1.out (listed_old h (by decide))
     ·exact fun h => by obtain ⟨n, a, k, c, e, hz⟩ := F2.out (listed_old h (by decide)); exact ⟨n, a, k, c, e, (hz.below hb)⟩
     ·exact fun h => F3.out (listed_old h (by decide))
     ·exact fun _ => ⟨m1, e1, i1, j1, rfl, HZ.out⟩
     ·exact fun h => F5.out (listed_old h (by decide))
     ·exact fun h => F6.out (listed_old h (by decide))
     ·exact fun h => by obtain ⟨n, a, k, c, e, hz⟩ := F7.out (listed_old h (by decide)); exact ⟨n, a, k, c, e, (hz.below hb)⟩
     ·exact fun h => by obtain ⟨n, a, k, c, n2, a2, k2, c2, e, hz⟩ := F8.out (listed_old h (by decide)); exact ⟨n, a, k, c, n2, a2, k2, c2, e, (hz.below hb)⟩
     ·exact fun h => by obtain ⟨n, a, k, c, n2, a2, k2, c2, e, hz⟩ := F9.out (listed_old h (by decide)); exact ⟨n, a, k, c, n2, a2, k2, c2, e, (hz.below hb)⟩
     ·exact fun h => by obtain ⟨n, a, k, c, e, hz⟩ := F10.out (listed_old h (by decide)); exact ⟨n, a, k, c, e, (hz.below hb)⟩
     ·exact fun h => F11.out (listed_old h (by decide))
     ·exact fun h => F12.out (listed_old h (by decide))
     ·exact fun h => by obtain ⟨g, n, a, k, c, e, hg, hh⟩ := F13.out (listed_old h (by decide)); exact ⟨g, n, a, k, c, e, hg, blk_next hh hb⟩
     ·exact fun h => by obtain ⟨g, n, a, k, c, e, hg, hh⟩ := F14.out (listed_old h (by decide)); exact ⟨g, n, a, k, c, e, hg, blk_next hh hb⟩
     ·exact fun h => by obtain ⟨g, n, a, k, c, e, hh, hz⟩ := F15.out (listed_old h (by decide)); exact ⟨g, n, a, k, c, e, blk_next hh hb, hz.below hb⟩
     ·exact fun h => F16.out (listed_old h (by decide))
     ·exact fun h => F17.out (listed_old h (by decide))
     ·exact fun h h' => FD.out (listed_old h (by decide)) (listed_old h' (by decide))
     ·exact fun h => ⟨listed_new (FC15.out (listed_old h (by decide))).1 (by decide), listed_new (FC15.out (listed_old h (by decide))).2 (by decide)⟩
     ·exact fun h => ⟨listed_new (FC16.out (listed_old h (by decide))).1 (by decide), listed_new (FC16.out (listed_old h (by decide))).2 (by decide)⟩
    rcases i with _ | i
    ·simp only [List.getElem?_toArray, List.getElem?_cons_zero, List.getElem?_cons_succ, Option.some.injEq] at ho
     subst ho
     clear ha
     have cc0 := keepc HBW.out HCtwo0.out
     have cc1 := keepc HBW.out HCtwo1.out
     refine wpOp_step rfl (fun K' hK => ?_)
     replace hK := hid hK
     go_simp
     replace hK := hK.out
     refine hK _ _ ⟨u0, u1, u2, u3, u4, .agg #[.bool n_5, .slice a_5 k_5 c_5], u6, u7, u8, u9, u10, u11, u12, u13, u14, u17, by rw [Array.size_setIfInBounds]; exact HS.out, by simp only [List.setIfInBounds_toArray, List.set_cons_zero, List.set_cons_succ], HBW.out, ?_, ?_, ?_, ?_, ?_, ?_, ?_, ?_, ?_, ?_, ?_, ?_, ?_, ?_, ?_, ?_, ?_, ?_, ?_, ?_, ?_⟩
     ·exact fun h => F0.out (listed_old h (by decide))
     ·exact fun h => F1.out (listed_old h (by decide))
     ·exact fun h => by obtain ⟨n, a, k, c, e, hz⟩ := F2.out (listed_old h (by decide)); exact ⟨n, a, k, c, e, hz⟩
     ·exact fun h => F3.out (listed_old h (by decide))
     ·exact fun h => by obtain ⟨n, a, k, c, e, hz⟩ := F4.out (listed_old h (by decide)); exact ⟨n, a, k, c, e, hz⟩
     ·exact fun _ => rfl
     ·exact fun h => F6.out (listed_old h (by decide))
     ·exact fun h => by obtain ⟨n, a, k, c, e, hz⟩ := F7.out (listed_old h (by decide)); exact ⟨n, a, k, c, e, hz⟩
     ·exact fun h => by obtain ⟨n, a, k, c, n2, a2, k2, c2, e, hz⟩ := F8.out (listed_old h (by decide)); exact ⟨n, a, k, c, n2, a2, k2, c2, e, hz⟩
     ·exact fun h => by obtain ⟨n, a, k, c, n2, a2, k2, c2, e, hz⟩ := F9.out (listed_old h (by decide)); exact ⟨n, a, k, c, n2, a2, k2, c2, e, hz⟩
     ·exact fun h => by obtain ⟨n, a, k, c, e, hz⟩ := F10.out (listed_old h (by decide)); exact ⟨n, a, k, c, e, hz⟩
     ·exact fun h => F11.out (listed_old h (by decide))
     ·exact fun h => F12.out (listed_old h (by decide))
     ·exact fun h => F13.out (listed_old h (by decide))
     ·exact fun h => F14.out (listed_old h (by decide))
     ·exact fun h => F15.out (listed_old h (by decide))
     ·exact fun h => F16.out (listed_old h (by decide))
     ·exact fun h => F17.out (listed_old h (by decide))
     ·exact fun h h' => FD.out (listed_old h (by decide)) (listed_old h' (by decide))
     ·exact fun h => ⟨listed_new (FC15.out (listed_old h (by decide))).1 (by decide), listed_new (FC15.out (listed_old h (by decide))).2 (by decide)⟩
     ·exact fun h => ⟨listed_new (FC16.out (listed_old h (by decide))).1 (by decide), listed_new (FC16.out (listed_old h (by decide))).2 (by decide)⟩
    rcases i with _ | i
    ·simp only [List.getElem?_toArray, List.getElem?_cons_zero, List.getElem?_cons_succ, Option.some.injEq] at ho
     subst ho
     clear ha
     have cc0 := keepc HBW.out HCd0.out
     have cc1 := keepc HBW.out HCd1.out
     refine wpOp_step rfl (fun K' hK => ?_)
     replace hK := hid hK
     go_simp
     replace hK := hK.out
     refine hK _ _ ⟨u0, u1, u2, u3, u4, u5, .agg #[.bool n2_2, .slice a2_2 k2_2 c2_2], u7, u8, u9, u10, u11, u12, u13, u14, u17, by rw [Array.size_setIfInBounds]; exact HS.out, by simp only [List.setIfInBounds_toArray, List.set_cons_zero, List.set_cons_succ], HBW.out, ?_, ?_, ?_, ?_, ?_, ?_, ?_, ?_, ?_, ?_, ?_, ?_, ?_, ?_, ?_, ?_, ?_, ?_, ?_, ?_, ?_⟩
     ·exact fun h => F0.out (listed_old h (by decide))
     ·exact fun h => F1.out (listed_old h (by decide))
     ·exact fun h => by obtain ⟨n, a, k, c, e, hz⟩ := F2.out (listed_old h (by decide)); exact ⟨n, a, k, c, e, hz⟩
     ·exact fun h => F3.out (listed_old h (by decide))
     ·exact fun h => by obtain ⟨n, a, k, c, e, hz⟩ := F4.out (listed_old h (by decide)); exact ⟨n, a, k, c, e, hz⟩
     ·exact fun h => F5.out (listed_old h (by decide))
     ·exact fun _ => rfl
     ·exact fun h => by obtain ⟨n, a, k, c, e, hz⟩ := F7.out (listed_old h (by decide)); exact ⟨n, a, k, c, e, hz⟩
     ·exact fun h => by obtain ⟨n, a, k, c, n2, a2, k2, c2, e, hz⟩ := F8.out (listed_old h (by decide)); exact ⟨n, a, k, c, n2, a2, k2, c2, e, hz⟩
     ·exact fun h => by obtain ⟨n, a, k, c, n2, a2, k2, c2, e, hz⟩ := F9.out (listed_old h (by decide)); exact ⟨n, a, k, c, n2, a2, k2, c2, e, hz⟩
     ·exact fun h => by obtain ⟨n, a, k, c, e, hz⟩ := F10.out (listed_old h (by decide)); exact ⟨n, a, k, c, e, hz⟩
     ·exact fun h => F11.out (listed_old h (by decide))
     ·exact fun h => F12.out (listed_old h (by decide))
     ·exact fun h => F13.out (listed_old h (by decide))
     ·exact fun h => F14.out (listed_old h (by decide))
     ·exact fun h => F15.out (listed_old h (by decide))
     ·exact fun h => F16.out (listed_old h (by decide))
     ·exact fun h => F17.out (listed_old h (by decide))
     ·exact fun h h' => FD.out (listed_old h (by decide)) (listed_old h' (by decide))
     ·exact fun h => ⟨listed_new (FC15.out (listed_old h (by decide))).1 (by decide), listed_new (FC15.out (listed_old h (by decide))).2 (by decide)⟩
     ·exact fun h => ⟨listed_new (FC16.out (listed_old h (by decide))).1 (by decide), listed_new (FC16.out (listed_old h (by decide))).2 (by decide)⟩
    rcases i with _ | i
    ·simp only [List.getElem?_toArray, List.getElem?_cons_zero, List.getElem?_cons_succ, Option.some.injEq] at ho
     subst ho
     have q5 : l.getD 5 false = true := ha ⟨5, .data⟩ (by simp) rfl
     have q6 : l.getD 6 false = true := ha ⟨6, .data⟩ (by simp) rfl
     clear ha
     obtain rfl := F5.out q5
     obtain rfl := F6.out q6
     refine wpOp_step rfl (fun K' hK => ?_)
     replace hK := hid hK
     go_simp
     (with_reducible refine (mul_any (HTWO.out.below HBW.out) (HD.out.below HBW.out) t2 hq5 (by omega)).mono ?_)
     rintro e v1 ⟨m1, e1, i1, j1, rfl, hz, hb⟩
     have HZ := hid hz
     clear hz
     go_simp
     replace hK := hK.out
     refine hK _ _ ⟨u0, u1, u2, u3, u4, .agg #[.bool n_5, .slice a_5 k_5 c_5], .agg #[.bool n2_2, .slice a2_2 k2_2 c2_2], .agg #[.bool m1, .slice e1 i1 j1], u8, u9, u10, u11, u12, u13, u14, u17, by rw [Array.size_setIfInBounds]; exact HS.out, by simp only [List.setIfInBounds_toArray, List.set_cons_zero, List.set_cons_succ], HBW.out.trans (hb.mono HBW.out.size), ?_, ?_, ?_, ?_, ?_, ?_, ?_, ?_, ?_, ?_, ?_, ?_, ?_, ?_, ?_, ?_, ?_, ?_, ?_, ?_, ?_⟩
     ·exact fun h => F0.out (listed_old h (by decide))
     ·exact fun h => F1.out (listed_old h (by decide))
     ·exact fun h => by obtain ⟨n, a, k, c, e, hz⟩ := F2.out (listed_old h (by decide)); exact ⟨n, a, k, c, e, (hz.below hb)⟩
     ·exact fun h => F3.out (listed_old h (by decide))
     ·exact fun h => by obtain ⟨n, a, k, c, e, hz⟩ := F4.out (listed_old h (by decide)); exact ⟨n, a, k, c, e, (hz.below hb)⟩
     ·exact fun h => F5.out (listed_old h (by decide))
     ·exact fun h => F6.out (listed_old h (by decide))
     ·exact fun _ => ⟨m1, e1, i1, j1, rfl, HZ.out⟩
     ·exact fun h => by obtain ⟨n, a, k, c, n2, a2, k2, c2, e, hz⟩ := F8.out (listed_old h (by decide)); exact ⟨n, a, k, c, n2, a2, k2, c2, e, (hz.below hb)⟩
     ·exact fun h => by obtain ⟨n, a, k, c, n2, a2, k2, c2, e, hz⟩ := F9.out (listed_old h (by decide)); exact ⟨n, a, k, c, n2, a2, k2, c2, e, (hz.below hb)⟩
     ·exact fun h => by obtain ⟨n, a, k, c, e, hz⟩ := F10.out (listed_old h (by decide)); exact ⟨n, a, k, c, e, (hz.below hb)⟩
     ·exact fun h => F11.out (listed_old h (by decide))
     ·exact fun h => F12.out (listed_old h (by decide))
     ·exact fun h => by obtain ⟨g, n, a, k, c, e, hg, hh⟩ := F13.out (listed_old h (by decide)); exact ⟨g, n, a, k, c, e, hg, blk_next hh hb⟩
     ·exact fun h => by obtain ⟨g, n, a, k, c, e, hg, hh⟩ := F14.out (listed_old h (by decide)); exact ⟨g, n, a, k, c, e, hg, blk_next hh hb⟩
     ·exact fun h => by obtain ⟨g, n, a, k, c, e, hh, hz⟩ := F15.out (listed_old h (by decide)); exact ⟨g, n, a, k, c, e, blk_next hh hb, hz.below hb⟩
     ·exact fun h => F16.out (listed_old h (by decide))
     ·exact fun h => F17.out (listed_old h (by decide))
     ·exact fun h h' => FD.out (listed_old h (by decide)) (listed_old h' (by decide))
     ·exact fun h => ⟨listed_new (FC15.out (listed_old h (by decide))).1 (by decide), listed_new (FC15.out (listed_old h (by decide))).2 (by decide)⟩
     ·exact fun h => ⟨listed_new (FC16.out (listed_old h (by decide))).1 (by decide), listed_new (FC16.out (listed_old h (by decide))).2 (by decide)⟩
    rcases i with _ | i
    ·simp only [List.getElem?_toArray, List.getElem?_cons_zero, List.getElem?_cons_succ, Option.some.injEq] at ho
     subst ho
     have q4 : l.getD 4 false = true := ha ⟨4, .data⟩ (by simp) rfl
     have q7 : l.getD 7 false = true := ha ⟨7, .data⟩ (by simp) rfl
     clear ha
     obtain ⟨n4, a4, k4, c4, rfl, hz4⟩ := F4.out q4
     have HZ4 := hid hz4
     clear hz4
     obtain ⟨n7, a7, k7, c7, rfl, hz7⟩ := F7.out q7
     have HZ7 := hid hz7
     clear hz7
     refine wpOp_step rfl (fun K' hK => ?_)
     replace hK := hid hK
     go_simp
     (with_reducible refine (quorem_any HZ4.out HZ7.out HZ.out d4 (by omega)).mono ?_)
     rintro e v1 ⟨m1, e1, i1, j1, m2, e2, i2, j2, rfl, hz, _, hb⟩
     have HZ := hid hz
     clear hz
     go_simp
     replace hK := hK.out
     refine hK _ _ ⟨u0, u1, u2, u3, .agg #[.bool n4, .slice a4 k4 c4], u5, u6, .agg #[.bool n7, .slice a7 k7 c7], .tuple #[.agg #[.bool m1, .slice e1 i1 j1], .agg #[.bool m2, .slice e2 i2 j2], .int .i64 0], u9, u10, u11, u12, u13, u14, u17, by rw [Array.size_setIfInBounds]; exact HS.out, by simp only [List.setIfInBounds_toArray, List.set_cons_zero, List.set_cons_succ], HBW.out.trans (hb.mono HBW.out.size), ?_, ?_, ?_, ?_, ?_, ?_, ?_, ?_, ?_, ?_, ?_, ?_, ?_, ?_, ?_, ?_, ?_, ?_, ?_, ?_, ?_⟩
     ·exact fun h => F0.out (listed_old h (by decide))
     ·exact fun h => F1.out (listed_old h (by decide))
     ·exact fun h => by obtain ⟨n, a, k, c, e, hz⟩ := F2.out (listed_old h (by decide)); exact ⟨n, a, k, c, e, (hz.below hb)⟩
     ·exact fun h => F3.out (listed_old h (by decide))
     ·exact fun h => by obtain ⟨n, a, k, c, e, hz⟩ := F4.out (listed_old h (by decide)); exact ⟨n, a, k, c, e, (hz.below hb)⟩
     ·exact fun h => F5.out (listed_old h (by decide))
     ·exact fun h => F6.out (listed_old h (by decide))
     ·exact fun h => by obtain ⟨n, a, k, c, e, hz⟩ := F7.out (listed_old h (by decide)); exact ⟨n, a, k, c, e, (hz.below hb)⟩
     ·exact fun _ => ⟨m1, e1, i1, j1, m2, e2, i2, j2, rfl, HZ.out⟩
     ·exact fun h => by obtain ⟨n, a, k, c, n2, a2, k2, c2, e, hz⟩ := F9.out (listed_old h (by decide)); exact ⟨n, a, k, c, n2, a2, k2, c2, e, (hz.below hb)⟩
     ·exact fun h => by obtain ⟨n, a, k, c, e, hz⟩ := F10.out (listed_old h (by decide)); exact ⟨n, a, k, c, e, (hz.below hb)⟩
     ·exact fun h => F11.out (listed_old h (by decide))
     ·exact fun h => F12.out (listed_old h (by decide))
     ·exact fun h => by obtain ⟨g, n, a, k, c, e, hg, hh⟩ := F13.out (listed_old h (by decide)); exact ⟨g, n, a, k, c, e, hg, blk_next hh hb⟩
     ·exact fun h => by obtain ⟨g, n, a, k, c, e, hg, hh⟩ := F14.out (listed_old h (by decide)); exact ⟨g, n, a, k, c, e, hg, blk_next hh hb⟩
     ·exact fun h => by obtain ⟨g, n, a, k, c, e, hh, hz⟩ := F15.out (listed_old h (by decide)); exact ⟨g, n, a, k, c, e, blk_next hh hb, hz.below hb⟩
     ·exact fun h => F16.out (listed_old h (by decide))
     ·exact fun h => F17.out (listed_old h (by decide))
     ·exact fun h h' => FD.out (listed_old h (by decide)) (listed_old h' (by decide))
     ·exact fun h => ⟨listed_new (FC15.out (listed_old h (by decide))).1 (by decide), listed_new (FC15.out (listed_old h (by decide))).2 (by decide)⟩
     ·exact fun h => ⟨listed_new (FC16.out (listed_old h (by decide))).1 (by decide), listed_new (FC16.out (listed_old h (by decide))).2 (by decide)⟩
    rcases i with _ | i
    ·simp only [List.getElem?_toArray, List.getElem?_cons_zero, List.getElem?_cons_succ, Option.some.injEq] at ho
     subst ho
     have q8 : l.getD 8 false = true := ha ⟨8, .data⟩ (by simp) rfl
     clear ha
     obtain ⟨n8, a8, k8, c8, n28, a28, k28, c28, rfl, hz8⟩ := F8.out q8
     have HZ := hid hz8
     clear hz8
     refine wpOp_step rfl (fun K' hK => ?_)
     replace hK := hid hK
     go_simp
     replace hK := hK.out
     refine hK _ _ ⟨u0, u1, u2, u3, u4, u5, u6, u7, .tuple #[.agg #[.bool n8, .slice a8 k8 c8], .agg #[.bool n28, .slice a28 k28 c28], .int .i64 0], .tuple #[.agg #[.bool n8, .slice a8 k8 c8], .agg #[.bool n28, .slice a28 k28 c28], .int .i64 0], u10, u11, u12, u13, u14, u17, by rw [Array.size_setIfInBounds]; exact HS.out, by simp only [List.setIfInBounds_toArray, List.set_cons_zero, List.set_cons_succ], HBW.out, ?_, ?_, ?_, ?_, ?_, ?_, ?_, ?_, ?_, ?_, ?_, ?_, ?_, ?_, ?_, ?_, ?_, ?_, ?_, ?_, ?_⟩
     ·exact fun h => F0.out (listed_old h (by decide))
     ·exact fun h => F1.out (listed_old h (by decide))
     ·exact fun h => by obtain ⟨n, a, k, c, e, hz⟩ := F2.out (listed_old h (by decide)); exact ⟨n, a, k, c, e, hz⟩
     ·exact fun h => F3.out (listed_old h (by decide))
     ·exact fun h => by obtain ⟨n, a, k, c, e, hz⟩ := F4.out (listed_old h (by decide)); exact ⟨n, a, k, c, e, hz⟩
     ·exact fun h => F5.out (listed_old h (by decide))
     ·exact fun h => F6.out (listed_old h (by decide))
     ·exact fun h => by obtain ⟨n, a, k, c, e, hz⟩ := F7.out (listed_old h (by decide)); exact ⟨n, a, k, c, e, hz⟩
     ·exact fun h => by obtain ⟨n, a, k, c, n2, a2, k2, c2, e, hz⟩ := F8.out (listed_old h (by decide)); exact ⟨n, a, k, c, n2, a2, k2, c2, e, hz⟩
     ·exact fun _ => ⟨n8, a8, k8, c8, n28, a28, k28, c28, rfl, HZ.out⟩
     ·exact fun h => by obtain ⟨n, a, k, c, e, hz⟩ := F10.out (listed_old h (by decide)); exact ⟨n, a, k, c, e, hz⟩
     ·exact fun h => F11.out (listed_old h (by decide))
     ·exact fun h => F12.out (listed_old h (by decide))
     ·exact fun h => F13.out (listed_old h (by decide))
     ·exact fun h => F14.out (listed_old h (by decide))
     ·exact fun h => F15.out (listed_old h (by decide))
     ·exact fun h => F16.out (listed_old h (by decide))
     ·exact fun h => F17.out (listed_old h (by decide))
     ·exact fun h h' => FD.out (listed_old h (by decide)) (listed_old h' (by decide))
     ·exact fun h => ⟨listed_new (FC15.out (listed_old h (by decide))).1 (by decide), listed_new (FC15.out (listed_old h (by decide))).2 (by decide)⟩
     ·exact fun h => ⟨listed_new (FC16.out (listed_old h (by decide))).1 (by decide), listed_new (FC16.out (listed_old h (by decide))).2 (by decide)⟩
    rcases i with _ | i
    ·simp only [List.getElem?_toArray, List.getElem?_cons_zero, List.getElem?_cons_succ, Option.some.injEq] at ho
     subst ho
     have q9 : l.getD 9 false = true := ha ⟨9, .data⟩ (by simp) rfl
     clear ha
     obtain ⟨n9, a9, k9, c9, n29, a29, k29, c29, rfl, hz9⟩ := F9.out q9
     have HZ := hid hz9
     clear hz9
     refine wpOp_step rfl (fun K' hK => ?_)
     replace hK := hid hK
     go_simp
     replace hK := hK.out
     refine hK _ _ ⟨u0, u1, u2, u3, u4, u5, u6, u7, u8, .tuple #[.agg #[.bool n9, .slice a9 k9 c9], .agg #[.bool n29, .slice a29 k29 c29], .int .i64 0], .agg #[.bool n9, .slice a9 k9 c9], u11, u12, u13, u14, u17, by rw [Array.size_setIfInBounds]; exact HS.out, by simp only [List.setIfInBounds_toArray, List.set_cons_zero, List.set_cons_succ], HBW.out, ?_, ?_, ?_, ?_, ?_, ?_, ?_, ?_, ?_, ?_, ?_, ?_, ?_, ?_, ?_, ?_, ?_, ?_, ?_, ?_, ?_⟩
     ·exact fun h => F0.out (listed_old h (by decide))
     ·exact fun h => F1.out (listed_old h (by decide))
     ·exact fun h => by obtain ⟨n, a, k, c, e, hz⟩ := F2.out (listed_old h (by decide)); exact ⟨n, a, k, c, e, hz⟩
     ·exact fun h => F3.out (listed_old h (by decide))
     ·exact fun h => by obtain ⟨n, a, k, c, e, hz⟩ := F4.out (listed_old h (by decide)); exact ⟨n, a, k, c, e, hz⟩
     ·exact fun h => F5.out (listed_old h (by decide))
     ·exact fun h => F6.out (listed_old h (by decide))
     ·exact fun h => by obtain ⟨n, a, k, c, e, hz⟩ := F7.out (listed_old h (by decide)); exact ⟨n, a, k, c, e, hz⟩
     ·exact fun h => by obtain ⟨n, a, k, c, n2, a2, k2, c2, e, hz⟩ := F8.out (listed_old h (by decide)); exact ⟨n, a, k, c, n2, a2, k2, c2, e, hz⟩
     ·exact fun h => by obtain ⟨n, a, k, c, n2, a2, k2, c2, e, hz⟩ := F9.out (listed_old h (by decide)); exact ⟨n, a, k, c, n2, a2, k2, c2, e, hz⟩
     ·exact fun _ => ⟨n9, a9, k9, c9, rfl, HZ.out⟩
     ·exact fun h => F11.out (listed_old h (by decide))
     ·exact fun h => F12.out (listed_old h (by decide))
     ·exact fun h => F13.out (listed_old h (by decide))
     ·exact fun h => F14.out (listed_old h (by decide))
     ·exact fun h => F15.out (listed_old h (by decide))
     ·exact fun h => F16.out (listed_old h (by decide))
     ·exact fun h => F17.out (listed_old h (by decide))
     ·exact fun h h' => FD.out (listed_old h (by decide)) (listed_old h' (by decide))
     ·exact fun h => ⟨listed_new (FC15.out (listed_old h (by decide))).1 (by decide), listed_new (FC15.out (listed_old h (by decide))).2 (by decide)⟩
     ·exact fun h => ⟨listed_new (FC16.out (listed_old h (by decide))).1 (by decide), listed_new (FC16.out (listed_old h (by decide))).2 (by decide)⟩
    rcases i with _ | i
    ·simp only [List.getElem?_toArray, List.getElem?_cons_zero, List.getElem?_cons_succ, Option.some.injEq] at ho
     subst ho
     have q9 : l.getD 9 false = true := ha ⟨9, .data⟩ (by simp) rfl
     clear ha
     obtain ⟨n9, a9, k9, c9, n29, a29, k29, c29, rfl, hz9⟩ := F9.out q9
     have HZ := hid hz9
     clear hz9
     refine wpOp_step rfl (fun K' hK => ?_)
     replace hK := hid hK
     go_simp
     replace hK := hK.out
     refine hK _ _ ⟨u0, u1, u2, u3, u4, u5, u6, u7, u8, .tuple #[.agg #[.bool n9, .slice a9 k9 c9], .agg #[.bool n29, .slice a29 k29 c29], .int .i64 0], u10, .agg #[.bool n29, .slice a29 k29 c29], u12, u13, u14, u17, by rw [Array.size_setIfInBounds]; exact HS.out, by simp only [List.setIfInBounds_toArray, List.set_cons_zero, List.set_cons_succ], HBW.out, ?_, ?_, ?_, ?_, ?_, ?_, ?_, ?_, ?_, ?_, ?_, ?_, ?_, ?_, ?_, ?_, ?_, ?_, ?_, ?_, ?_⟩
     ·exact fun h => F0.out (listed_old h (by decide))
     ·exact fun h => F1.out (listed_old h (by decide))
     ·exact fun h => by obtain ⟨n, a, k, c, e, hz⟩ := F2.out (listed_old h (by decide)); exact ⟨n, a, k, c, e, hz⟩
     ·exact fun h => F3.out (listed_old h (by decide))
     ·exact fun h => by obtain ⟨n, a, k, c, e, hz⟩ := F4.out (listed_old h (by decide)); exact ⟨n, a, k, c, e, hz⟩
     ·exact fun h => F5.out (listed_old h (by decide))
     ·exact fun h => F6.out (listed_old h (by decide))
     ·exact fun h => by obtain ⟨n, a, k, c, e, hz⟩ := F7.out (listed_old h (by decide)); exact ⟨n, a, k, c, e, hz⟩
     ·exact fun h => by obtain ⟨n, a, k, c, n2, a2, k2, c2, e, hz⟩ := F8.out (listed_old h (by decide)); exact ⟨n, a, k, c, n2, a2, k2, c2, e, hz⟩
     ·exact fun h => by obtain ⟨n, a, k, c, n2, a2, k2, c2, e, hz⟩ := F9.out (listed_old h (by decide)); exact ⟨n, a, k, c, n2, a2, k2, c2, e, hz⟩
     ·exact fun h => by obtain ⟨n, a, k, c, e, hz⟩ := F10.out (listed_old h (by decide)); exact ⟨n, a, k, c, e, hz⟩
     ·exact fun _ => ⟨n29, a29, k29, c29, rfl⟩
     ·exact fun h => F12.out (listed_old h (by decide))
     ·exact fun h => F13.out (listed_old h (by decide))
     ·exact fun h => F14.out (listed_old h (by decide))
     ·exact fun h => F15.out (listed_old h (by decide))
     ·exact fun h => F16.out (listed_old h (by decide))
     ·exact fun h => F17.out (listed_old h (by decide))
     ·exact fun h h' => FD.out (listed_old h (by decide)) (listed_old h' (by decide))
     ·exact fun h => ⟨listed_new (FC15.out (listed_old h (by decide))).1 (by decide), listed_new (FC15.out (listed_old h (by decide))).2 (by decide)⟩
     ·exact fun h => ⟨listed_new (FC16.out (listed_old h (by decide))).1 (by decide), listed_new (FC16.out (listed_old h (by decide))).2 (by decide)⟩
    rcases i with _ | i
    ·simp only [List.getElem?_toArray, List.getElem?_cons_zero, List.getElem?_cons_succ, Option.some.injEq] at ho
     subst ho
     have q9 : l.getD 9 false = true := ha ⟨9, .data⟩ (by simp) rfl
     clear ha
     obtain ⟨n9, a9, k9, c9, n29, a29, k29, c29, rfl, hz9⟩ := F9.out q9
     have HZ := hid hz9
     clear hz9
     refine wpOp_step rfl (fun K' hK => ?_)
     replace hK := hid hK
     go_simp
     replace hK := hK.out
     refine hK _ _ ⟨u0, u1, u2, u3, u4, u5, u6, u7, u8, .tuple #[.agg #[.bool n9, .slice a9 k9 c9], .agg #[.bool n29, .slice a29 k29 c29], .int .i64 0], u10, u11, .int .i64 0, u13, u14, u17, by rw [Array.size_setIfInBounds]; exact HS.out, by simp only [List.setIfInBounds_toArray, List.set_cons_zero, List.set_cons_succ], HBW.out, ?_, ?_, ?_, ?_, ?_, ?_, ?_, ?_, ?_, ?_, ?_, ?_, ?_, ?_, ?_, ?_, ?_, ?_, ?_, ?_, ?_⟩
     ·exact fun h => F0.out (listed_old h (by decide))
     ·exact fun h => F1.out (listed_old h (by decide))
     ·exact fun h => by obtain ⟨n, a, k, c, e, hz⟩ := F2.out (listed_old h (by decide)); exact ⟨n, a, k, c, e, hz⟩
     ·exact fun h => F3.out (listed_old h (by decide))
     ·exact fun h => by obtain ⟨n, a, k, c, e, hz⟩ := F4.out (listed_old h (by decide)); exact ⟨n, a, k, c, e, hz⟩
     ·exact fun h => F5.out (listed_old h (by decide))
     ·exact fun h => F6.out (listed_old h (by decide))
     ·exact fun h => by obtain ⟨n, a, k, c, e, hz⟩ := F7.out (listed_old h (by decide)); exact ⟨n, a, k, c, e, hz⟩
     ·exact fun h => by obtain ⟨n, a, k, c, n2, a2, k2, c2, e, hz⟩ := F8.out (listed_old h (by decide)); exact ⟨n, a, k, c, n2, a2, k2, c2, e, hz⟩
     ·exact fun h => by obtain ⟨n, a, k, c, n2, a2, k2, c2, e, hz⟩ := F9.out (listed_old h (by decide)); exact ⟨n, a, k, c, n2, a2, k2, c2, e, hz⟩
     ·exact fun h => by obtain ⟨n, a, k, c, e, hz⟩ := F10.out (listed_old h (by decide)); exact ⟨n, a, k, c, e, hz⟩
     ·exact fun h => F11.out (listed_old h (by decide))
     ·exact fun _ => rfl
     ·exact fun h => F13.out (listed_old h (by decide))
     ·exact fun h => F14.out (listed_old h (by decide))
     ·exact fun h => F15.out (listed_old h (by decide))
     ·exact fun h => F16.out (listed_old h (by decide))
     ·exact fun h => F17.out (listed_old h (by decide))
     ·exact fun h h' => FD.out (listed_old h (by decide)) (listed_old h' (by decide))
     ·exact fun h => ⟨listed_new (FC15.out (listed_old h (by decide))).1 (by decide), listed_new (FC15.out (listed_old h (by decide))).2 (by decide)⟩
     ·exact fun h => ⟨listed_new (FC16.out (listed_old h (by decide))).1 (by decide), listed_new (FC16.out (listed_old h (by decide))).2 (by decide)⟩
    rcases i with _ | i
    ·simp only [List.getElem?_toArray, List.getElem?_cons_zero, List.getElem?_cons_succ, Option.some.injEq] at ho
     subst ho
     clear ha
     have hnl13 := hid (show l.getD 13 false = false from not_listed hu)
     refine wpOp_step rfl (fun K' hK => ?_)
     replace hK := hid hK
     go_simp
     replace hK := hK.out
     have hb := allocs_below1 w' (.cells #[.bool false, .slice none 0 0] 25)
     refine hK _ _ ⟨u0, u1, u2, u3, u4, u5, u6, u7, u8, u9, u10, u11, u12, .pointer (some ⟨w'.heap.size, 0, none⟩), u14, u17, by rw [Array.size_setIfInBounds]; exact HS.out, by simp only [List.setIfInBounds_toArray, List.set_cons_zero, List.set_cons_succ], HBW.out.alloc HBW.out.size _, ?_, ?_, ?_, ?_, ?_, ?_, ?_, ?_, ?_, ?_, ?_, ?_, ?_, ?_, ?_, ?_, ?_, ?_, ?_, ?_, ?_⟩
     ·exact fun h => F0.out (listed_old h (by decide))
     ·exact fun h => F1.out (listed_old h (by decide))
     ·exact fun h => by obtain ⟨n, a, k, c, e, hz⟩ := F2.out (listed_old h (by decide)); exact ⟨n, a, k, c, e, (hz.below hb)⟩
     ·exact fun h => F3.out (listed_old h (by decide))
     ·exact fun h => by obtain ⟨n, a, k, c, e, hz⟩ := F4.out (listed_old h (by decide)); exact ⟨n, a, k, c, e, (hz.below hb)⟩
     ·exact fun h => F5.out (listed_old h (by decide))
     ·exact fun h => F6.out (listed_old h (by decide))
     ·exact fun h => by obtain ⟨n, a, k, c, e, hz⟩ := F7.out (listed_old h (by decide)); exact ⟨n, a, k, c, e, (hz.below hb)⟩
     ·exact fun h => by obtain ⟨n, a, k, c, n2, a2, k2, c2, e, hz⟩ := F8.out (listed_old h (by decide)); exact ⟨n, a, k, c, n2, a2, k2, c2, e, (hz.below hb)⟩
     ·exact fun h => by obtain ⟨n, a, k, c, n2, a2, k2, c2, e, hz⟩ := F9.out (listed_old h (by decide)); exact ⟨n, a, k, c, n2, a2, k2, c2, e, (hz.below hb)⟩
     ·exact fun h => by obtain ⟨n, a, k, c, e, hz⟩ := F10.out (listed_old h (by decide)); exact ⟨n, a, k, c, e, (hz.below hb)⟩
     ·exact fun h => F11.out (listed_old h (by decide))
     ·exact fun h => F12.out (listed_old h (by decide))
     ·exact fun _ => ⟨w'.heap.size, false, none, 0, 0, rfl, HBW.out.size, heap_alloc_new w' _⟩
     ·exact fun h => by obtain ⟨g, n, a, k, c, e, hg, hh⟩ := F14.out (listed_old h (by decide)); exact ⟨g, n, a, k, c, e, hg, blk_next hh hb⟩
     ·exact fun h => absurd (FC15.out (listed_old h (by decide))).1 (by rw [hnl13.out]; decide)
     ·exact fun h => F16.out (listed_old h (by decide))
     ·exact fun h => F17.out (listed_old h (by decide))
     ·intro h h'; obtain ⟨g, n, a, k, c, e, hg, hh⟩ := F14.out (listed_old h' (by decide)); have := (Array.getElem?_eq_some_iff.1 hh).1; exact ⟨_, _, rfl, e, by omega⟩
     ·exact fun h => absurd (FC15.out (listed_old h (by decide))).1 (by rw [hnl13.out]; decide)
     ·exact fun h => absurd (FC16.out (listed_old h (by decide))).1 (by rw [hnl13.out]; decide)
    rcases i with _ | i
    ·simp only [List.getElem?_toArray, List.getElem?_cons_zero, List.getElem?_cons_succ, Option.some.injEq] at ho
     subst ho
     clear ha
     have hnl14 := hid (show l.getD 14 false = false from not_listed hu)
     refine wpOp_step rfl (fun K' hK => ?_)
     replace hK := hid hK
     go_simp
     replace hK := hK.out
     have hb := allocs_below1 w' (.cells #[.bool false, .slice none 0 0] 25)
     refine hK _ _ ⟨u0, u1, u2, u3, u4, u5, u6, u7, u8, u9, u10, u11, u12, u13, .pointer (some ⟨w'.heap.size, 0, none⟩), u17, by rw [Array.size_setIfInBounds]; exact HS.out, by simp only [List.setIfInBounds_toArray, List.set_cons_zero, List.set_cons_succ], HBW.out.alloc HBW.out.size _, ?_, ?_, ?_, ?_, ?_, ?_, ?_, ?_, ?_, ?_, ?_, ?_, ?_, ?_, ?_, ?_, ?_, ?_, ?_, ?_, ?_⟩
     ·exact fun h => F0.out (listed_old h (by decide))
     ·exact fun h => F1.out (listed_old h (by decide))
     ·exact fun h => by obtain ⟨n, a, k, c, e, hz⟩ := F2.out (listed_old h (by decide)); exact ⟨n, a, k, c, e, (hz.below hb)⟩
     ·exact fun h => F3.out (listed_old h (by decide))
     ·exact fun h => by obtain ⟨n, a, k, c, e, hz⟩ := F4.out (listed_old h (by decide)); exact ⟨n, a, k, c, e, (hz.below hb)⟩
     ·exact fun h => F5.out (listed_old h (by decide))
     ·exact fun h => F6.out (listed_old h (by decide))
     ·exact fun h => by obtain ⟨n, a, k, c, e, hz⟩ := F7.out (listed_old h (by decide)); exact ⟨n, a, k, c, e, (hz.below hb)⟩
     ·exact fun h => by obtain ⟨n, a, k, c, n2, a2, k2, c2, e, hz⟩ := F8.out (listed_old h (by decide)); exact ⟨n, a, k, c, n2, a2, k2, c2, e, (hz.below hb)⟩
     ·exact fun h => by obtain ⟨n, a, k, c, n2, a2, k2, c2, e, hz⟩ := F9.out (listed_old h (by decide)); exact ⟨n, a, k, c, n2, a2, k2, c2, e, (hz.below hb)⟩
     ·exact fun h => by obtain ⟨n, a, k, c, e, hz⟩ := F10.out (listed_old h (by decide)); exact ⟨n, a, k, c, e, (hz.below hb)⟩
     ·exact fun h => F11.out (listed_old h (by decide))
     ·exact fun h => F12.out (listed_old h (by decide))
     ·exact fun h => by obtain ⟨g, n, a, k, c, e, hg, hh⟩ := F13.out (listed_old h (by decide)); exact ⟨g, n, a, k, c, e, hg, blk_next hh hb⟩
     ·exact fun _ => ⟨w'.heap.size, false, none, 0, 0, rfl, HBW.out.size, heap_alloc_new w' _⟩
     ·exact fun h => absurd (FC15.out (listed_old h (by decide))).2 (by rw [hnl14.out]; decide)
     ·exact fun h => F16.out (listed_old h (by decide))
     ·exact fun h => F17.out (listed_old h (by decide))
     ·intro h h'; obtain ⟨g, n, a, k, c, e, hg, hh⟩ := F13.out (listed_old h (by decide)); have := (Array.getElem?_eq_some_iff.1 hh).1; exact ⟨_, _, e, rfl, by omega⟩
     ·exact fun h => absurd (FC15.out (listed_old h (by decide))).2 (by rw [hnl14.out]; decide)
     ·exact fun h => absurd (FC16.out (listed_old h (by decide))).2 (by rw [hnl14.out]; decide)
    rcases i with _ | i
    ·simp only [List.getElem?_toArray, List.getElem?_cons_zero, List.getElem?_cons_succ, Option.some.injEq] at ho
     subst ho
     have q13 : l.getD 13 false = true := ha ⟨13, .data⟩ (by simp) rfl
     have q10 : l.getD 10 false = true := ha ⟨10, .data⟩ (by simp) rfl
     have q14 : l.getD 14 false = true := ha ⟨14, .phase⟩ (by simp) rfl
     clear ha
     obtain ⟨nx, ax, kx, cx, rfl, hzx⟩ := F10.out q10
     have HZX := hid hzx
     clear hzx
     obtain ⟨gs, gs', es, es', hne⟩ := FD.out q13 q14
     obtain ⟨g, n, a, k, c, e, hg, hh⟩ := F13.out q13
     obtain ⟨g2, n2, a2, k2, c2, e2, hg2, hh2⟩ := F14.out q14
     subst e e2
     have hgg : g ≠ g2 := by have x1 := ptr_inj es; have x2 := ptr_inj es'; omega
     have HH := hid hh
     have HH2 := hid hh2
     have HGG := hid hgg
     have HG := hid hg
     have HG2 := hid hg2
     clear hh2 hgg es es' hne hg2
     obtain ⟨d0, d1, z0, z1⟩ := res_facts hh
     clear hh
     refine wpOp_step rfl (fun K' hK => ?_)
     replace hK := hid hK
     go_simp
     replace hK := hK.out
     have hst : Stay g (g + 1) w' ((w'.setCell ⟨g, 0, none⟩ (.bool nx)).setCell ⟨g, 1, none⟩ (.slice ax kx cx)) := set2_stay
     have hni := noInt_one (noInt2 HH.out)
     have hn1 := res_set (x' := .bool nx) (y' := .slice ax kx cx) HH.out
     have hn2 := (hst.block g2 (Array.getElem?_eq_some_iff.1 HH2.out).1 (by have := HGG.out; omega)).trans HH2.out
     refine hK _ _ ⟨u0, u1, u2, u3, u4, u5, u6, u7, u8, u9, .agg #[.bool nx, .slice ax kx cx], u11, u12, .pointer (some ⟨g, 0, none⟩), .pointer (some ⟨g2, 0, none⟩), u17, by rw [Array.size_setIfInBounds]; exact HS.out, by simp only [List.setIfInBounds_toArray, List.set_cons_zero, List.set_cons_succ], HBW.out.trans (hst.below HG.out HBW.out.size), ?_, ?_, ?_, ?_, ?_, ?_, ?_, ?_, ?_, ?_, ?_, ?_, ?_, ?_, ?_, ?_, ?_, ?_, ?_, ?_, ?_⟩
     ·exact fun h => F0.out (listed_old h (by decide))
     ·exact fun h => F1.out (listed_old h (by decide))
     ·exact fun h => by obtain ⟨n, a, k, c, e, hz⟩ := F2.out (listed_old h (by decide)); exact ⟨n, a, k, c, e, (hz.stay hst hni)⟩
     ·exact fun h => F3.out (listed_old h (by decide))
     ·exact fun h => by obtain ⟨n, a, k, c, e, hz⟩ := F4.out (listed_old h (by decide)); exact ⟨n, a, k, c, e, (hz.stay hst hni)⟩
     ·exact fun h => F5.out (listed_old h (by decide))
     ·exact fun h => F6.out (listed_old h (by decide))
     ·exact fun h => by obtain ⟨n, a, k, c, e, hz⟩ := F7.out (listed_old h (by decide)); exact ⟨n, a, k, c, e, (hz.stay hst hni)⟩
     ·exact fun h => by obtain ⟨n, a, k, c, n2, a2, k2, c2, e, hz⟩ := F8.out (listed_old h (by decide)); exact ⟨n, a, k, c, n2, a2, k2, c2, e, (hz.stay hst hni)⟩
     ·exact fun h => by obtain ⟨n, a, k, c, n2, a2, k2, c2, e, hz⟩ := F9.out (listed_old h (by decide)); exact ⟨n, a, k, c, n2, a2, k2, c2, e, (hz.stay hst hni)⟩
     ·exact fun h => by obtain ⟨n, a, k, c, e, hz⟩ := F10.out (listed_old h (by decide)); exact ⟨n, a, k, c, e, (hz.stay hst hni)⟩
     ·exact fun h => F11.out (listed_old h (by decide))
     ·exact fun h => F12.out (listed_old h (by decide))
     ·exact fun _ => ⟨g, _, _, _, _, rfl, HG.out, hn1⟩
     ·exact fun _ => ⟨g2, _, _, _, _, rfl, HG2.out, hn2⟩
     ·exact fun _ => ⟨g, nx, ax, kx, cx, rfl, hn1, HZX.out.stay hst hni⟩
     ·exact fun h => F16.out (listed_old h (by decide))
     ·exact fun h => F17.out (listed_old h (by decide))
     ·exact fun h h' => FD.out (listed_old h (by decide)) (listed_old h' (by decide))
     ·exact fun _ => ⟨listed_new q13 (by decide), listed_new q14 (by decide)⟩
     ·exact fun h => ⟨listed_new (FC16.out (listed_old h (by decide))).1 (by decide), listed_new (FC16.out (listed_old h (by decide))).2 (by decide)⟩
    rcases i with _ | i
    ·simp only [List.getElem?_toArray, List.getElem?_cons_zero, List.getElem?_cons_succ, Option.some.injEq] at ho
     subst ho
     have q14 : l.getD 14 false = true := ha ⟨14, .data⟩ (by simp) rfl
     have q11 : l.getD 11 false = true := ha ⟨11, .data⟩ (by simp) rfl
     have q13 : l.getD 13 false = true := ha ⟨13, .phase⟩ (by simp) rfl
     clear ha
     obtain ⟨nx, ax, kx, cx, rfl⟩ := F11.out q11
     obtain ⟨gs, gs', es, es', hne⟩ := FD.out q13 q14
     obtain ⟨g, n, a, k, c, e, hg, hh⟩ := F14.out q14
     obtain ⟨g2, n2, a2, k2, c2, e2, hg2, hh2⟩ := F13.out q13
     subst e e2
     have hgg : g ≠ g2 := by have x1 := ptr_inj es; have x2 := ptr_inj es'; omega
     have HH := hid hh
     have HH2 := hid hh2
     have HGG := hid hgg
     have HG := hid hg
     have HG2 := hid hg2
     clear hh2 hgg es es' hne hg2
     obtain ⟨d0, d1, z0, z1⟩ := res_facts hh
     clear hh
     refine wpOp_step rfl (fun K' hK => ?_)
     replace hK := hid hK
     go_simp
     replace hK := hK.out
     have hst : Stay g (g + 1) w' ((w'.setCell ⟨g, 0, none⟩ (.bool nx)).setCell ⟨g, 1, none⟩ (.slice ax kx cx)) := set2_stay
     have hni := noInt_one (noInt2 HH.out)
     have hn1 := res_set (x' := .bool nx) (y' := .slice ax kx cx) HH.out
     have hn2 := (hst.block g2 (Array.getElem?_eq_some_iff.1 HH2.out).1 (by have := HGG.out; omega)).trans HH2.out
     refine hK _ _ ⟨u0, u1, u2, u3, u4, u5, u6, u7, u8, u9, u10, .agg #[.bool nx, .slice ax kx cx], u12, .pointer (some ⟨g2, 0, none⟩), .pointer (some ⟨g, 0, none⟩), u17, by rw [Array.size_setIfInBounds]; exact HS.out, by simp only [List.setIfInBounds_toArray, List.set_cons_zero, List.set_cons_succ], HBW.out.trans (hst.below HG.out HBW.out.size), ?_, ?_, ?_, ?_, ?_, ?_, ?_, ?_, ?_, ?_, ?_, ?_, ?_, ?_, ?_, ?_, ?_, ?_, ?_, ?_, ?_⟩
     ·exact fun h => F0.out (listed_old h (by decide))
     ·exact fun h => F1.out (listed_old h (by decide))
     ·exact fun h => by obtain ⟨n, a, k, c, e, hz⟩ := F2.out (listed_old h (by decide)); exact ⟨n, a, k, c, e, (hz.stay hst hni)⟩
     ·exact fun h => F3.out (listed_old h (by decide))
     ·exact fun h => by obtain ⟨n, a, k, c, e, hz⟩ := F4.out (listed_old h (by decide)); exact ⟨n, a, k, c, e, (hz.stay hst hni)⟩
     ·exact fun h => F5.out (listed_old h (by decide))
     ·exact fun h => F6.out (listed_old h (by decide))
     ·exact fun h => by obtain ⟨n, a, k, c, e, hz⟩ := F7.out (listed_old h (by decide)); exact ⟨n, a, k, c, e, (hz.stay hst hni)⟩
     ·exact fun h => by obtain ⟨n, a, k, c, n2, a2, k2, c2, e, hz⟩ := F8.out (listed_old h (by decide)); exact ⟨n, a, k, c, n2, a2, k2, c2, e, (hz.stay hst hni)⟩
     ·exact fun h => by obtain ⟨n, a, k, c, n2, a2, k2, c2, e, hz⟩ := F9.out (listed_old h (by decide)); exact ⟨n, a, k, c, n2, a2, k2, c2, e, (hz.stay hst hni)⟩
     ·exact fun h => by obtain ⟨n, a, k, c, e, hz⟩ := F10.out (listed_old h (by decide)); exact ⟨n, a, k, c, e, (hz.stay hst hni)⟩
     ·exact fun h => F11.out (listed_old h (by decide))
     ·exact fun h => F12.out (listed_old h (by decide))
     ·exact fun _ => ⟨g2, _, _, _, _, rfl, HG2.out, hn2⟩
     ·exact fun _ => ⟨g, _, _, _, _, rfl, HG.out, hn1⟩
     ·intro h; obtain ⟨g3, n3, a3, k3, c3, e3, h3, z3⟩ := F15.out (listed_old h (by decide)); have e4 := ptr_inj e3; subst e4; exact ⟨_, n3, a3, k3, c3, rfl, (hst.block _ (Array.getElem?_eq_some_iff.1 h3).1 (by have := HGG.out; omega)).trans h3, z3.stay hst hni⟩
     ·exact fun _ => trivial
     ·exact fun h => F17.out (listed_old h (by decide))
     ·exact fun h h' => FD.out (listed_old h (by decide)) (listed_old h' (by decide))
     ·exact fun h => ⟨listed_new (FC15.out (listed_old h (by decide))).1 (by decide), listed_new (FC15.out (listed_old h (by decide))).2 (by decide)⟩
     ·exact fun _ => ⟨listed_new q13 (by decide), listed_new q14 (by decide)⟩
    rcases i with _ | i
    ·simp only [List.getElem?_toArray, List.getElem?_cons_zero, List.getElem?_cons_succ, Option.some.injEq] at ho
     subst ho
     have q12 : l.getD 12 false = true := ha ⟨12, .data⟩ (by simp) rfl
     clear ha
     obtain rfl := F12.out q12
     refine wpOp_step rfl (fun K' hK => ?_)
     replace hK := hid hK
     go_simp
     replace hK := hK.out
     refine hK _ _ ⟨u0, u1, u2, u3, u4, u5, u6, u7, u8, u9, u10, u11, .int .i64 0, u13, u14, .int .i64 0, by rw [Array.size_setIfInBounds]; exact HS.out, by simp only [List.setIfInBounds_toArray, List.set_cons_zero, List.set_cons_succ], HBW.out, ?_, ?_, ?_, ?_, ?_, ?_, ?_, ?_, ?_, ?_, ?_, ?_, ?_, ?_, ?_, ?_, ?_, ?_, ?_, ?_, ?_⟩
     ·exact fun h => F0.out (listed_old h (by decide))
     ·exact fun h => F1.out (listed_old h (by decide))
     ·exact fun h => by obtain ⟨n, a, k, c, e, hz⟩ := F2.out (listed_old h (by decide)); exact ⟨n, a, k, c, e, hz⟩
     ·exact fun h => F3.out (listed_old h (by decide))
     ·exact fun h => by obtain ⟨n, a, k, c, e, hz⟩ := F4.out (listed_old h (by decide)); exact ⟨n, a, k, c, e, hz⟩
     ·exact fun h => F5.out (listed_old h (by decide))
     ·exact fun h => F6.out (listed_old h (by decide))
     ·exact fun h => by obtain ⟨n, a, k, c, e, hz⟩ := F7.out (listed_old h (by decide)); exact ⟨n, a, k, c, e, hz⟩
     ·exact fun h => by obtain ⟨n, a, k, c, n2, a2, k2, c2, e, hz⟩ := F8.out (listed_old h (by decide)); exact ⟨n, a, k, c, n2, a2, k2, c2, e, hz⟩
     ·exact fun h => by obtain ⟨n, a, k, c, n2, a2, k2, c2, e, hz⟩ := F9.out (listed_old h (by decide)); exact ⟨n, a, k, c, n2, a2, k2, c2, e, hz⟩
     ·exact fun h => by obtain ⟨n, a, k, c, e, hz⟩ := F10.out (listed_old h (by decide)); exact ⟨n, a, k, c, e, hz⟩
     ·exact fun h => F11.out (listed_old h (by decide))
     ·exact fun h => F12.out (listed_old h (by decide))
     ·exact fun h => F13.out (listed_old h (by decide))
     ·exact fun h => F14.out (listed_old h (by decide))
     ·exact fun h => F15.out (listed_old h (by decide))
     ·exact fun h => F16.out (listed_old h (by decide))
     ·exact fun _ => rfl
     ·exact fun h h' => FD.out (listed_old h (by decide)) (listed_old h' (by decide))
     ·exact fun h => ⟨listed_new (FC15.out (listed_old h (by decide))).1 (by decide), listed_new (FC15.out (listed_old h (by decide))).2 (by decide)⟩
     ·exact fun h => ⟨listed_new (FC16.out (listed_old h (by decide))).1 (by decide), listed_new (FC16.out (listed_old h (by decide))).2 (by decide)⟩
    omega
   ·rintro l a' w' ⟨u0, u1, u2, u3, u4, u5, u6, u7, u8, u9, u10, u11, u12, u13, u14, u17, _, rfl, hB, _, _, _, _, _, _, _, _, _, _, _, _, _, f13, f14, f15, _, f17, _, _, _⟩ hall
    obtain ⟨g, n, a, k, c, e1, hh, hz⟩ := f15 (hall 15 (by decide))
    subst e1
    obtain ⟨d0, d1, _, _⟩ := res_facts hh
    simp only [List.setIfInBounds_toArray, List.set_cons_zero, List.set_cons_succ]
    simp only [Exit.then]
    go_wp2_with fail
    go_meet
    exact ⟨g, n, a, k, c, rfl, d0, d1, hz, hB⟩
  case rest =>
   obtain ⟨g, n, a, k, c, rfl, q0, q1, hz, hbc⟩ := hcut
   have HZQ := hid hz
   have BR3 := hid (blk_next BR.out hbc)
   replace HB := hid (bt HB.out hbc)
   clear hz hbc
   obtain ⟨d0, d1, e0, e1⟩ := res_facts BR3.out
   go_wp2
   try simp only [Exit.inBlock, Exit.then]
   refine bodyPost_ret (results_cell_row rfl _ _ (w.heap.size + 1) 25 _ (0, 0) _ rfl (res_set BR3.out) Tryz.underlying25 rfl (by kernel_rfl)) rfl ?_
   exact ⟨_, _, _, _, rfl, ((HZQ.out.stay set2_stay (noInt_one (noInt2 BR3.out))).as HE.out), (fin2 HB.out (by omega))⟩
end Go.Proofs.YtikpafocankggaaGreatDoor
