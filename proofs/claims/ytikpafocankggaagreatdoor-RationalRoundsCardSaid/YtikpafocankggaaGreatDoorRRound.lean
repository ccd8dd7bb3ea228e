/- The reference's Abs, Int, Amount, Round. -/
import Derived.Test.YtikpafocankggaaGreatDoorRRatC
import Derived.Test.YtikpafocankggaaGreatDoorInv
import Derived.Test.YtikpafocankggaaGreatDoorScale
import Derived.Deep.DeepCutAuto
namespace Go.Proofs.YtikpafocankggaaGreatDoor
open Go.RowKit Tally Go.Lib
set_option maxHeartbeats 1000000 in
theorem rabs_any {w : World} {v : Value} {x : Int} (h : RefR w v x) : Calls Tryz.prog 84 #[v] w (rGivesZ w (x.natAbs : Int)) := by
 obtain ⟨n1, s1, l1, rfl, lr1, c1, g1, z1, a1⟩ := h.parts
 have LA : Lim 10000 l1 := c1.1
 have FIN := hid (show (if false = true then -(val 10000 l1 : Int) else val 10000 l1) = (x.natAbs : Int) by rw [if_neg (by decide), a1])
 clear h z1 g1 a1
 have BF := hid (box1_facts w n1 s1 30)
 go_enter Tryz.func84, Tryz.ntmps84
 go_wp2_with fail
 revert BF
 generalize ((w.alloc (.cells #[.bool n1, s1] 30)).alloc (.cells #[.bool false, .slice none 0 0] 30)) = W
 intro BF
 have HQ := hid BF.out.1
 have HG := hid BF.out.2.2.2
 obtain ⟨q1, q2⟩ := And.intro BF.out.2.1 BF.out.2.2.1
 refine (rsigned_gives (neg := false) (lr1.below HQ.out) LA).mono ?_
 rintro e w2 ⟨n4, a4, k4, c4, rfl, hu4, hb4⟩
 have HU4 := hid hu4
 have HR4 := hid (blk_next HG.out hb4)
 clear hu4 q1 q2
 obtain ⟨d0, d1, e0, e1⟩ := res_facts HR4.out
 go_wp2
 try simp only [Exit.inBlock, Exit.then]
 refine bodyPost_ret (results_cell_row rfl _ _ (w.heap.size + 1) 30 _ (0, 0) _ rfl (res_set HR4.out) Tryz.underlying30 rfl (by kernel_rfl)) rfl ?_
 have fit := HU4.out
 rw [FIN.out] at fit
 exact ⟨n4, a4, k4, c4, rfl, fit.set2 HR4.out, held_set2 (bt HQ.out hb4) (by omega)⟩
set_option maxHeartbeats 2000000 in
set_option maxRecDepth 100000 in
theorem rint_any {w : World} {n : Int} (h1 : -9223372036854775808 ≤ n) (h2 : n ≤ 9223372036854775807) :
  Calls Tryz.prog 52 #[.int .i64 n] w (rGivesP w (n : Rat)) := by
 have HDI := hid (divInt_one n)
 have d1 := dg_int h1 h2
 have d2 : Dg 19 (1 : Int) := by unfold Dg; decide
 have HN0 := hid (show (1 : Int) ≠ 0 by decide)
 go_enter Tryz.func52, Tryz.ntmps52
 go_wp2_with fail
 obtain ⟨W1, hW, hs, hb, b0⟩ := alloc1 w (.cells #[.bool false, .slice none 0 0, .bool false, .slice none 0 0] 32)
 rw [← hW]
 have HB := hid hb
 have BR := hid b0
 clear hW hs hb b0
 (with_reducible refine (rof_any h1 h2).mono ?_)
 rintro e w2 ⟨n_2, a_2, k_2, c_2, rfl, hu_2, hb⟩
 replace HB := hid (bt HB.out hb)
 replace BR := hid (blk_next BR.out hb)
 have HA := hid hu_2
 clear hu_2
 clear hb
 go_wp2_with fail
 (with_reducible refine (rof_any (n := 1) (by decide) (by decide)).mono ?_)
 rintro e w3 ⟨n_3, a_3, k_3, c_3, rfl, hu_3, hb⟩
 replace HB := hid (bt HB.out hb)
 replace HA := hid (HA.out.below hb)
 replace BR := hid (blk_next BR.out hb)
 have HB1 := hid hu_3
 clear hu_3
 clear hb
 go_wp2_with fail
 (with_reducible refine (rreduced_any HA.out HB1.out HN0.out d1 d2 (by omega)).mono ?_)
 rintro e w4 ⟨n_4, a_4, k_4, c_4, n2_4, a2_4, k2_4, c2_4, rfl, hu_4, hv_4, hb⟩
 replace HB := hid (bt HB.out hb)
 replace HA := hid (HA.out.below hb)
 replace HB1 := hid (HB1.out.below hb)
 replace BR := hid (blk_next BR.out hb)
 have HC := hid hu_4
 have HE := hid hv_4
 clear hu_4 hv_4
 clear hb
 have lt1_R : w.heap.size < w4.heap.size := (Array.getElem?_eq_some_iff.1 BR.out).1
 obtain ⟨⟨cR0, cR1, cR2, cR3⟩, fR0, fR1, fR2, fR3⟩ := res4_facts BR.out
 go_wp2
 try simp only [Exit.inBlock, Exit.then]
 refine bodyPost_ret (results_cell_row rfl _ _ (w.heap.size) 32 _ (0, 0) _ rfl (res4_set BR.out) Tryz.underlying32 rfl (by kernel_rfl)) rfl ?_
 exact ⟨_, _, _, _, _, _, _, _, rfl, ((HC.out.stay set4_stay (noInt_one (noInt4 BR.out))).as (by rw [HDI.out])), ((HE.out.stay set4_stay (noInt_one (noInt4 BR.out))).as (by rw [HDI.out])), (fin4 HB.out (by omega))⟩
theorem ramount_any {w : World} {n : Int} :
  Calls Tryz.prog 16 #[.int .i64 n] w fun e w' => e = .returned (.bool (decide (-1000000000000 ≤ n ∧ n ≤ 1000000000000))) ∧ w' = w := by
 by_cases ha : -1000000000000 ≤ n
 ·by_cases hb : n ≤ 1000000000000
  ·rw [decide_eq_true ⟨ha, hb⟩]
   go_enter Tryz.func16, Tryz.ntmps16
   go_wp2
   go_ret
   exact ⟨rfl, rfl⟩
  ·rw [decide_eq_false (fun q => hb q.2)]
   go_enter Tryz.func16, Tryz.ntmps16
   go_wp2
   go_ret
   exact ⟨rfl, rfl⟩
 ·rw [decide_eq_false (fun q => ha q.1)]
  go_enter Tryz.func16, Tryz.ntmps16
  go_wp2
  go_ret
  exact ⟨rfl, rfl⟩
set_option maxHeartbeats 2000000 in
set_option maxRecDepth 100000 in
theorem rratround_any {w : World} {v : Value} {q : Rat} {N : Nat} (h : RRatR w v q) (hq : Rg N q) (hN : N + 5 ≤ 999999999990) :
  Calls Tryz.prog 47 #[v] w (rGivesZ w (roundQ q)) := by
 obtain ⟨n1, a1, k1, c1, n2, a2, k2, c2, rfl⟩ := h.shape
 have hq1 := hq.1
 have hq2 := hq.2
 have hqa : Dg N (q.num.natAbs : Int) := hq1.le (by simp)
 have t1 : Dg 1 (2 : Int) := by unfold Dg; decide
 have hq4 := hqa.mono (show N ≤ N + 1 by omega)
 have hq5 := hq2.mono (show N ≤ N + 1 by omega)
 have t2 := t1.mono (show 1 ≤ N + 1 by omega)
 have d1 : Dg (N + 2) ((2 : Int) * (q.num.natAbs : Int)) := (Dg.mul t1 hqa).mono (by omega)
 have d2 : Dg (N + 2) (q.den : Int) := hq2.mono (by omega)
 have d4 := d1.add d2
 have HZ := hid (show (2 : Int) * q.den ≠ 0 from Int.mul_ne_zero (by decide) (by have := q.den_nz; omega))
 have HRE := hid (rround_eq q)
 have HQ := hid h
 clear h
 go_enter Tryz.func47, Tryz.ntmps47
 go_wp2_with fail
 obtain ⟨W1, hW, hs, hb, b0, b1⟩ := alloc2 w (.cells #[.bool n1, .slice a1 k1 c1, .bool n2, .slice a2 k2 c2] 32) (.cells #[.bool false, .slice none 0 0] 30)
 rw [← hW]
 have HB := hid hb
 replace HQ := hid (HQ.out.below hb)
 have BP := hid b0
 have BR := hid b1
 clear hW hs hb b0 b1
 (with_reducible refine (rparts_any HQ.out).mono ?_)
 rintro e w2 ⟨n_2, a_2, k_2, c_2, n2_2, a2_2, k2_2, c2_2, rfl, hu_2, hv_2, hb⟩
 replace HB := hid (bt HB.out hb)
 replace HQ := hid (HQ.out.below hb)
 replace BP := hid (blk_next BP.out hb)
 replace BR := hid (blk_next BR.out hb)
 have HA := hid hu_2
 have HD := hid hv_2
 clear hu_2 hv_2
 clear hb
 have lt1_P : w.heap.size < w2.heap.size := (Array.getElem?_eq_some_iff.1 BP.out).1
 have lt2_R : w.heap.size + 1 < w2.heap.size := (Array.getElem?_eq_some_iff.1 BR.out).1
 obtain ⟨⟨cP0, cP1, cP2, cP3⟩, fP0, fP1, fP2, fP3⟩ := res4_facts BP.out
 go_wp2_with fail
 clear cP0 cP1 cP2 cP3 fP0 fP1 fP2 fP3
 obtain ⟨W3, hW, hs, hb, b0, b1⟩ := alloc2 w2 (.cells #[.bool n_2, .slice a_2 k_2 c_2] 30) (.cells #[.bool n2_2, .slice a2_2 k2_2 c2_2] 30)
 rw [← hW]
 replace HB := hid (bt HB.out hb)
 replace HA := hid (HA.out.below hb)
 replace HD := hid (HD.out.below hb)
 replace BP := hid (blk_next BP.out hb)
 replace BR := hid (blk_next BR.out hb)
 have Ba := hid b0
 have Bd := hid b1
 clear hW hs hb b0 b1
 (with_reducible refine (rof_any (n := 2) (by decide) (by decide)).mono ?_)
 rintro e w4 ⟨n_4, a_4, k_4, c_4, rfl, hu_4, hb⟩
 replace HB := hid (bt HB.out hb)
 replace HA := hid (HA.out.below hb)
 replace HD := hid (HD.out.below hb)
 replace BP := hid (blk_next BP.out hb)
 replace BR := hid (blk_next BR.out hb)
 replace Ba := hid (blk_next Ba.out hb)
 replace Bd := hid (blk_next Bd.out hb)
 have HTWO := hid hu_4
 clear hu_4
 clear hb
 have lt3_P : w.heap.size < w4.heap.size := (Array.getElem?_eq_some_iff.1 BP.out).1
 have lt4_R : w.heap.size + 1 < w4.heap.size := (Array.getElem?_eq_some_iff.1 BR.out).1
 have lt5_a : w2.heap.size < w4.heap.size := (Array.getElem?_eq_some_iff.1 Ba.out).1
 have lt6_d : w2.heap.size + 1 < w4.heap.size := (Array.getElem?_eq_some_iff.1 Bd.out).1
 obtain ⟨ca0, ca1, fa0, fa1⟩ := res_facts Ba.out
 obtain ⟨cd0, cd1, fd0, fd1⟩ := res_facts Bd.out
 go_wp2_with fail
 clear ca0 ca1 fa0 fa1 cd0 cd1 fd0 fd1
 obtain ⟨W5, hW, hs, hb, b0⟩ := alloc1 w4 (.cells #[.bool n_4, .slice a_4 k_4 c_4] 30)
 rw [← hW]
 replace HB := hid (bt HB.out hb)
 replace HA := hid (HA.out.below hb)
 replace HD := hid (HD.out.below hb)
 replace HTWO := hid (HTWO.out.below hb)
 replace BP := hid (blk_next BP.out hb)
 replace BR := hid (blk_next BR.out hb)
 replace Ba := hid (blk_next Ba.out hb)
 replace Bd := hid (blk_next Bd.out hb)
 have Btwo := hid b0
 clear hW hs hb b0
 go_upto_region 5 with fail
 go_cut [6, 7, 8] (fun s6 s7 s8 wx => ∃ (g : Nat) (n : Bool) (a : Option Addr) (k c : Nat), s6 = .pointer (some ⟨g, 0, none⟩) ∧ wx.cell? ⟨g, 0, none⟩ = some (.bool n) ∧ wx.cell? ⟨g, 1, none⟩ = some (.slice a k c) ∧ RefR wx (.agg #[.bool n, .slice a k c]) (((2 : Int) * (q.num.natAbs : Int) + (q.den : Int)).tdiv ((2 : Int) * (q.den : Int))) ∧ Below W5.heap.size W5 wx)
 case first =>
  have lt7_P : w.heap.size < W5.heap.size := (Array.getElem?_eq_some_iff.1 BP.out).1
  have lt8_R : w.heap.size + 1 < W5.heap.size := (Array.getElem?_eq_some_iff.1 BR.out).1
  have lt9_a : w2.heap.size < W5.heap.size := (Array.getElem?_eq_some_iff.1 Ba.out).1
  have lt10_d : w2.heap.size + 1 < W5.heap.size := (Array.getElem?_eq_some_iff.1 Bd.out).1
  have lt11_two : w4.heap.size < W5.heap.size := (Array.getElem?_eq_some_iff.1 Btwo.out).1
  obtain ⟨ctwo0, ctwo1, ftwo0, ftwo1⟩ := res_facts Btwo.out
  obtain ⟨ca0, ca1, fa0, fa1⟩ := res_facts Ba.out
  obtain ⟨cd0, cd1, fd0, fd1⟩ := res_facts Bd.out
  have HCtwo0 := hid ctwo0
  have HCtwo1 := hid ctwo1
  have HCa0 := hid ca0
  have HCa1 := hid ca1
  have HCd0 := hid cd0
  have HCd1 := hid cd1
  clear ctwo0 ctwo1 ftwo0 ftwo1 ca0 ca1 fa0 fa1 cd0 cd1 fd0 fd1
  refine wp_region_inv (by kernel_rfl) (fun b l a w' => ∃ u0 u1 u2 u3 u4 u5 u6 u7 u8 u9 u10 u11 u12 u13 u14 u15 u18 : Value, l.size = 19 ∧ a = (⟨(((((((((((((((((b.tmps.setIfInBounds 16 u0).setIfInBounds 17 u1).setIfInBounds 18 u2).setIfInBounds 19 u3).setIfInBounds 20 u4).setIfInBounds 21 u5).setIfInBounds 22 u6).setIfInBounds 23 u7).setIfInBounds 24 u8).setIfInBounds 25 u9).setIfInBounds 15 u10).setIfInBounds 26 u11).setIfInBounds 27 u12).setIfInBounds 28 u13).setIfInBounds 6 u14).setIfInBounds 7 u15).setIfInBounds 8 u18), b.defers⟩ : Act) ∧ Below W5.heap.size W5 w' ∧ (l.getD 0 false = true → u0 = .agg #[.bool n_4, .slice a_4 k_4 c_4]) ∧ (l.getD 1 false = true → u1 = .agg #[.bool n_2, .slice a_2 k_2 c_2]) ∧ (l.getD 2 false = true → ∃ (n : Bool) (a : Option Addr) (k c : Nat), u2 = .agg #[.bool n, .slice a k c] ∧ RefR w' (.agg #[.bool n, .slice a k c]) ((q.num.natAbs : Int))) ∧ (l.getD 3 false = true → ∃ (n : Bool) (a : Option Addr) (k c : Nat), u3 = .agg #[.bool n, .slice a k c] ∧ RefR w' (.agg #[.bool n, .slice a k c]) ((2 : Int) * (q.num.natAbs : Int))) ∧ (l.getD 4 false = true → u4 = .agg #[.bool n2_2, .slice a2_2 k2_2 c2_2]) ∧ (l.getD 5 false = true → ∃ (n : Bool) (a : Option Addr) (k c : Nat), u5 = .agg #[.bool n, .slice a k c] ∧ RefR w' (.agg #[.bool n, .slice a k c]) ((2 : Int) * (q.num.natAbs : Int) + (q.den : Int))) ∧ (l.getD 6 false = true → u6 = .agg #[.bool n_4, .slice a_4 k_4 c_4]) ∧ (l.getD 7 false = true → u7 = .agg #[.bool n2_2, .slice a2_2 k2_2 c2_2]) ∧ (l.getD 8 false = true → ∃ (n : Bool) (a : Option Addr) (k c : Nat), u8 = .agg #[.bool n, .slice a k c] ∧ RefR w' (.agg #[.bool n, .slice a k c]) ((2 : Int) * (q.den : Int))) ∧ (l.getD 9 false = true → ∃ (n : Bool) (a : Option Addr) (k c : Nat) (n2 : Bool) (a2 : Option Addr) (k2 c2 : Nat), u9 = .tuple #[.agg #[.bool n, .slice a k c], .agg #[.bool n2, .slice a2 k2 c2], .int .i64 0] ∧ RefR w' (.agg #[.bool n, .slice a k c]) (((2 : Int) * (q.num.natAbs : Int) + (q.den : Int)).tdiv ((2 : Int) * (q.den : Int)))) ∧ (l.getD 10 false = true → ∃ (n : Bool) (a : Option Addr) (k c : Nat) (n2 : Bool) (a2 : Option Addr) (k2 c2 : Nat), u10 = .tuple #[.agg #[.bool n, .slice a k c], .agg #[.bool n2, .slice a2 k2 c2], .int .i64 0] ∧ RefR w' (.agg #[.bool n, .slice a k c]) (((2 : Int) * (q.num.natAbs : Int) + (q.den : Int)).tdiv ((2 : Int) * (q.den : Int)))) ∧ (l.getD 11 false = true → ∃ (n : Bool) (a : Option Addr) (k c : Nat), u11 = .agg #[.bool n, .slice a k c] ∧ RefR w' (.agg #[.bool n, .slice a k c]) (((2 : Int) * (q.num.natAbs : Int) + (q.den : Int)).tdiv ((2 : Int) * (q.den : Int)))) ∧ (l.getD 12 false = true → ∃ (n : Bool) (a : Option Addr) (k c : Nat), u12 = .agg #[.bool n, .slice a k c]) ∧ (l.getD 13 false = true → u13 = .int .i64 0) ∧ (l.getD 14 false = true → ∃ (g : Nat) (n : Bool) (a : Option Addr) (k c : Nat), u14 = .pointer (some ⟨g, 0, none⟩) ∧ W5.heap.size ≤ g ∧ w'.heap[g]? = some (.cells #[.bool n, .slice a k c] 30 (0, 0))) ∧ (l.getD 15 false = true → ∃ (g : Nat) (n : Bool) (a : Option Addr) (k c : Nat), u15 = .pointer (some ⟨g, 0, none⟩) ∧ W5.heap.size ≤ g ∧ w'.heap[g]? = some (.cells #[.bool n, .slice a k c] 30 (0, 0))) ∧ (l.getD 16 false = true → ∃ (g : Nat) (n : Bool) (a : Option Addr) (k c : Nat), u14 = .pointer (some ⟨g, 0, none⟩) ∧ w'.heap[g]? = some (.cells #[.bool n, .slice a k c] 30 (0, 0)) ∧ RefR w' (.agg #[.bool n, .slice a k c]) (((2 : Int) * (q.num.natAbs : Int) + (q.den : Int)).tdiv ((2 : Int) * (q.den : Int)))) ∧ (l.getD 17 false = true → True) ∧ (l.getD 18 false = true → u18 = .int .i64 0) ∧ (l.getD 14 false = true → l.getD 15 false = true → ∃ (g g' : Nat), u14 = .pointer (some ⟨g, 0, none⟩) ∧ u15 = .pointer (some ⟨g', 0, none⟩) ∧ g ≠ g') ∧ (l.getD 16 false = true → l.getD 14 false = true ∧ l.getD 15 false = true) ∧ (l.getD 17 false = true → l.getD 14 false = true ∧ l.getD 15 false = true)) ?_ ?_ ?_ ?_ ?_
  ·refine ⟨undef, undef, undef, undef, undef, undef, undef, undef, undef, undef, undef, undef, undef, undef, undef, undef, undef, by simp, by simp only [List.setIfInBounds_toArray, List.set_cons_zero, List.set_cons_succ], Below.drew (Below.refl _ _), ?_, ?_, ?_, ?_, ?_, ?_, ?_, ?_, ?_, ?_, ?_, ?_, ?_, ?_, ?_, ?_, ?_, ?_, ?_, ?_, ?_, ?_⟩
   all_goals (intro h; exact absurd h (by decide))
  ·rintro l a' w' ⟨_, _, _, _, _, _, _, _, _, _, _, _, _, _, _, _, _, hs, _⟩
   exact hs
  ·intro i o ho
   exact region_ord (by kernel_rfl) i o ho
  ·rintro l a' w' i o ⟨u0, u1, u2, u3, u4, u5, u6, u7, u8, u9, u10, u11, u12, u13, u14, u15, u18, hs, rfl, hB, f0, f1, f2, f3, f4, f5, f6, f7, f8, f9, f10, f11, f12, f13, f14, f15, f16, f17, f18, fd, fc16, fc17⟩ ho hu ha
   have HS := hid hs
   have HBW := hid hB
   have F0 := hid f0
   have F1 := hid f1
   have F2 := hid f2
   have F3 := hid f3
   have F4 := hid f4
   have F5 := hid f5
   have F6 := hid f6
   have F7 := hid f7
   have F8 := hid f8
   have F9 := hid f9
   have F10 := hid f10
   have F11 := hid f11
   have F12 := hid f12
   have F13 := hid f13
   have F14 := hid f14
   have F15 := hid f15
   have F16 := hid f16
   have F17 := hid f17
   have F18 := hid f18
   have FD := hid fd
   have FC16 := hid fc16
   have FC17 := hid fc17
   clear hs hB f0 f1 f2 f3 f4 f5 f6 f7 f8 f9 f10 f11 f12 f13 f14 f15 f16 f17 f18 fd fc16 fc17
   have hi : i < 19 := (Array.getElem?_eq_some_iff.1 ho).1
   rcases i with _ | i
   ·simp only [List.getElem?_toArray, List.getElem?_cons_zero, Option.some.injEq] at ho
    subst ho
    clear ha
    have cc0 := keepc HBW.out HCtwo0.out
    have cc1 := keepc HBW.out HCtwo1.out
    refine wpOp_step rfl (fun K' hK => ?_)
    replace hK := hid hK
    go_simp
    replace hK := hK.out
    refine hK _ _ ⟨.agg #[.bool n_4, .slice a_4 k_4 c_4], u1, u2, u3, u4, u5, u6, u7, u8, u9, u10, u11, u12, u13, u14, u15, u18, by rw [Array.size_setIfInBounds]; exact HS.out, by simp only [List.setIfInBounds_toArray, List.set_cons_zero, List.set_cons_succ], HBW.out, ?_, ?_, ?_, ?_, ?_, ?_, ?_, ?_, ?_, ?_, ?_, ?_, ?_, ?_, ?_, ?_, ?_, ?_, ?_, ?_, ?_, ?_⟩
    ·exact fun _ => rfl
    ·exact fun h => F1.out (listed_old h (by decide))
    ·exact fun h => by obtain ⟨n, a, k, c, e, hz⟩ := F2.out (listed_old h (by decide)); exact ⟨n, a, k, c, e, hz⟩
    ·exact fun h => by obtain ⟨n, a, k, c, e, hz⟩ := F3.out (listed_old h (by decide)); exact ⟨n, a, k, c, e, hz⟩
    ·exact fun h => F4.out (listed_old h (by decide))
    ·exact fun h => by obtain ⟨n, a, k, c, e, hz⟩ := F5.out (listed_old h (by decide)); exact ⟨n, a, k, c, e, hz⟩
    ·exact fun h => F6.out (listed_old h (by decide))
    ·exact fun h => F7.out (listed_old h (by decide))
    ·exact fun h => by obtain ⟨n, a, k, c, e, hz⟩ := F8.out (listed_old h (by decide)); exact ⟨n, a, k, c, e, hz⟩
    ·exact fun h => by obtain ⟨n, a, k, c, n2, a2, k2, c2, e, hz⟩ := F9.out (listed_old h (by decide)); exact ⟨n, a, k, c, n2, a2, k2, c2, e, hz⟩
    ·exact fun h => by obtain ⟨n, a, k, c, n2, a2, k2, c2, e, hz⟩ := F10.out (listed_old h (by decide)); exact ⟨n, a, k, c, n2, a2, k2, c2, e, hz⟩
    ·exact fun h => by obtain ⟨n, a, k, c, e, hz⟩ := F11.out (listed_old h (by decide)); exact ⟨n, a, k, c, e, hz⟩
    ·exact fun h => F12.out (listed_old h (by decide))
    ·exact fun h => F13.out (listed_old h (by decide))
    ·exact fun h => F14.out (listed_old h (by decide))
    ·exact fun h => F15.out (listed_old h (by decide))
    ·exact fun h => F16.out (listed_old h (by decide))
    ·exact fun h => F17.out (listed_old h (by decide))
    ·exact fun h => F18.out (listed_old h (by decide))
    ·exact fun h h' => FD.out (listed_old h (by decide)) (listed_old h' (by decide))
    ·exact fun h => ⟨listed_new (FC16.out (listed_old h (by decide))).1 (by decide), listed_new (FC16.out (listed_old h (by decide))).2 (by decide)⟩
    ·exact fun h => ⟨listed_new (FC17.out (listed_old h (by decide))).1 (by decide), listed_new (FC17.out (listed_old h (by decide))).2 (by decide)⟩
   rcases i with _ | i
   ·simp only [List.getElem?_toArray, List.getElem?_cons_zero, List.getElem?_cons_succ, Option.some.injEq] at ho
    subst ho
    clear ha
    have cc0 := keepc HBW.out HCa0.out
    have cc1 := keepc HBW.out HCa1.out
    refine wpOp_step rfl (fun K' hK => ?_)
    replace hK := hid hK
    go_simp
    replace hK := hK.out
    refine hK _ _ ⟨u0, .agg #[.bool n_2, .slice a_2 k_2 c_2], u2, u3, u4, u5, u6, u7, u8, u9, u10, u11, u12, u13, u14, u15, u18, by rw [Array.size_setIfInBounds]; exact HS.out, by simp only [List.setIfInBounds_toArray, List.set_cons_zero, List.set_cons_succ], HBW.out, ?_, ?_, ?_, ?_, ?_, ?_, ?_, ?_, ?_, ?_, ?_, ?_, ?_, ?_, ?_, ?_, ?_, ?_, ?_, ?_, ?_, ?_⟩
    ·exact fun h => F0.out (listed_old h (by decide))
    ·exact fun _ => rfl
    ·exact fun h => by obtain ⟨n, a, k, c, e, hz⟩ := F2.out (listed_old h (by decide)); exact ⟨n, a, k, c, e, hz⟩
    ·exact fun h => by obtain ⟨n, a, k, c, e, hz⟩ := F3.out (listed_old h (by decide)); exact ⟨n, a, k, c, e, hz⟩
    ·exact fun h => F4.out (listed_old h (by decide))
    ·exact fun h => by obtain ⟨n, a, k, c, e, hz⟩ := F5.out (listed_old h (by decide)); exact ⟨n, a, k, c, e, hz⟩
    ·exact fun h => F6.out (listed_old h (by decide))
    ·exact fun h => F7.out (listed_old h (by decide))
    ·exact fun h => by obtain ⟨n, a, k, c, e, hz⟩ := F8.out (listed_old h (by decide)); exact ⟨n, a, k, c, e, hz⟩
    ·exact fun h => by obtain ⟨n, a, k, c, n2, a2, k2, c2, e, hz⟩ := F9.out (listed_old h (by decide)); exact ⟨n, a, k, c, n2, a2, k2, c2, e, hz⟩
    ·exact fun h => by obtain ⟨n, a, k, c, n2, a2, k2, c2, e, hz⟩ := F10.out (listed_old h (by decide)); exact ⟨n, a, k, c, n2, a2, k2, c2, e, hz⟩
    ·exact fun h => by obtain ⟨n, a, k, c, e, hz⟩ := F11.out (listed_old h (by decide)); exact ⟨n, a, k, c, e, hz⟩
    ·exact fun h => F12.out (listed_old h (by decide))
    ·exact fun h => F13.out (listed_old h (by decide))
    ·exact fun h => F14.out (listed_old h (by decide))
    ·exact fun h => F15.out (listed_old h (by decide))
    ·exact fun h => F16.out (listed_old h (by decide))
    ·exact fun h => F17.out (listed_old h (by decide))
    ·exact fun h => F18.out (listed_old h (by decide))
    ·exact fun h h' => FD.out (listed_old h (by decide)) (listed_old h' (by decide))
    ·exact fun h => ⟨listed_new (FC16.out (listed_old h (by decide))).1 (by decide), listed_new (FC16.out (listed_old h (by decide))).2 (by decide)⟩
    ·exact fun h => ⟨listed_new (FC17.out (listed_old h (by decide))).1 (by decide), listed_new (FC17.out (listed_old h (by decide))).2 (by decide)⟩
   rcases i with _ | i
   ·simp only [List.getElem?_toArray, List.getElem?_cons_zero, List.getElem?_cons_succ, Option.some.injEq] at ho
    subst ho
    have q1 : l.getD 1 false = true := ha ⟨1, .data⟩ (by simp) rfl
    clear ha
    obtain rfl := F1.out q1
    refine wpOp_step rfl (fun K' hK => ?_)
    replace hK := hid hK
    go_simp
    (with_reducible refine (rabs_any (HA.out.below HBW.out)).mono ?_)
    rintro e v1 ⟨m1, e1, i1, j1, rfl, hz, hb⟩
    have HZ := hid hz
    clear hz
    go_simp
    replace hK := hK.out
    refine hK _ _ ⟨u0, .agg #[.bool n_2, .slice a_2 k_2 c_2], .agg #[.bool m1, .slice e1 i1 j1], u3, u4, u5, u6, u7, u8, u9, u10, u11, u12, u13, u14, u15, u18, by rw [Array.size_setIfInBounds]; exact HS.out, by simp only [List.setIfInBounds_toArray, List.set_cons_zero, List.set_cons_succ], HBW.out.trans (hb.mono HBW.out.size), ?_, ?_, ?_, ?_, ?_, ?_, ?_, ?_, ?_, ?_, ?_, ?_, ?_, ?_, ?_, ?_, ?_, ?_, ?_, ?_, ?_, ?_⟩
    ·exact fun h => F0.out (listed_old h (by decide))
    ·exact fun h => F1.out (listed_old h (by decide))
    ·exact fun _ => ⟨m1, e1, i1, j1, rfl, HZ.out⟩
    ·exact fun h => by obtain ⟨n, a, k, c, e, hz⟩ := F3.out (listed_old h (by decide)); exact ⟨n, a, k, c, e, (hz.below hb)⟩
    ·exact fun h => F4.out (listed_old h (by decide))
    ·exact fun h => by obtain ⟨n, a, k, c, e, hz⟩ := F5.out (listed_old h (by decide)); exact ⟨n, a, k, c, e, (hz.below hb)⟩
    ·exact fun h => F6.out (listed_old h (by decide))
    ·exact fun h => F7.out (listed_old h (by decide))
    ·exact fun h => by obtain ⟨n, a, k, c, e, hz⟩ := F8.out (listed_old h (by decide)); exact ⟨n, a, k, c, e, (hz.below hb)⟩
    ·exact fun h => by obtain ⟨n, a, k, c, n2, a2, k2, c2, e, hz⟩ := F9.out (listed_old h (by decide)); exact ⟨n, a, k, c, n2, a2, k2, c2, e, (hz.below hb)⟩
    ·exact fun h => by obtain ⟨n, a, k, c, n2, a2, k2, c2, e, hz⟩ := F10.out (listed_old h (by decide)); exact ⟨n, a, k, c, n2, a2, k2, c2, e, (hz.below hb)⟩
    ·exact fun h => by obtain ⟨n, a, k, c, e, hz⟩ := F11.out (listed_old h (by decide)); exact ⟨n, a, k, c, e, (hz.below hb)⟩
    ·exact fun h => F12.out (listed_old h (by decide))
    ·exact fun h => F13.out (listed_old h (by decide))
    ·exact fun h => by obtain ⟨g, n, a, k, c, e, hg, hh⟩ := F14.out (listed_old h (by decide)); exact ⟨g, n, a, k, c, e, hg, blk_next hh hb⟩
    ·exact fun h => by obtain ⟨g, n, a, k, c, e, hg, hh⟩ := F15.out (listed_old h (by decide)); exact ⟨g, n, a, k, c, e, hg, blk_next hh hb⟩
    ·exact fun h => by obtain ⟨g, n, a, k, c, e, hh, hz⟩ := F16.out (listed_old h (by decide)); exact ⟨g, n, a, k, c, e, blk_next hh hb, hz.below hb⟩
    ·exact fun h => F17.out (listed_old h (by decide))
    ·exact fun h => F18.out (listed_old h (by decide))
    ·exact fun h h' => FD.out (listed_old h (by decide)) (listed_old h' (by decide))
    ·exact fun h => ⟨listed_new (FC16.out (listed_old h (by decide))).1 (by decide), listed_new (FC16.out (listed_old h (by decide))).2 (by decide)⟩
    ·exact fun h => ⟨listed_new (FC17.out (listed_old h (by decide))).1 (by decide), listed_new (FC17.out (listed_old h (by decide))).2 (by decide)⟩
   rcases i with _ | i
   ·simp only [List.getElem?_toArray, List.getElem?_cons_zero, List.getElem?_cons_succ, Option.some.injEq] at ho
    subst ho
    have q0 : l.getD 0 false = true := ha ⟨0, .data⟩ (by simp) rfl
    have q2 : l.getD 2 false = true := ha ⟨2, .data⟩ (by simp) rfl
    clear ha
    obtain rfl := F0.out q0
    obtain ⟨n2, a2, k2, c2, rfl, hz2⟩ := F2.out q2
    have HZ2 := hid hz2
    clear hz2
    refine wpOp_step rfl (fun K' hK => ?_)
    replace hK := hid hK
    go_simp
    (with_reducible refine (rmul_any (HTWO.out.below HBW.out) HZ2.out t2 hq4 (by omega)).mono ?_)
    rintro e v1 ⟨m1, e1, i1, j1, rfl, hz, hb⟩
    have HZ := hid hz
    clear hz
    go_simp
    replace hK := hK.out
    refine hK _ _ ⟨.agg #[.bool n_4, .slice a_4 k_4 c_4], u1, .agg #[.bool n2, .slice a2 k2 c2], .agg #[.bool m1, .slice e1 i1 j1], u4, u5, u6, u7, u8, u9, u10, u11, u12, u13, u14, u15, u18, by rw [Array.size_setIfInBounds]; exact HS.out, by simp only [List.setIfInBounds_toArray, List.set_cons_zero, List.set_cons_succ], HBW.out.trans (hb.mono HBW.out.size), ?_, ?_, ?_, ?_, ?_, ?_, ?_, ?_, ?_, ?_, ?_, ?_, ?_, ?_, ?_, ?_, ?_, ?_, ?_, ?_, ?_, ?_⟩
    ·exact fun h => F0.out (listed_old h (by decide))
    ·exact fun h => F1.out (listed_old h (by decide))
    ·exact fun h => by obtain ⟨n, a, k, c, e, hz⟩ := F2.out (listed_old h (by decide)); exact ⟨n, a, k, c, e, (hz.below hb)⟩
    ·exact fun _ => ⟨m1, e1, i1, j1, rfl, HZ.out⟩
    ·exact fun h => F4.out (listed_old h (by decide))
    ·exact fun h => by obtain ⟨n, a, k, c, e, hz⟩ := F5.out (listed_old h (by decide)); exact ⟨n, a, k, c, e, (hz.below hb)⟩
    ·exact fun h => F6.out (listed_old h (by decide))
    ·exact fun h => F7.out (listed_old h (by decide))
    ·exact fun h => by obtain ⟨n, a, k, c, e, hz⟩ := F8.out (listed_old h (by decide)); exact ⟨n, a, k, c, e, (hz.below hb)⟩
    ·exact fun h => by obtain ⟨n, a, k, c, n2, a2, k2, c2, e, hz⟩ := F9.out (listed_old h (by decide)); exact ⟨n, a, k, c, n2, a2, k2, c2, e, (hz.below hb)⟩
    ·exact fun h => by obtain ⟨n, a, k, c, n2, a2, k2, c2, e, hz⟩ := F10.out (listed_old h (by decide)); exact ⟨n, a, k, c, n2, a2, k2, c2, e, (hz.below hb)⟩
    ·exact fun h => by obtain ⟨n, a, k, c, e, hz⟩ := F11.out (listed_old h (by decide)); exact ⟨n, a, k, c, e, (hz.below hb)⟩
    ·exact fun h => F12.out (listed_old h (by decide))
    ·exact fun h => F13.out (listed_old h (by decide))
    ·exact fun h => by obtain ⟨g, n, a, k, c, e, hg, hh⟩ := F14.out (listed_old h (by decide)); exact ⟨g, n, a, k, c, e, hg, blk_next hh hb⟩
    ·exact fun h => by obtain ⟨g, n, a, k, c, e, hg, hh⟩ := F15.out (listed_old h (by decide)); exact ⟨g, n, a, k, c, e, hg, blk_next hh hb⟩
    ·exact fun h => by obtain ⟨g, n, a, k, c, e, hh, hz⟩ := F16.out (listed_old h (by decide)); exact ⟨g, n, a, k, c, e, blk_next hh hb, hz.below hb⟩
    ·exact fun h => F17.out (listed_old h (by decide))
    ·exact fun h => F18.out (listed_old h (by decide))
    ·exact fun h h' => FD.out (listed_old h (by decide)) (listed_old h' (by decide))
    ·exact fun h => ⟨listed_new (FC16.out (listed_old h (by decide))).1 (by decide), listed_new (FC16.out (listed_old h (by decide))).2 (by decide)⟩
    ·exact fun h => ⟨listed_new (FC17.out (listed_old h (by decide))).1 (by decide), listed_new (FC17.out (listed_old h (by decide))).2 (by decide)⟩
   rcases i with _ | i
   ·simp only [List.getElem?_toArray, List.getElem?_cons_zero, List.getElem?_cons_succ, Option.some.injEq] at ho
    subst ho
    clear ha
    have cc0 := keepc HBW.out HCd0.out
    have cc1 := keepc HBW.out HCd1.out
    refine wpOp_step rfl (fun K' hK => ?_)
    replace hK := hid hK
    go_simp
    replace hK := hK.out
    refine hK _ _ ⟨u0, u1, u2, u3, .agg #[.bool n2_2, .slice a2_2 k2_2 c2_2], u5, u6, u7, u8, u9, u10, u11, u12, u13, u14, u15, u18, by rw [Array.size_setIfInBounds]; exact HS.out, by simp only [List.setIfInBounds_toArray, List.set_cons_zero, List.set_cons_succ], HBW.out, ?_, ?_, ?_, ?_, ?_, ?_, ?_, ?_, ?_, ?_, ?_, ?_, ?_, ?_, ?_, ?_, ?_, ?_, ?_, ?_, ?_, ?_⟩
    ·exact fun h => F0.out (listed_old h (by decide))
    ·exact fun h => F1.out (listed_old h (by decide))
    ·exact fun h => by obtain ⟨n, a, k, c, e, hz⟩ := F2.out (listed_old h (by decide)); exact ⟨n, a, k, c, e, hz⟩
    ·exact fun h => by obtain ⟨n, a, k, c, e, hz⟩ := F3.out (listed_old h (by decide)); exact ⟨n, a, k, c, e, hz⟩
    ·exact fun _ => rfl
    ·exact fun h => by obtain ⟨n, a, k, c, e, hz⟩ := F5.out (listed_old h (by decide)); exact ⟨n, a, k, c, e, hz⟩
    ·exact fun h => F6.out (listed_old h (by decide))
    ·exact fun h => F7.out (listed_old h (by decide))
    ·exact fun h => by obtain ⟨n, a, k, c, e, hz⟩ := F8.out (listed_old h (by decide)); exact ⟨n, a, k, c, e, hz⟩
    ·exact fun h => by obtain ⟨n, a, k, c, n2, a2, k2, c2, e, hz⟩ := F9.out (listed_old h (by decide)); exact ⟨n, a, k, c, n2, a2, k2, c2, e, hz⟩
    ·exact fun h => by obtain ⟨n, a, k, c, n2, a2, k2, c2, e, hz⟩ := F10.out (listed_old h (by decide)); exact ⟨n, a, k, c, n2, a2, k2, c2, e, hz⟩
    ·exact fun h => by obtain ⟨n, a, k, c, e, hz⟩ := F11.out (listed_old h (by decide)); exact ⟨n, a, k, c, e, hz⟩
    ·exact fun h => F12.out (listed_old h (by decide))
    ·exact fun h => F13.out (listed_old h (by decide))
    ·exact fun h => F14.out (listed_old h (by decide))
    ·exact fun h => F15.out (listed_old h (by decide))
    ·exact fun h => F16.out (listed_old h (by decide))
    ·exact fun h => F17.out (listed_old h (by decide))
    ·exact fun h => F18.out (listed_old h (by decide))
    ·exact fun h h' => FD.out (listed_old h (by decide)) (listed_old h' (by decide))
    ·exact fun h => ⟨listed_new (FC16.out (listed_old h (by decide))).1 (by decide), listed_new (FC16.out (listed_old h (by decide))).2 (by decide)⟩
    ·exact fun h => ⟨listed_new (FC17.out (listed_old h (by decide))).1 (by decide), listed_new (FC17.out (listed_old h (by decide))).2 (by decide)⟩
   rcases i with _ | i
   ·simp only [List.getElem?_toArray, List.getElem?_cons_zero, List.getElem?_cons_succ, Option.some.injEq] at ho
    subst ho
    have q3 : l.getD 3 false = true := ha ⟨3, .data⟩ (by simp) rfl
    have q4 : l.getD 4 false = true := ha ⟨4, .data⟩ (by simp) rfl
    clear ha
    obtain ⟨n3, a3, k3, c3, rfl, hz3⟩ := F3.out q3
    have HZ3 := hid hz3
    clear hz3
    obtain rfl := F4.out q4
    refine wpOp_step rfl (fun K' hK => ?_)
    replace hK := hid hK
    go_simp
    (with_reducible refine (radd_any HZ3.out (HD.out.below HBW.out) d1 d2 (by omega)).mono ?_)
    rintro e v1 ⟨m1, e1, i1, j1, rfl, hz, hb⟩
    have HZ := hid hz
    clear hz
    go_simp
    replace hK := hK.out
    refine hK _ _ ⟨u0, u1, u2, .agg #[.bool n3, .slice a3 k3 c3], .agg #[.bool n2_2, .slice a2_2 k2_2 c2_2], .agg #[.bool m1, .slice e1 i1 j1], u6, u7, u8, u9, u10, u11, u12, u13, u14, u15, u18, by rw [Array.size_setIfInBounds]; exact HS.out, by simp only [List.setIfInBounds_toArray, List.set_cons_zero, List.set_cons_succ], HBW.out.trans (hb.mono HBW.out.size), ?_, ?_, ?_, ?_, ?_, ?_, ?_, ?_, ?_, ?_, ?_, ?_, ?_, ?_, ?_, ?_, ?_, ?_, ?_, ?_, ?_, ?_⟩
    ·exact fun h => F0.out (listed_old h (by decide))
    ·exact fun h => F1.out (listed_old h (by decide))
    ·exact fun h => by obtain ⟨n, a, k, c, e, hz⟩ := F2.out (listed_old h (by decide)); exact ⟨n, a, k, c, e, (hz.below hb)⟩
    ·exact fun h => by obtain ⟨n, a, k, c, e, hz⟩ := F3.out (listed_old h (by decide)); exact ⟨n, a, k, c, e, (hz.below hb)⟩
    ·exact fun h => F4.out (listed_old h (by decide))
    ·exact fun _ => ⟨m1, e1, i1, j1, rfl, HZ.out⟩
    ·exact fun h => F6.out (listed_old h (by decide))
    ·exact fun h => F7.out (listed_old h (by decide))
    ·exact fun h => by obtain ⟨n, a, k, c, e, hz⟩ := F8.out (listed_old h (by decide)); exact ⟨n, a, k, c, e, (hz.below hb)⟩
    ·exact fun h => by obtain ⟨n, a, k, c, n2, a2, k2, c2, e, hz⟩ := F9.out (listed_old h (by decide)); exact ⟨n, a, k, c, n2, a2, k2, c2, e, (hz.below hb)⟩
    ·exact fun h => by obtain ⟨n, a, k, c, n2, a2, k2, c2, e, hz⟩ := F10.out (listed_old h (by decide)); exact ⟨n, a, k, c, n2, a2, k2, c2, e, (hz.below hb)⟩
    ·exact fun h => by obtain ⟨n, a, k, c, e, hz⟩ := F11.out (listed_old h (by decide)); exact ⟨n, a, k, c, e, (hz.below hb)⟩
    ·exact fun h => F12.out (listed_old h (by decide))
    ·exact fun h => F13.out (listed_old h (by decide))
    ·exact fun h => by obtain ⟨g, n, a, k, c, e, hg, hh⟩ := F14.out (listed_old h (by decide)); exact ⟨g, n, a, k, c, e, hg, blk_next hh hb⟩
    ·exact fun h => by obtain ⟨g, n, a, k, c, e, hg, hh⟩ := F15.out (listed_old h (by decide)); exact ⟨g, n, a, k, c, e, hg, blk_next hh hb⟩
    ·exact fun h => by obtain ⟨g, n, a, k, c, e, hh, hz⟩ := F16.out (listed_old h (by decide)); exact ⟨g, n, a, k, c, e, blk_next hh hb, hz.below hb⟩
    ·exact fun h => F17.out (listed_old h (by decide))
    ·exact fun h => F18.out (listed_old h (by decide))
    ·exact fun h h' => FD.out (listed_old h (by decide)) (listed_old h' (by decide))
    ·exact fun h => ⟨listed_new (FC16.out (listed_old h (by decide))).1 (by decide), listed_new (FC16.out (listed_old h (by decide))).2 (by decide)⟩
    ·exact fun h => ⟨listed_new (FC17.out (listed_old h (by decide))).1 (by decide), listed_new (FC17.out (listed_old h (by decide))).2 (by decide)⟩
   rcases i with _ | i
   ·simp only [List.getElem?_toArray, List.getElem?_cons_zero, List.getElem?_cons_succ, Option.some.injEq] at ho
    subst ho
    clear ha
    have cc0 := keepc HBW.out HCtwo0.out
    have cc1 := keepc HBW.out HCtwo1.out
    refine wpOp_step rfl (fun K' hK => ?_)
    replace hK := hid hK
    go_simp
    replace hK := hK.out
    refine hK _ _ ⟨u0, u1, u2, u3, u4, u5, .agg #[.bool n_4, .slice a_4 k_4 c_4], u7, u8, u9, u10, u11, u12, u13, u14, u15, u18, by rw [Array.size_setIfInBounds]; exact HS.out, by simp only [List.setIfInBounds_toArray, List.set_cons_zero, List.set_cons_succ], HBW.out, ?_, ?_, ?_, ?_, ?_, ?_, ?_, ?_, ?_, ?_, ?_, ?_, ?_, ?_, ?_, ?_, ?_, ?_, ?_, ?_, ?_, ?_⟩
    ·exact fun h => F0.out (listed_old h (by decide))
    ·exact fun h => F1.out (listed_old h (by decide))
    ·exact fun h => by obtain ⟨n, a, k, c, e, hz⟩ := F2.out (listed_old h (by decide)); exact ⟨n, a, k, c, e, hz⟩
    ·exact fun h => by obtain ⟨n, a, k, c, e, hz⟩ := F3.out (listed_old h (by decide)); exact ⟨n, a, k, c, e, hz⟩
    ·exact fun h => F4.out (listed_old h (by decide))
    ·exact fun h => by obtain ⟨n, a, k, c, e, hz⟩ := F5.out (listed_old h (by decide)); exact ⟨n, a, k, c, e, hz⟩
    ·exact fun _ => rfl
    ·exact fun h => F7.out (listed_old h (by decide))
    ·exact fun h => by obtain ⟨n, a, k, c, e, hz⟩ := F8.out (listed_old h (by decide)); exact ⟨n, a, k, c, e, hz⟩
    ·exact fun h => by obtain ⟨n, a, k, c, n2, a2, k2, c2, e, hz⟩ := F9.out (listed_old h (by decide)); exact ⟨n, a, k, c, n2, a2, k2, c2, e, hz⟩
    ·exact fun h => by obtain ⟨n, a, k, c, n2, a2, k2, c2, e, hz⟩ := F10.out (listed_old h (by decide)); exact ⟨n, a, k, c, n2, a2, k2, c2, e, hz⟩
    ·exact fun h => by obtain ⟨n, a, k, c, e, hz⟩ := F11.out (listed_old h (by decide)); exact ⟨n, a, k, c, e, hz⟩
    ·exact fun h => F12.out (listed_old h (by decide))
    ·exact fun h => F13.out (listed_old h (by decide))
    ·exact fun h => F14.out (listed_old h (by decide))
    ·exact fun h => F15.out (listed_old h (by decide))
    ·exact fun h => F16.out (listed_old h (by decide))
    ·exact fun h => F17.out (listed_old h (by decide))
    ·exact fun h => F18.out (listed_old h (by decide))
    ·exact fun h h' => FD.out (listed_old h (by decide)) (listed_old h' (by decide))
    ·exact fun h => ⟨listed_new (FC16.out (listed_old h (by decide))).1 (by decide), listed_new (FC16.out (listed_old h (by decide))).2 (by decide)⟩
    ·exact fun h => ⟨listed_new (FC17.out (listed_old h (by decide))).1 (by decide), listed_new (FC17.out (listed_old h (by decide))).2 (by decide)⟩
   rcases i with _ | i
   ·simp only [List.getElem?_toArray, List.getElem?_cons_zero, List.getElem?_cons_succ, Option.some.injEq] at ho
    subst ho
    clear ha
    have cc0 := keepc HBW.out HCd0.out
    have cc1 := keepc HBW.out HCd1.out
    refine wpOp_step rfl (fun K' hK => ?_)
    replace hK := hid hK
    go_simp
    replace hK := hK.out
    refine hK _ _ ⟨u0, u1, u2, u3, u4, u5, u6, .agg #[.bool n2_2, .slice a2_2 k2_2 c2_2], u8, u9, u10, u11, u12, u13, u14, u15, u18, by rw [Array.size_setIfInBounds]; exact HS.out, by simp only [List.setIfInBounds_toArray, List.set_cons_zero, List.set_cons_succ], HBW.out, ?_, ?_, ?_, ?_, ?_, ?_, ?_, ?_, ?_, ?_, ?_, ?_, ?_, ?_, ?_, ?_, ?_, ?_, ?_, ?_, ?_, ?_⟩
    ·exact fun h => F0.out (listed_old h (by decide))
    ·exact fun h => F1.out (listed_old h (by decide))
    ·exact fun h => by obtain ⟨n, a, k, c, e, hz⟩ := F2.out (listed_old h (by decide)); exact ⟨n, a, k, c, e, hz⟩
    ·exact fun h => by obtain ⟨n, a, k, c, e, hz⟩ := F3.out (listed_old h (by decide)); exact ⟨n, a, k, c, e, hz⟩
    ·exact fun h => F4.out (listed_old h (by decide))
    ·exact fun h => by obtain ⟨n, a, k, c, e, hz⟩ := F5.out (listed_old h (by decide)); exact ⟨n, a, k, c, e, hz⟩
    ·exact fun h => F6.out (listed_old h (by decide))
    ·exact fun _ => rfl
    ·exact fun h => by obtain ⟨n, a, k, c, e, hz⟩ := F8.out (listed_old h (by decide)); exact ⟨n, a, k, c, e, hz⟩
    ·exact fun h => by obtain ⟨n, a, k, c, n2, a2, k2, c2, e, hz⟩ := F9.out (listed_old h (by decide)); exact ⟨n, a, k, c, n2, a2, k2, c2, e, hz⟩
    ·exact fun h => by obtain ⟨n, a, k, c, n2, a2, k2, c2, e, hz⟩ := F10.out (listed_old h (by decide)); exact ⟨n, a, k, c, n2, a2, k2, c2, e, hz⟩
    ·exact fun h => by obtain ⟨n, a, k, c, e, hz⟩ := F11.out (listed_old h (by decide)); exact ⟨n, a, k, c, e, hz⟩
    ·exact fun h => F12.out (listed_old h (by decide))
    ·exact fun h => F13.out (listed_old h (by decide))
    ·exact fun h => F14.out (listed_old h (by decide))
    ·exact fun h => F15.out (listed_old h (by decide))
    ·exact fun h => F16.out (listed_old h (by decide))
    ·exact fun h => F17.out (listed_old h (by decide))
    ·exact fun h => F18.out (listed_old h (by decide))
    ·exact fun h h' => FD.out (listed_old h (by decide)) (listed_old h' (by decide))
    ·exact fun h => ⟨listed_new (FC16.out (listed_old h (by decide))).1 (by decide), listed_new (FC16.out (listed_old h (by decide))).2 (by decide)⟩
    ·exact fun h => ⟨listed_new (FC17.out (listed_old h (by decide))).1 (by decide), listed_new (FC17.out (listed_old h (by decide))).2 (by decide)⟩
   rcases i with _ | i
   ·simp only [List.getElem?_toArray, List.getElem?_cons_zero, List.getElem?_cons_succ, Option.some.injEq] at ho
    subst ho
    have q6 : l.getD 6 false = true := ha ⟨6, .data⟩ (by simp) rfl
    have q7 : l.getD 7 false = true := ha ⟨7, .data⟩ (by simp) rfl
    clear ha
    obtain rfl := F6.out q6
    obtain rfl := F7.out q7
    refine wpOp_step rfl (fun K' hK => ?_)
    replace hK := hid hK
    go_simp
    (with_reducible refine (rmul_any (HTWO.out.below HBW.out) (HD.out.below HBW.out) t2 hq5 (by omega)).mono ?_)
    rintro e v1 ⟨m1, e1, i1, j1, rfl, hz, hb⟩
    have HZ := hid hz
    clear hz
    go_simp
    replace hK := hK.out
    refine hK _ _ ⟨u0, u1, u2, u3, u4, u5, .agg #[.bool n_4, .slice a_4 k_4 c_4], .agg #[.bool n2_2, .slice a2_2 k2_2 c2_2], .agg #[.bool m1, .slice e1 i1 j1], u9, u10, u11, u12, u13, u14, u15, u18, by rw [Array.size_setIfInBounds]; exact HS.out, by simp only [List.setIfInBounds_toArray, List.set_cons_zero, List.set_cons_succ], HBW.out.trans (hb.mono HBW.out.size), ?_, ?_, ?_, ?_, ?_, ?_, ?_, ?_, ?_, ?_, ?_, ?_, ?_, ?_, ?_, ?_, ?_, ?_, ?_, ?_, ?_, ?_⟩
    ·exact fun h => F0.out (listed_old h (by decide))
    ·exact fun h => F1.out (listed_old h (by decide))
    ·exact fun h => by obtain ⟨n, a, k, c, e, hz⟩ := F2.out (listed_old h (by decide)); exact ⟨n, a, k, c, e, (hz.below hb)⟩
    ·exact fun h => by obtain ⟨n, a, k, c, e, hz⟩ := F3.out (listed_old h (by decide)); exact ⟨n, a, k, c, e, (hz.below hb)⟩
    ·exact fun h => F4.out (listed_old h (by decide))
    ·exact fun h => by obtain ⟨n, a, k, c, e, hz⟩ := F5.out (listed_old h (by decide)); exact ⟨n, a, k, c, e, (hz.below hb)⟩
    ·exact fun h => F6.out (listed_old h (by decide))
    ·exact fun h => F7.out (listed_old h (by decide))
    ·exact fun _ => ⟨m1, e1, i1, j1, rfl, HZ.out⟩
    ·exact fun h => by obtain ⟨n, a, k, c, n2, a2, k2, c2, e, hz⟩ := F9.out (listed_old h (by decide)); exact ⟨n, a, k, c, n2, a2, k2, c2, e, (hz.below hb)⟩
    ·exact fun h => by obtain ⟨n, a, k, c, n2, a2, k2, c2, e, hz⟩ := F10.out (listed_old h (by decide)); exact ⟨n, a, k, c, n2, a2, k2, c2, e, (hz.below hb)⟩
    ·exact fun h => by obtain ⟨n, a, k, c, e, hz⟩ := F11.out (listed_old h (by decide)); exact ⟨n, a, k, c, e, (hz.below hb)⟩
    ·exact fun h => F12.out (listed_old h (by decide))
    ·exact fun h => F13.out (listed_old h (by decide))
    ·exact fun h => by obtain ⟨g, n, a, k, c, e, hg, hh⟩ := F14.out (listed_old h (by decide)); exact ⟨g, n, a, k, c, e, hg, blk_next hh hb⟩
    ·exact fun h => by obtain ⟨g, n, a, k, c, e, hg, hh⟩ := F15.out (listed_old h (by decide)); exact ⟨g, n, a, k, c, e, hg, blk_next hh hb⟩
    ·exact fun h => by obtain ⟨g, n, a, k, c, e, hh, hz⟩ := F16.out (listed_old h (by decide)); exact ⟨g, n, a, k, c, e, blk_next hh hb, hz.below hb⟩
    ·exact fun h => F17.out (listed_old h (by decide))
    ·exact fun h => F18.out (listed_old h (by decide))
    ·exact fun h h' => FD.out (listed_old h (by decide)) (listed_old h' (by decide))
    ·exact fun h => ⟨listed_new (FC16.out (listed_old h (by decide))).1 (by decide), listed_new (FC16.out (listed_old h (by decide))).2 (by decide)⟩
    ·exact fun h => ⟨listed_new (FC17.out (listed_old h (by decide))).1 (by decide), listed_new (FC17.out (listed_old h (by decide))).2 (by decide)⟩
   rcases i with _ | i
   ·simp only [List.getElem?_toArray, List.getElem?_cons_zero, List.getElem?_cons_succ, Option.some.injEq] at ho
    subst ho
    have q5 : l.getD 5 false = true := ha ⟨5, .data⟩ (by simp) rfl
    have q8 : l.getD 8 false = true := ha ⟨8, .data⟩ (by simp) rfl
    clear ha
    obtain ⟨n5, a5, k5, c5, rfl, hz5⟩ := F5.out q5
    have HZ5 := hid hz5
    clear hz5
    obtain ⟨n8, a8, k8, c8, rfl, hz8⟩ := F8.out q8
    have HZ8 := hid hz8
    clear hz8
    refine wpOp_step rfl (fun K' hK => ?_)
    replace hK := hid hK
    go_simp
    (with_reducible refine (rquorem_any HZ5.out HZ8.out HZ.out d4 (by omega)).mono ?_)
    rintro e v1 ⟨m1, e1, i1, j1, m2, e2, i2, j2, rfl, hz, _, hb⟩
    have HZ := hid hz
    clear hz
    go_simp
    replace hK := hK.out
    refine hK _ _ ⟨u0, u1, u2, u3, u4, .agg #[.bool n5, .slice a5 k5 c5], u6, u7, .agg #[.bool n8, .slice a8 k8 c8], .tuple #[.agg #[.bool m1, .slice e1 i1 j1], .agg #[.bool m2, .slice e2 i2 j2], .int .i64 0], u10, u11, u12, u13, u14, u15, u18, by rw [Array.size_setIfInBounds]; exact HS.out, by simp only [List.setIfInBounds_toArray, List.set_cons_zero, List.set_cons_succ], HBW.out.trans (hb.mono HBW.out.size), ?_, ?_, ?_, ?_, ?_, ?_, ?_, ?_, ?_, ?_, ?_, ?_, ?_, ?_, ?_, ?_, ?_, ?_, ?_, ?_, ?_, ?_⟩
    ·exact fun h => F0.out (listed_old h (by decide))
    ·exact fun h => F1.out (listed_old h (by decide))
    ·exact fun h => by obtain ⟨n, a, k, c, e, hz⟩ := F2.out (listed_old h (by decide)); exact ⟨n, a, k, c, e, (hz.below hb)⟩
    ·exact fun h => by obtain ⟨n, a, k, c, e, hz⟩ := F3.out (listed_old h (by decide)); exact ⟨n, a, k, c, e, (hz.below hb)⟩
    ·exact fun h => F4.out (listed_old h (by decide))
    ·exact fun h => by obtain ⟨n, a, k, c, e, hz⟩ := F5.out (listed_old h (by decide)); exact ⟨n, a, k, c, e, (hz.below hb)⟩
    ·exact fun h => F6.out (listed_old h (by decide))
    ·exact fun h => F7.out (listed_old h (by decide))
    ·exact fun h => by obtain ⟨n, a, k, c, e, hz⟩ := F8.out (listed_old h (by decide)); exact ⟨n, a, k, c, e, (hz.below hb)⟩
    ·exact fun _ => ⟨m1, e1, i1, j1, m2, e2, i2, j2, rfl, HZ.out⟩
    ·exact fun h => by obtain ⟨n, a, k, c, n2, a2, k2, c2, e, hz⟩ := F10.out (listed_old h (by decide)); exact ⟨n, a, k, c, n2, a2, k2, c2, e, (hz.below hb)⟩
    ·exact fun h => by obtain ⟨n, a, k, c, e, hz⟩ := F11.out (listed_old h (by decide)); exact ⟨n, a, k, c, e, (hz.below hb)⟩
    ·exact fun h => F12.out (listed_old h (by decide))
    ·exact fun h => F13.out (listed_old h (by decide))
    ·exact fun h => by obtain ⟨g, n, a, k, c, e, hg, hh⟩ := F14.out (listed_old h (by decide)); exact ⟨g, n, a, k, c, e, hg, blk_next hh hb⟩
    ·exact fun h => by obtain ⟨g, n, a, k, c, e, hg, hh⟩ := F15.out (listed_old h (by decide)); exact ⟨g, n, a, k, c, e, hg, blk_next hh hb⟩
    ·exact fun h => by obtain ⟨g, n, a, k, c, e, hh, hz⟩ := F16.out (listed_old h (by decide)); exact ⟨g, n, a, k, c, e, blk_next hh hb, hz.below hb⟩
    ·exact fun h => F17.out (listed_old h (by decide))
    ·exact fun h => F18.out (listed_old h (by decide))
    ·exact fun h h' => FD.out (listed_old h (by decide)) (listed_old h' (by decide))
    ·exact fun h => ⟨listed_new (FC16.out (listed_old h (by decide))).1 (by decide), listed_new (FC16.out (listed_old h (by decide))).2 (by decide)⟩
    ·exact fun h => ⟨listed_new (FC17.out (listed_old h (by decide))).1 (by decide), listed_new (FC17.out (listed_old h (by decide))).2 (by decide)⟩
   rcases i with _ | i
   ·simp only [List.getElem?_toArray, List.getElem?_cons_zero, List.getElem?_cons_succ, Option.some.injEq] at ho
    subst ho
    have q9 : l.getD 9 false = true := ha ⟨9, .data⟩ (by simp) rfl
    clear ha
    obtain ⟨n9, a9, k9, c9, n29, a29, k29, c29, rfl, hz9⟩ := F9.out q9
    have HZ := hid hz9
    clear hz9
    refine wpOp_step rfl (fun K' hK => ?_)
    replace hK := hid hK
    go_simp
    replace hK := hK.out
    refine hK _ _ ⟨u0, u1, u2, u3, u4, u5, u6, u7, u8, .tuple #[.agg #[.bool n9, .slice a9 k9 c9], .agg #[.bool n29, .slice a29 k29 c29], .int .i64 0], .tuple #[.agg #[.bool n9, .slice a9 k9 c9], .agg #[.bool n29, .slice a29 k29 c29], .int .i64 0], u11, u12, u13, u14, u15, u18, by rw [Array.size_setIfInBounds]; exact HS.out, by simp only [List.setIfInBounds_toArray, List.set_cons_zero, List.set_cons_succ], HBW.out, ?_, ?_, ?_, ?_, ?_, ?_, ?_, ?_, ?_, ?_, ?_, ?_, ?_, ?_, ?_, ?_, ?_, ?_, ?_, ?_, ?_, ?_⟩
    ·exact fun h => F0.out (listed_old h (by decide))
    ·exact fun h => F1.out (listed_old h (by decide))
    ·exact fun h => by obtain ⟨n, a, k, c, e, hz⟩ := F2.out (listed_old h (by decide)); exact ⟨n, a, k, c, e, hz⟩
    ·exact fun h => by obtain ⟨n, a, k, c, e, hz⟩ := F3.out (listed_old h (by decide)); exact ⟨n, a, k, c, e, hz⟩
    ·exact fun h => F4.out (listed_old h (by decide))
    ·exact fun h => by obtain ⟨n, a, k, c, e, hz⟩ := F5.out (listed_old h (by decide)); exact ⟨n, a, k, c, e, hz⟩
    ·exact fun h => F6.out (listed_old h (by decide))
    ·exact fun h => F7.out (listed_old h (by decide))
    ·exact fun h => by obtain ⟨n, a, k, c, e, hz⟩ := F8.out (listed_old h (by decide)); exact ⟨n, a, k, c, e, hz⟩
    ·exact fun h => by obtain ⟨n, a, k, c, n2, a2, k2, c2, e, hz⟩ := F9.out (listed_old h (by decide)); exact ⟨n, a, k, c, n2, a2, k2, c2, e, hz⟩
    ·exact fun _ => ⟨n9, a9, k9, c9, n29, a29, k29, c29, rfl, HZ.out⟩
    ·exact fun h => by obtain ⟨n, a, k, c, e, hz⟩ := F11.out (listed_old h (by decide)); exact ⟨n, a, k, c, e, hz⟩
    ·exact fun h => F12.out (listed_old h (by decide))
    ·exact fun h => F13.out (listed_old h (by decide))
    ·exact fun h => F14.out (listed_old h (by decide))
    ·exact fun h => F15.out (listed_old h (by decide))
    ·exact fun h => F16.out (listed_old h (by decide))
    ·exact fun h => F17.out (listed_old h (by decide))
    ·exact fun h => F18.out (listed_old h (by decide))
    ·exact fun h h' => FD.out (listed_old h (by decide)) (listed_old h' (by decide))
    ·exact fun h => ⟨listed_new (FC16.out (listed_old h (by decide))).1 (by decide), listed_new (FC16.out (listed_old h (by decide))).2 (by decide)⟩
    ·exact fun h => ⟨listed_new (FC17.out (listed_old h (by decide))).1 (by decide), listed_new (FC17.out (listed_old h (by decide))).2 (by decide)⟩
   rcases i with _ | i
   ·simp only [List.getElem?_toArray, List.getElem?_cons_zero, List.getElem?_cons_succ, Option.some.injEq] at ho
    subst ho
    have q10 : l.getD 10 false = true := ha ⟨10, .data⟩ (by simp) rfl
    clear ha
    obtain ⟨n10, a10, k10, c10, n210, a210, k210, c210, rfl, hz10⟩ := F10.out q10
    have HZ := hid hz10
    clear hz10
    refine wpOp_step rfl (fun K' hK => ?_)
    replace hK := hid hK
    go_simp
    replace hK := hK.out
    refine hK _ _ ⟨u0, u1, u2, u3, u4, u5, u6, u7, u8, u9, .tuple #[.agg #[.bool n10, .slice a10 k10 c10], .agg #[.bool n210, .slice a210 k210 c210], .int .i64 0], .agg #[.bool n10, .slice a10 k10 c10], u12, u13, u14, u15, u18, by rw [Array.size_setIfInBounds]; exact HS.out, by simp only [List.setIfInBounds_toArray, List.set_cons_zero, List.set_cons_succ], HBW.out, ?_, ?_, ?_, ?_, ?_, ?_, ?_, ?_, ?_, ?_, ?_, ?_, ?_, ?_, ?_, ?_, ?_, ?_, ?_, ?_, ?_, ?_⟩
    ·exact fun h => F0.out (listed_old h (by decide))
    ·exact fun h => F1.out (listed_old h (by decide))
    ·exact fun h => by obtain ⟨n, a, k, c, e, hz⟩ := F2.out (listed_old h (by decide)); exact ⟨n, a, k, c, e, hz⟩
    ·exact fun h => by obtain ⟨n, a, k, c, e, hz⟩ := F3.out (listed_old h (by decide)); exact ⟨n, a, k, c, e, hz⟩
    ·exact fun h => F4.out (listed_old h (by decide))
    ·exact fun h => by obtain ⟨n, a, k, c, e, hz⟩ := F5.out (listed_old h (by decide)); exact ⟨n, a, k, c, e, hz⟩
    ·exact fun h => F6.out (listed_old h (by decide))
    ·exact fun h => F7.out (listed_old h (by decide))
    ·exact fun h => by obtain ⟨n, a, k, c, e, hz⟩ := F8.out (listed_old h (by decide)); exact ⟨n, a, k, c, e, hz⟩
    ·exact fun h => by obtain ⟨n, a, k, c, n2, a2, k2, c2, e, hz⟩ := F9.out (listed_old h (by decide)); exact ⟨n, a, k, c, n2, a2, k2, c2, e, hz⟩
    ·exact fun h => by obtain ⟨n, a, k, c, n2, a2, k2, c2, e, hz⟩ := F10.out (listed_old h (by decide)); exact ⟨n, a, k, c, n2, a2, k2, c2, e, hz⟩
    ·exact fun _ => ⟨n10, a10, k10, c10, rfl, HZ.out⟩
    ·exact fun h => F12.out (listed_old h (by decide))
    ·exact fun h => F13.out (listed_old h (by decide))
    ·exact fun h => F14.out (listed_old h (by decide))
    ·exact fun h => F15.out (listed_old h (by decide))
    ·exact fun h => F16.out (listed_old h (by decide))
    ·exact fun h => F17.out (listed_old h (by decide))
    ·exact fun h => F18.out (listed_old h (by decide))
    ·exact fun h h' => FD.out (listed_old h (by decide)) (listed_old h' (by decide))
    ·exact fun h => ⟨listed_new (FC16.out (listed_old h (by decide))).1 (by decide), listed_new (FC16.out (listed_old h (by decide))).2 (by decide)⟩
    ·exact fun h => ⟨listed_new (FC17.out (listed_old h (by decide))).1 (by decide), listed_new (FC17.out (listed_old h (by decide))).2 (by decide)⟩
   rcases i with _ | i
   ·simp only [List.getElem?_toArray, List.getElem?_cons_zero, List.getElem?_cons_succ, Option.some.injEq] at ho
    subst ho
    have q10 : l.getD 10 false = true := ha ⟨10, .data⟩ (by simp) rfl
    clear ha
    obtain ⟨n10, a10, k10, c10, n210, a210, k210, c210, rfl, hz10⟩ := F10.out q10
    have HZ := hid hz10
    clear hz10
    refine wpOp_step rfl (fun K' hK => ?_)
    replace hK := hid hK
    go_simp
    replace hK := hK.out
    refine hK _ _ ⟨u0, u1, u2, u3, u4, u5, u6, u7, u8, u9, .tuple #[.agg #[.bool n10, .slice a10 k10 c10], .agg #[.bool n210, .slice a210 k210 c210], .int .i64 0], u11, .agg #[.bool n210, .slice a210 k210 c210], u13, u14, u15, u18, by rw [Array.size_setIfInBounds]; exact HS.out, by simp only [List.setIfInBounds_toArray, List.set_cons_zero, List.set_cons_succ], HBW.out, ?_, ?_, ?_, ?_, ?_, ?_, ?_, ?_, ?_, ?_, ?_, ?_, ?_, ?_, ?_, ?_, ?_, ?_, ?_, ?_, ?_, ?_⟩
    ·exact fun h => F0.out (listed_old h (by decide))
    ·exact fun h => F1.out (listed_old h (by decide))
    ·exact fun h => by obtain ⟨n, a, k, c, e, hz⟩ := F2.out (listed_old h (by decide)); exact ⟨n, a, k, c, e, hz⟩
    ·exact fun h => by obtain ⟨n, a, k, c, e, hz⟩ := F3.out (listed_old h (by decide)); exact ⟨n, a, k, c, e, hz⟩
    ·exact fun h => F4.out (listed_old h (by decide))
    ·exact fun h => by obtain ⟨n, a, k, c, e, hz⟩ := F5.out (listed_old h (by decide)); exact ⟨n, a, k, c, e, hz⟩
    ·exact fun h => F6.out (listed_old h (by decide))
    ·exact fun h => F7.out (listed_old h (by decide))
    ·exact fun h => by obtain ⟨n, a, k, c, e, hz⟩ := F8.out (listed_old h (by decide)); exact ⟨n, a, k, c, e, hz⟩
    ·exact fun h => by obtain ⟨n, a, k, c, n2, a2, k2, c2, e, hz⟩ := F9.out (listed_old h (by decide)); exact ⟨n, a, k, c, n2, a2, k2, c2, e, hz⟩
    ·exact fun h => by obtain ⟨n, a, k, c, n2, a2, k2, c2, e, hz⟩ := F10.out (listed_old h (by decide)); exact ⟨n, a, k, c, n2, a2, k2, c2, e, hz⟩
    ·exact fun h => by obtain ⟨n, a, k, c, e, hz⟩ := F11.out (listed_old h (by decide)); exact ⟨n, a, k, c, e, hz⟩
    ·exact fun _ => ⟨n210, a210, k210, c210, rfl⟩
    ·exact fun h => F13.out (listed_old h (by decide))
    ·exact fun h => F14.out (listed_old h (by decide))
    ·exact fun h => F15.out (listed_old h (by decide))
    ·exact fun h => F16.out (listed_old h (by decide))
    ·exact fun h => F17.out (listed_old h (by decide))
    ·exact fun h => F18.out (listed_old h (by decide))
    ·exact fun h h' => FD.out (listed_old h (by decide)) (listed_old h' (by decide))
    ·exact fun h => ⟨listed_new (FC16.out (listed_old h (by decide))).1 (by decide), listed_new (FC16.out (listed_old h (by decide))).2 (by decide)⟩
    ·exact fun h => ⟨listed_new (FC17.out (listed_old h (by decide))).1 (by decide), listed_new (FC17.out (listed_old h (by decide))).2 (by decide)⟩
   rcases i with _ | i
   ·simp only [List.getElem?_toArray, List.getElem?_cons_zero, List.getElem?_cons_succ, Option.some.injEq] at ho
    subst ho
    have q10 : l.getD 10 false = true := ha ⟨10, .data⟩ (by simp) rfl
    clear ha
    obtain ⟨n10, a10, k10, c10, n210, a210, k210, c210, rfl, hz10⟩ := F10.out q10
    have HZ := hid hz10
    clear hz10
    refine wpOp_step rfl (fun K' hK => ?_)
    replace hK := hid hK
    go_simp
    replace hK := hK.out
    refine hK _ _ ⟨u0, u1, u2, u3, u4, u5, u6, u7, u8, u9, .tuple #[.agg #[.bool n10, .slice a10 k10 c10], .agg #[.bool n210, .slice a210 k210 c210], .int .i64 0], u11, u12, .int .i64 0, u14, u15, u18, by rw [Array.size_setIfInBounds]; exact HS.out, by simp only [List.setIfInBounds_toArray, List.set_cons_zero, List.set_cons_succ], HBW.out, ?_, ?_, ?_, ?_, ?_, ?_, ?_, ?_, ?_, ?_, ?_, ?_, ?_, ?_, ?_, ?_, ?_, ?_, ?_, ?_, ?_, ?_⟩
    ·exact fun h => F0.out (listed_old h (by decide))
    ·exact fun h => F1.out (listed_old h (by decide))
    ·exact fun h => by obtain ⟨n, a, k, c, e, hz⟩ := F2.out (listed_old h (by decide)); exact ⟨n, a, k, c, e, hz⟩
    ·exact fun h => by obtain ⟨n, a, k, c, e, hz⟩ := F3.out (listed_old h (by decide)); exact ⟨n, a, k, c, e, hz⟩
    ·exact fun h => F4.out (listed_old h (by decide))
    ·exact fun h => by obtain ⟨n, a, k, c, e, hz⟩ := F5.out (listed_old h (by decide)); exact ⟨n, a, k, c, e, hz⟩
    ·exact fun h => F6.out (listed_old h (by decide))
    ·exact fun h => F7.out (listed_old h (by decide))
    ·exact fun h => by obtain ⟨n, a, k, c, e, hz⟩ := F8.out (listed_old h (by decide)); exact ⟨n, a, k, c, e, hz⟩
    ·exact fun h => by obtain ⟨n, a, k, c, n2, a2, k2, c2, e, hz⟩ := F9.out (listed_old h (by decide)); exact ⟨n, a, k, c, n2, a2, k2, c2, e, hz⟩
    ·exact fun h => by obtain ⟨n, a, k, c, n2, a2, k2, c2, e, hz⟩ := F10.out (listed_old h (by decide)); exact ⟨n, a, k, c, n2, a2, k2, c2, e, hz⟩
    ·exact fun h => by obtain ⟨n, a, k, c, e, hz⟩ := F11.out (listed_old h (by decide)); exact ⟨n, a, k, c, e, hz⟩
    ·exact fun h => F12.out (listed_old h (by decide))
    ·exact fun _ => rfl
    ·exact fun h => F14.out (listed_old h (by decide))
    ·exact fun h => F15.out (listed_old h (by decide))
    ·exact fun h => F16.out (listed_old h (by decide))
    ·exact fun h => F17.out (listed_old h (by decide))
    ·exact fun h => F18.out (listed_old h (by decide))
    ·exact fun h h' => FD.out (listed_old h (by decide)) (listed_old h' (by decide))
    ·exact fun h => ⟨listed_new (FC16.out (listed_old h (by decide))).1 (by decide), listed_new (FC16.out (listed_old h (by decide))).2 (by decide)⟩
    ·exact fun h => ⟨listed_new (FC17.out (listed_old h (by decide))).1 (by decide), listed_new (FC17.out (listed_old h (by decide))).2 (by decide)⟩
   rcases i with _ | i
   ·simp only [List.getElem?_toArray, List.getElem?_cons_zero, List.getElem?_cons_succ, Option.some.injEq] at ho
    subst ho
    clear ha
    have hnl14 := hid (show l.getD 14 false = false from not_listed hu)
    refine wpOp_step rfl (fun K' hK => ?_)
    replace hK := hid hK
    go_simp
    replace hK := hK.out
    have hb := allocs_below1 w' (.cells #[.bool false, .slice none 0 0] 30)
    refine hK _ _ ⟨u0, u1, u2, u3, u4, u5, u6, u7, u8, u9, u10, u11, u12, u13, .pointer (some ⟨w'.heap.size, 0, none⟩), u15, u18, by rw [Array.size_setIfInBounds]; exact HS.out, by simp only [List.setIfInBounds_toArray, List.set_cons_zero, List.set_cons_succ], HBW.out.alloc HBW.out.size _, ?_, ?_, ?_, ?_, ?_, ?_, ?_, ?_, ?_, ?_, ?_, ?_, ?_, ?_, ?_, ?_, ?_, ?_, ?_, ?_, ?_, ?_⟩
    ·exact fun h => F0.out (listed_old h (by decide))
    ·exact fun h => F1.out (listed_old h (by decide))
    ·exact fun h => by obtain ⟨n, a, k, c, e, hz⟩ := F2.out (listed_old h (by decide)); exact ⟨n, a, k, c, e, (hz.below hb)⟩
    ·exact fun h => by obtain ⟨n, a, k, c, e, hz⟩ := F3.out (listed_old h (by decide)); exact ⟨n, a, k, c, e, (hz.below hb)⟩
    ·exact fun h => F4.out (listed_old h (by decide))
    ·exact fun h => by obtain ⟨n, a, k, c, e, hz⟩ := F5.out (listed_old h (by decide)); exact ⟨n, a, k, c, e, (hz.below hb)⟩
    ·exact fun h => F6.out (listed_old h (by decide))
    ·exact fun h => F7.out (listed_old h (by decide))
    ·exact fun h => by obtain ⟨n, a, k, c, e, hz⟩ := F8.out (listed_old h (by decide)); exact ⟨n, a, k, c, e, (hz.below hb)⟩
    ·exact fun h => by obtain ⟨n, a, k, c, n2, a2, k2, c2, e, hz⟩ := F9.out (listed_old h (by decide)); exact ⟨n, a, k, c, n2, a2, k2, c2, e, (hz.below hb)⟩
    ·exact fun h => by obtain ⟨n, a, k, c, n2, a2, k2, c2, e, hz⟩ := F10.out (listed_old h (by decide)); exact ⟨n, a, k, c, n2, a2, k2, c2, e, (hz.below hb)⟩
    ·exact fun h => by obtain ⟨n, a, k, c, e, hz⟩ := F11.out (listed_old h (by decide)); exact ⟨n, a, k, c, e, (hz.below hb)⟩
    ·exact fun h => F12.out (listed_old h (by decide))
    ·exact fun h => F13.out (listed_old h (by decide))
    ·exact fun _ => ⟨w'.heap.size, false, none, 0, 0, rfl, HBW.out.size, heap_alloc_new w' _⟩
    ·exact fun h => by obtain ⟨g, n, a, k, c, e, hg, hh⟩ := F15.out (listed_old h (by decide)); exact ⟨g, n, a, k, c, e, hg, blk_next hh hb⟩
    ·exact fun h => absurd (FC16.out (listed_old h (by decide))).1 (by rw [hnl14.out]; decide)
    ·exact fun h => F17.out (listed_old h (by decide))
    ·exact fun h => F18.out (listed_old h (by decide))
    ·intro h h'; obtain ⟨g, n, a, k, c, e, hg, hh⟩ := F15.out (listed_old h' (by decide)); have := (Array.getElem?_eq_some_iff.1 hh).1; exact ⟨_, _, rfl, e, by omega⟩
    ·exact fun h => absurd (FC16.out (listed_old h (by decide))).1 (by rw [hnl14.out]; decide)
    ·exact fun h => absurd (FC17.out (listed_old h (by decide))).1 (by rw [hnl14.out]; decide)
   rcases i with _ | i
   ·simp only [List.getElem?_toArray, List.getElem?_cons_zero, List.getElem?_cons_succ, Option.some.injEq] at ho
    subst ho
    clear ha
    have hnl15 := hid (show l.getD 15 false = false from not_listed hu)
    refine wpOp_step rfl (fun K' hK => ?_)
    replace hK := hid hK
    go_simp
    replace hK := hK.out
    have hb := allocs_below1 w' (.cells #[.bool false, .slice none 0 0] 30)
    refine hK _ _ ⟨u0, u1, u2, u3, u4, u5, u6, u7, u8, u9, u10, u11, u12, u13, u14, .pointer (some ⟨w'.heap.size, 0, none⟩), u18, by rw [Array.size_setIfInBounds]; exact HS.out, by simp only [List.setIfInBounds_toArray, List.set_cons_zero, List.set_cons_succ], HBW.out.alloc HBW.out.size _, ?_, ?_, ?_, ?_, ?_, ?_, ?_, ?_, ?_, ?_, ?_, ?_, ?_, ?_, ?_, ?_, ?_, ?_, ?_, ?_, ?_, ?_⟩
    ·exact fun h => F0.out (listed_old h (by decide))
    ·exact fun h => F1.out (listed_old h (by decide))
    ·exact fun h => by obtain ⟨n, a, k, c, e, hz⟩ := F2.out (listed_old h (by decide)); exact ⟨n, a, k, c, e, (hz.below hb)⟩
    ·exact fun h => by obtain ⟨n, a, k, c, e, hz⟩ := F3.out (listed_old h (by decide)); exact ⟨n, a, k, c, e, (hz.below hb)⟩
    ·exact fun h => F4.out (listed_old h (by decide))
    ·exact fun h => by obtain ⟨n, a, k, c, e, hz⟩ := F5.out (listed_old h (by decide)); exact ⟨n, a, k, c, e, (hz.below hb)⟩
    ·exact fun h => F6.out (listed_old h (by decide))
    ·exact fun h => F7.out (listed_old h (by decide))
    ·exact fun h => by obtain ⟨n, a, k, c, e, hz⟩ := F8.out (listed_old h (by decide)); exact ⟨n, a, k, c, e, (hz.below hb)⟩
    ·exact fun h => by obtain ⟨n, a, k, c, n2, a2, k2, c2, e, hz⟩ := F9.out (listed_old h (by decide)); exact ⟨n, a, k, c, n2, a2, k2, c2, e, (hz.below hb)⟩
    ·exact fun h => by obtain ⟨n, a, k, c, n2, a2, k2, c2, e, hz⟩ := F10.out (listed_old h (by decide)); exact ⟨n, a, k, c, n2, a2, k2, c2, e, (hz.below hb)⟩
    ·exact fun h => by obtain ⟨n, a, k, c, e, hz⟩ := F11.out (listed_old h (by decide)); exact ⟨n, a, k, c, e, (hz.below hb)⟩
    ·exact fun h => F12.out (listed_old h (by decide))
    ·exact fun h => F13.out (listed_old h (by decide))
    ·exact fun h => by obtain ⟨g, n, a, k, c, e, hg, hh⟩ := F14.out (listed_old h (by decide)); exact ⟨g, n, a, k, c, e, hg, blk_next hh hb⟩
    ·exact fun _ => ⟨w'.heap.size, false, none, 0, 0, rfl, HBW.out.size, heap_alloc_new w' _⟩
    ·exact fun h => absurd (FC16.out (listed_old h (by decide))).2 (by rw [hnl15.out]; decide)
    ·exact fun h => F17.out (listed_old h (by decide))
    ·exact fun h => F18.out (listed_old h (by decide))
    ·intro h h'; obtain ⟨g, n, a, k, c, e, hg, hh⟩ := F14.out (listed_old h (by decide)); have := (Array.getElem?_eq_some_iff.1 hh).1; exact ⟨_, _, e, rfl, by omega⟩
    ·exact fun h => absurd (FC16.out (listed_old h (by decide))).2 (by rw [hnl15.out]; decide)
    ·exact fun h => absurd (FC17.out (listed_old h (by decide))).2 (by rw [hnl15.out]; decide)
   rcases i with _ | i
   ·simp only [List.getElem?_toArray, List.getElem?_cons_zero, List.getElem?_cons_succ, Option.some.injEq] at ho
    subst ho
    have q14 : l.getD 14 false = true := ha ⟨14, .data⟩ (by simp) rfl
    have q11 : l.getD 11 false = true := ha ⟨11, .data⟩ (by simp) rfl
    have q15 : l.getD 15 false = true := ha ⟨15, .phase⟩ (by simp) rfl
    clear ha
    obtain ⟨nx, ax, kx, cx, rfl, hzx⟩ := F11.out q11
    have HZX := hid hzx
    clear hzx
    obtain ⟨gs, gs', es, es', hne⟩ := FD.out q14 q15
    obtain ⟨g, n, a, k, c, e, hg, hh⟩ := F14.out q14
    obtain ⟨g2, n2, a2, k2, c2, e2, hg2, hh2⟩ := F15.out q15
    subst e e2
    have hgg : g ≠ g2 := by have x1 := ptr_inj es; have x2 := ptr_inj es'; omega
    have HH := hid hh
    have HH2 := hid hh2
    have HGG := hid hgg
    have HG := hid hg
    have HG2 := hid hg2
    clear hh2 hgg es es' hne hg2
    obtain ⟨d0, d1, z0, z1⟩ := res_facts hh
    clear hh
    refine wpOp_step rfl (fun K' hK => ?_)
    replace hK := hid hK
    go_simp
    replace hK := hK.out
    have hst : Stay g (g + 1) w' ((w'.setCell ⟨g, 0, none⟩ (.bool nx)).setCell ⟨g, 1, none⟩ (.slice ax kx cx)) := set2_stay
    have hni := noInt_one (noInt2 HH.out)
    have hn1 := res_set (x' := .bool nx) (y' := .slice ax kx cx) HH.out
    have hn2 := (hst.block g2 (Array.getElem?_eq_some_iff.1 HH2.out).1 (by have := HGG.out; omega)).trans HH2.out
    refine hK _ _ ⟨u0, u1, u2, u3, u4, u5, u6, u7, u8, u9, u10, .agg #[.bool nx, .slice ax kx cx], u12, u13, .pointer (some ⟨g, 0, none⟩), .pointer (some ⟨g2, 0, none⟩), u18, by rw [Array.size_setIfInBounds]; exact HS.out, by simp only [List.setIfInBounds_toArray, List.set_cons_zero, List.set_cons_succ], HBW.out.trans (hst.below HG.out HBW.out.size), ?_, ?_, ?_, ?_, ?_, ?_, ?_, ?_, ?_, ?_, ?_, ?_, ?_, ?_, ?_, ?_, ?_, ?_, ?_, ?_, ?_, ?_⟩
    ·exact fun h => F0.out (listed_old h (by decide))
    ·exact fun h => F1.out (listed_old h (by decide))
    ·exact fun h => by obtain ⟨n, a, k, c, e, hz⟩ := F2.out (listed_old h (by decide)); exact ⟨n, a, k, c, e, (hz.stay hst hni)⟩
    ·exact fun h => by obtain ⟨n, a, k, c, e, hz⟩ := F3.out (listed_old h (by decide)); exact ⟨n, a, k, c, e, (hz.stay hst hni)⟩
    ·exact fun h => F4.out (listed_old h (by decide))
    ·exact fun h => by obtain ⟨n, a, k, c, e, hz⟩ := F5.out (listed_old h (by decide)); exact ⟨n, a, k, c, e, (hz.stay hst hni)⟩
    ·exact fun h => F6.out (listed_old h (by decide))
    ·exact fun h => F7.out (listed_old h (by decide))
    ·exact fun h => by obtain ⟨n, a, k, c, e, hz⟩ := F8.out (listed_old h (by decide)); exact ⟨n, a, k, c, e, (hz.stay hst hni)⟩
    ·exact fun h => by obtain ⟨n, a, k, c, n2, a2, k2, c2, e, hz⟩ := F9.out (listed_old h (by decide)); exact ⟨n, a, k, c, n2, a2, k2, c2, e, (hz.stay hst hni)⟩
    ·exact fun h => by obtain ⟨n, a, k, c, n2, a2, k2, c2, e, hz⟩ := F10.out (listed_old h (by decide)); exact ⟨n, a, k, c, n2, a2, k2, c2, e, (hz.stay hst hni)⟩
    ·exact fun h => by obtain ⟨n, a, k, c, e, hz⟩ := F11.out (listed_old h (by decide)); exact ⟨n, a, k, c, e, (hz.stay hst hni)⟩
    ·exact fun h => F12.out (listed_old h (by decide))
    ·exact fun h => F13.out (listed_old h (by decide))
    ·exact fun _ => ⟨g, _, _, _, _, rfl, HG.out, hn1⟩
    ·exact fun _ => ⟨g2, _, _, _, _, rfl, HG2.out, hn2⟩
    ·exact fun _ => ⟨g, nx, ax, kx, cx, rfl, hn1, HZX.out.stay hst hni⟩
    ·exact fun h => F17.out (listed_old h (by decide))
    ·exact fun h => F18.out (listed_old h (by decide))
    ·exact fun h h' => FD.out (listed_old h (by decide)) (listed_old h' (by decide))
    ·exact fun _ => ⟨listed_new q14 (by decide), listed_new q15 (by decide)⟩
    ·exact fun h => ⟨listed_new (FC17.out (listed_old h (by decide))).1 (by decide), listed_new (FC17.out (listed_old h (by decide))).2 (by decide)⟩
   rcases i with _ | i
   ·simp only [List.getElem?_toArray, List.getElem?_cons_zero, List.getElem?_cons_succ, Option.some.injEq] at ho
    subst ho
    have q15 : l.getD 15 false = true := ha ⟨15, .data⟩ (by simp) rfl
    have q12 : l.getD 12 false = true := ha ⟨12, .data⟩ (by simp) rfl
    have q14 : l.getD 14 false = true := ha ⟨14, .phase⟩ (by simp) rfl
    clear ha
    obtain ⟨nx, ax, kx, cx, rfl⟩ := F12.out q12
    obtain ⟨gs, gs', es, es', hne⟩ := FD.out q14 q15
    obtain ⟨g, n, a, k, c, e, hg, hh⟩ := F15.out q15
    obtain ⟨g2, n2, a2, k2, c2, e2, hg2, hh2⟩ := F14.out q14
    subst e e2
    have hgg : g ≠ g2 := by have x1 := ptr_inj es; have x2 := ptr_inj es'; omega
    have HH := hid hh
    have HH2 := hid hh2
    have HGG := hid hgg
    have HG := hid hg
    have HG2 := hid hg2
    clear hh2 hgg es es' hne hg2
    obtain ⟨d0, d1, z0, z1⟩ := res_facts hh
    clear hh
    refine wpOp_step rfl (fun K' hK => ?_)
    replace hK := hid hK
    go_simp
    replace hK := hK.out
    have hst : Stay g (g + 1) w' ((w'.setCell ⟨g, 0, none⟩ (.bool nx)).setCell ⟨g, 1, none⟩ (.slice ax kx cx)) := set2_stay
    have hni := noInt_one (noInt2 HH.out)
    have hn1 := res_set (x' := .bool nx) (y' := .slice ax kx cx) HH.out
    have hn2 := (hst.block g2 (Array.getElem?_eq_some_iff.1 HH2.out).1 (by have := HGG.out; omega)).trans HH2.out
    refine hK _ _ ⟨u0, u1, u2, u3, u4, u5, u6, u7, u8, u9, u10, u11, .agg #[.bool nx, .slice ax kx cx], u13, .pointer (some ⟨g2, 0, none⟩), .pointer (some ⟨g, 0, none⟩), u18, by rw [Array.size_setIfInBounds]; exact HS.out, by simp only [List.setIfInBounds_toArray, List.set_cons_zero, List.set_cons_succ], HBW.out.trans (hst.below HG.out HBW.out.size), ?_, ?_, ?_, ?_, ?_, ?_, ?_, ?_, ?_, ?_, ?_, ?_, ?_, ?_, ?_, ?_, ?_, ?_, ?_, ?_, ?_, ?_⟩
    ·exact fun h => F0.out (listed_old h (by decide))
    ·exact fun h => F1.out (listed_old h (by decide))
    ·exact fun h => by obtain ⟨n, a, k, c, e, hz⟩ := F2.out (listed_old h (by decide)); exact ⟨n, a, k, c, e, (hz.stay hst hni)⟩
    ·exact fun h => by obtain ⟨n, a, k, c, e, hz⟩ := F3.out (listed_old h (by decide)); exact ⟨n, a, k, c, e, (hz.stay hst hni)⟩
    ·exact fun h => F4.out (listed_old h (by decide))
    ·exact fun h => by obtain ⟨n, a, k, c, e, hz⟩ := F5.out (listed_old h (by decide)); exact ⟨n, a, k, c, e, (hz.stay hst hni)⟩
    ·exact fun h => F6.out (listed_old h (by decide))
    ·exact fun h => F7.out (listed_old h (by decide))
    ·exact fun h => by obtain ⟨n, a, k, c, e, hz⟩ := F8.out (listed_old h (by decide)); exact ⟨n, a, k, c, e, (hz.stay hst hni)⟩
    ·exact fun h => by obtain ⟨n, a, k, c, n2, a2, k2, c2, e, hz⟩ := F9.out (listed_old h (by decide)); exact ⟨n, a, k, c, n2, a2, k2, c2, e, (hz.stay hst hni)⟩
    ·exact fun h => by obtain ⟨n, a, k, c, n2, a2, k2, c2, e, hz⟩ := F10.out (listed_old h (by decide)); exact ⟨n, a, k, c, n2, a2, k2, c2, e, (hz.stay hst hni)⟩
    ·exact fun h => by obtain ⟨n, a, k, c, e, hz⟩ := F11.out (listed_old h (by decide)); exact ⟨n, a, k, c, e, (hz.stay hst hni)⟩
    ·exact fun h => F12.out (listed_old h (by decide))
    ·exact fun h => F13.out (listed_old h (by decide))
    ·exact fun _ => ⟨g2, _, _, _, _, rfl, HG2.out, hn2⟩
    ·exact fun _ => ⟨g, _, _, _, _, rfl, HG.out, hn1⟩
    ·intro h; obtain ⟨g3, n3, a3, k3, c3, e3, h3, z3⟩ := F16.out (listed_old h (by decide)); have e4 := ptr_inj e3; subst e4; exact ⟨_, n3, a3, k3, c3, rfl, (hst.block _ (Array.getElem?_eq_some_iff.1 h3).1 (by have := HGG.out; omega)).trans h3, z3.stay hst hni⟩
    ·exact fun _ => trivial
    ·exact fun h => F18.out (listed_old h (by decide))
    ·exact fun h h' => FD.out (listed_old h (by decide)) (listed_old h' (by decide))
    ·exact fun h => ⟨listed_new (FC16.out (listed_old h (by decide))).1 (by decide), listed_new (FC16.out (listed_old h (by decide))).2 (by decide)⟩
    ·exact fun _ => ⟨listed_new q14 (by decide), listed_new q15 (by decide)⟩
   rcases i with _ | i
   ·simp only [List.getElem?_toArray, List.getElem?_cons_zero, List.getElem?_cons_succ, Option.some.injEq] at ho
    subst ho
    have q13 : l.getD 13 false = true := ha ⟨13, .data⟩ (by simp) rfl
    clear ha
    obtain rfl := F13.out q13
    refine wpOp_step rfl (fun K' hK => ?_)
    replace hK := hid hK
    go_simp
    replace hK := hK.out
    refine hK _ _ ⟨u0, u1, u2, u3, u4, u5, u6, u7, u8, u9, u10, u11, u12, .int .i64 0, u14, u15, .int .i64 0, by rw [Array.size_setIfInBounds]; exact HS.out, by simp only [List.setIfInBounds_toArray, List.set_cons_zero, List.set_cons_succ], HBW.out, ?_, ?_, ?_, ?_, ?_, ?_, ?_, ?_, ?_, ?_, ?_, ?_, ?_, ?_, ?_, ?_, ?_, ?_, ?_, ?_, ?_, ?_⟩
    ·exact fun h => F0.out (listed_old h (by decide))
    ·exact fun h => F1.out (listed_old h (by decide))
    ·exact fun h => by obtain ⟨n, a, k, c, e, hz⟩ := F2.out (listed_old h (by decide)); exact ⟨n, a, k, c, e, hz⟩
    ·exact fun h => by obtain ⟨n, a, k, c, e, hz⟩ := F3.out (listed_old h (by decide)); exact ⟨n, a, k, c, e, hz⟩
    ·exact fun h => F4.out (listed_old h (by decide))
    ·exact fun h => by obtain ⟨n, a, k, c, e, hz⟩ := F5.out (listed_old h (by decide)); exact ⟨n, a, k, c, e, hz⟩
    ·exact fun h => F6.out (listed_old h (by decide))
    ·exact fun h => F7.out (listed_old h (by decide))
    ·exact fun h => by obtain ⟨n, a, k, c, e, hz⟩ := F8.out (listed_old h (by decide)); exact ⟨n, a, k, c, e, hz⟩
    ·exact fun h => by obtain ⟨n, a, k, c, n2, a2, k2, c2, e, hz⟩ := F9.out (listed_old h (by decide)); exact ⟨n, a, k, c, n2, a2, k2, c2, e, hz⟩
    ·exact fun h => by obtain ⟨n, a, k, c, n2, a2, k2, c2, e, hz⟩ := F10.out (listed_old h (by decide)); exact ⟨n, a, k, c, n2, a2, k2, c2, e, hz⟩
    ·exact fun h => by obtain ⟨n, a, k, c, e, hz⟩ := F11.out (listed_old h (by decide)); exact ⟨n, a, k, c, e, hz⟩
    ·exact fun h => F12.out (listed_old h (by decide))
    ·exact fun h => F13.out (listed_old h (by decide))
    ·exact fun h => F14.out (listed_old h (by decide))
    ·exact fun h => F15.out (listed_old h (by decide))
    ·exact fun h => F16.out (listed_old h (by decide))
    ·exact fun h => F17.out (listed_old h (by decide))
    ·exact fun _ => rfl
    ·exact fun h h' => FD.out (listed_old h (by decide)) (listed_old h' (by decide))
    ·exact fun h => ⟨listed_new (FC16.out (listed_old h (by decide))).1 (by decide), listed_new (FC16.out (listed_old h (by decide))).2 (by decide)⟩
    ·exact fun h => ⟨listed_new (FC17.out (listed_old h (by decide))).1 (by decide), listed_new (FC17.out (listed_old h (by decide))).2 (by decide)⟩
   omega
  ·rintro l a' w' ⟨u0, u1, u2, u3, u4, u5, u6, u7, u8, u9, u10, u11, u12, u13, u14, u15, u18, _, rfl, hB, _, _, _, _, _, _, _, _, _, _, _, _, _, _, f14, f15, f16, _, f18, _, _, _⟩ hall
   obtain ⟨g, n, a, k, c, e1, hh, hz⟩ := f16 (hall 16 (by decide))
   subst e1
   obtain ⟨d0, d1, _, _⟩ := res_facts hh
   simp only [List.setIfInBounds_toArray, List.set_cons_zero, List.set_cons_succ]
   simp only [Exit.then]
   go_wp2_with fail
   go_meet
   exact ⟨g, n, a, k, c, rfl, d0, d1, hz, hB⟩
 case rest =>
  obtain ⟨g, n, a, k, c, rfl, q0, q1, hz, hbc⟩ := hcut
  have HZQ := hid hz
  have BR3 := hid (blk_next BR.out hbc)
  have HA3 := hid (HA.out.below hbc)
  have Ba3 := hid (blk_next Ba.out hbc)
  replace HB := hid (bt HB.out hbc)
  clear hz hbc
  have HQ0 := hid q0
  have HQ1 := hid q1
  clear q0 q1
  obtain ⟨ca0, ca1, _, _⟩ := res_facts Ba3.out
  go_wp2_with fail
  clear ca0 ca1
  (with_reducible refine (rsign_any HA3.out).mono ?_)
  rintro e w6 ⟨rfl, hb⟩
  replace HB := hid (bt HB.out hb)
  replace HZQ := hid (HZQ.out.below hb)
  replace HQ0 := hid (keepc hb HQ0.out)
  replace HQ1 := hid (keepc hb HQ1.out)
  replace BR3 := hid (blk_next BR3.out hb)
  clear hb
  by_cases hneg : q.num < 0
  ·have hsg : q.num.sign < 0 := by rw [Int.sign_eq_neg_one_of_neg hneg]; decide
   have HEE := hid (show -(((2 : Int) * (q.num.natAbs : Int) + (q.den : Int)).tdiv ((2 : Int) * (q.den : Int))) = roundQ q from by rw [← HRE.out]; unfold rroundQ; rw [if_pos hneg])
   have q0 := HQ0.out
   have q1 := HQ1.out
   go_wp2_with fail
   clear q0 q1
   (with_reducible refine (rneg_any HZQ.out).mono ?_)
   rintro e w7 ⟨n_7, a_7, k_7, c_7, rfl, hu_7, hb⟩
   replace HB := hid (bt HB.out hb)
   replace HZQ := hid (HZQ.out.below hb)
   replace HQ0 := hid (keepc hb HQ0.out)
   replace HQ1 := hid (keepc hb HQ1.out)
   replace BR3 := hid (blk_next BR3.out hb)
   have HNN := hid hu_7
   clear hu_7
   clear hb
   have lt1_R : w.heap.size + 1 < w7.heap.size := (Array.getElem?_eq_some_iff.1 BR3.out).1
   obtain ⟨cR0, cR1, fR0, fR1⟩ := res_facts BR3.out
   go_wp2
   try simp only [Exit.inBlock, Exit.then]
   refine bodyPost_ret (results_cell_row rfl _ _ (w.heap.size + 1) 30 _ (0, 0) _ rfl (res_set BR3.out) Tryz.underlying30 rfl (by kernel_rfl)) rfl ?_
   exact ⟨_, _, _, _, rfl, ((HNN.out.stay set2_stay (noInt_one (noInt2 BR3.out))).as HEE.out), (fin2 HB.out (by omega))⟩
  ·have hsg : ¬ q.num.sign < 0 := by have := Int.sign_nonneg_iff.2 (show 0 ≤ q.num by omega); omega
   have HEE := hid (show ((2 : Int) * (q.num.natAbs : Int) + (q.den : Int)).tdiv ((2 : Int) * (q.den : Int)) = roundQ q from by rw [← HRE.out]; unfold rroundQ; rw [if_neg hneg])
   have q0 := HQ0.out
   have q1 := HQ1.out
   have lt1_R : w.heap.size + 1 < w6.heap.size := (Array.getElem?_eq_some_iff.1 BR3.out).1
   obtain ⟨cR0, cR1, fR0, fR1⟩ := res_facts BR3.out
   go_wp2
   try simp only [Exit.inBlock, Exit.then]
   refine bodyPost_ret (results_cell_row rfl _ _ (w.heap.size + 1) 30 _ (0, 0) _ rfl (res_set BR3.out) Tryz.underlying30 rfl (by kernel_rfl)) rfl ?_
   exact ⟨_, _, _, _, rfl, ((HZQ.out.stay set2_stay (noInt_one (noInt2 BR3.out))).as HEE.out), (fin2 HB.out (by omega))⟩
end Go.Proofs.YtikpafocankggaaGreatDoor
