/- The law RationalRounds answers true. -/
import Derived.Test.YtikpafocankggaaGreatDoorRatEqual
import Derived.Test.YtikpafocankggaaGreatDoorAllocCut
import Derived.Test.YtikpafocankggaaGreatDoorRound
import Derived.Test.YtikpafocankggaaGreatDoorRRound
import Derived.Test.YtikpafocankggaaGreatDoorScale
import Derived.IntWalk
import Derived.Deep.DeepCutAuto
namespace Go.Proofs.YtikpafocankggaaGreatDoor
open Go.RowKit Tally Go.Lib
theorem sgn_bd (z : Int) : -1 ≤ z.sign ∧ z.sign ≤ 1 := by
 rcases Int.lt_trichotomy z 0 with h | h | h
 ·rw [Int.sign_eq_neg_one_of_neg h]; decide
 ·subst h; decide
 ·rw [Int.sign_eq_one_of_pos h]; decide
theorem sgn_mul {a b : Int} (ha : -1 ≤ a ∧ a ≤ 1) (hb : -1 ≤ b ∧ b ≤ 1) : -9223372036854775808 ≤ a * b ∧ a * b ≤ 9223372036854775807 := by
 have e1 : a = -1 ∨ a = 0 ∨ a = 1 := by omega
 have e2 : b = -1 ∨ b = 0 ∨ b = 1 := by omega
 rcases e1 with rfl | rfl | rfl <;> rcases e2 with rfl | rfl | rfl <;> decide
theorem rounds_dg {N : Nat} {q : Rat} (h : Rg N q) : Dg N (roundQ q) := by
 unfold Dg
 exact Nat.lt_of_le_of_lt (round_abs q) h.1
theorem rounds_hi (q : Rat) : ¬ 0 < cmpQ (q - ((roundQ q : Int) : Rat)) (Rat.divInt 1 2) := by
 rw [cmpQ_pos]
 have h := round_hi q
 have e : Rat.divInt 1 2 = 1 / 2 := by decide +kernel
 rw [e]
 grind
theorem rounds_lo (q : Rat) : ¬ cmpQ (q - ((roundQ q : Int) : Rat)) (-Rat.divInt 1 2) < 0 := by
 rw [cmpQ_neg]
 have h := round_lo q
 have e : Rat.divInt 1 2 = 1 / 2 := by decide +kernel
 rw [e]
 grind
theorem rounds_mono (x y : Rat) : ¬ cmpQ x y * (roundQ x - roundQ y).sign < 0 := by
 rcases cmpQ_three x y with h | h | h
 ·have : x < y := cmpQ_neg.1 (by omega)
  have := round_mono (Rat.le_of_lt this)
  rw [h]
  have := Int.sign_nonpos_iff.2 (show roundQ x - roundQ y ≤ 0 by omega)
  omega
 ·rw [h]; omega
 ·have : y < x := cmpQ_pos.1 (by omega)
  have := round_mono (Rat.le_of_lt this)
  rw [h]
  have := Int.sign_nonneg_iff.2 (show 0 ≤ roundQ x - roundQ y by omega)
  omega
set_option maxHeartbeats 8000000 in
set_option maxRecDepth 100000 in
theorem lawRationalRounds {w : World} (s : ByteArray) (t : ByteArray) (hs_s : s.size ≤ 9223372036854775807) (hs_t : t.size ≤ 9223372036854775807) (htab : Tab w) (hlen : Mlen w) :
  Calls Tryz.prog 9 #[.string s, .string t] w (True1 w) := by
 have HT := hid htab
 have HML := hid hlen
 clear htab hlen
 go_enter Tryz.func9, Tryz.ntmps9
 go_wp2_with fail
 (with_reducible refine (ratawake_any HT.out).mono ?_)
 rintro e w1 ⟨rfl, hb⟩
 have HB := hid hb
 replace HT := hid (HT.out.below hb)
 replace HML := hid (HML.out.below hb)
 clear hb
 go_wp2_with fail
 (with_reducible refine (ratboth_any s t hs_s hs_t HML.out).mono ?_)
 rintro e w2 ⟨n0_2, a0_2, k0_2, c0_2, n1_2, a1_2, k1_2, c1_2, n2_2, a2_2, k2_2, c2_2, n3_2, a3_2, k3_2, c3_2, n4_2, a4_2, k4_2, c4_2, n5_2, a5_2, k5_2, c5_2, n6_2, a6_2, k6_2, c6_2, n7_2, a7_2, k7_2, c7_2, ok2, rfl, hok2, hb⟩
 have HOK2 := hid hok2
 clear hok2
 replace HB := hid (bt HB.out hb)
 replace HT := hid (HT.out.below hb)
 replace HML := hid (HML.out.below hb)
 clear hb
 cases ok2
 ·go_wp2
  go_ret
  exact ⟨rfl, bt HB.out (allocs_below4 _ _ _ _ _ )⟩
 ·skip
  obtain ⟨s4_2, t4_2, -, -, h0_2, h1_2, h2_2, -⟩ := HOK2.out rfl
  clear HOK2
  have HX := hid h0_2
  clear h0_2
  have HY := hid h1_2
  clear h1_2
  have HA := hid h2_2
  clear h2_2
  have rx : Rg 400 (qval s.data.toList) := rg_qval s4_2 (by decide)
  generalize qval s.data.toList = x at *
  clear s4_2
  have ry : Rg 400 (qval t.data.toList) := rg_qval t4_2 (by decide)
  generalize qval t.data.toList = y at *
  clear t4_2
  clear HML
  go_wp2_with fail
  obtain ⟨W3, hW, hs, hb, b0, b1, b2, b3⟩ := alloc4 w2 (.cells #[.bool n0_2, .slice a0_2 k0_2 c0_2, .bool n1_2, .slice a1_2 k1_2 c1_2] 27) (.cells #[.bool n2_2, .slice a2_2 k2_2 c2_2, .bool n3_2, .slice a3_2 k3_2 c3_2] 27) (.cells #[.bool n4_2, .slice a4_2 k4_2 c4_2, .bool n5_2, .slice a5_2 k5_2 c5_2] 32) (.cells #[.bool n6_2, .slice a6_2 k6_2 c6_2, .bool n7_2, .slice a7_2 k7_2 c7_2] 32)
  rw [← hW]
  replace HB := hid (bt HB.out hb)
  replace HT := hid (HT.out.below hb)
  replace HX := hid (HX.out.below hb)
  replace HY := hid (HY.out.below hb)
  replace HA := hid (HA.out.below hb)
  have Bx := hid b0
  have By := hid b1
  have Ba := hid b2
  have Bzz3 := hid b3
  clear hW hs hb b0 b1 b2 b3
  clear Bzz3
  have H1 := hid (rounds_hi x)
  have H2 := hid (rounds_lo x)
  have H3 := hid (rounds_mono x y)
  have H4 := hid (round_neg x)
  have dgn := rounds_dg rx
  have dgm := rounds_dg ry
  have H5 := hid (cmpQ_three x y)
  obtain ⟨n, hn⟩ : ∃ n, roundQ x = n := ⟨_, rfl⟩
  obtain ⟨m, hm⟩ : ∃ m, roundQ y = m := ⟨_, rfl⟩
  rw [hn] at H1 H2 H3 H4 dgn
  rw [hm] at H3 dgm
  have HRN := hid hn
  have HRM := hid hm
  clear hn hm
  have hws := HB.out.size
  have lt1_x : w2.heap.size < W3.heap.size := (Array.getElem?_eq_some_iff.1 Bx.out).1
  have lt2_y : w2.heap.size + 1 < W3.heap.size := (Array.getElem?_eq_some_iff.1 By.out).1
  have lt3_a : w2.heap.size + 1 + 1 < W3.heap.size := (Array.getElem?_eq_some_iff.1 Ba.out).1
  obtain ⟨⟨cx0, cx1, cx2, cx3⟩, fx0, fx1, fx2, fx3⟩ := res4_facts Bx.out
  obtain ⟨⟨cy0, cy1, cy2, cy3⟩, fy0, fy1, fy2, fy3⟩ := res4_facts By.out
  go_cut [10, 11] (fun s10 s11 wx => BlkZ W3.heap.size 25 n s10 wx ∧ BlkZ W3.heap.size 25 m s11 wx ∧ Below W3.heap.size W3 wx)
  case first =>
   have HL4 := hid (fun (w' : World) (hb : Below W3.heap.size W3 w') => (⟨hb, keepc hb cx0, keepc hb cx1, keepc hb cx2, keepc hb cx3, keepc hb cy0, keepc hb cy1, keepc hb cy2, keepc hb cy3⟩ : Below W3.heap.size W3 w' ∧ w'.cell? ⟨w2.heap.size, 0, none⟩ = some (.bool n0_2) ∧ w'.cell? ⟨w2.heap.size, 1, none⟩ = some (.slice a0_2 k0_2 c0_2) ∧ w'.cell? ⟨w2.heap.size, 2, none⟩ = some (.bool n1_2) ∧ w'.cell? ⟨w2.heap.size, 3, none⟩ = some (.slice a1_2 k1_2 c1_2) ∧ w'.cell? ⟨w2.heap.size + 1, 0, none⟩ = some (.bool n2_2) ∧ w'.cell? ⟨w2.heap.size + 1, 1, none⟩ = some (.slice a2_2 k2_2 c2_2) ∧ w'.cell? ⟨w2.heap.size + 1, 2, none⟩ = some (.bool n3_2) ∧ w'.cell? ⟨w2.heap.size + 1, 3, none⟩ = some (.slice a3_2 k3_2 c3_2)))
   have HI4 := hid (fun (w' : World) (hs : Below W3.heap.size W3 w' ∧ w'.cell? ⟨w2.heap.size, 0, none⟩ = some (.bool n0_2) ∧ w'.cell? ⟨w2.heap.size, 1, none⟩ = some (.slice a0_2 k0_2 c0_2) ∧ w'.cell? ⟨w2.heap.size, 2, none⟩ = some (.bool n1_2) ∧ w'.cell? ⟨w2.heap.size, 3, none⟩ = some (.slice a1_2 k1_2 c1_2) ∧ w'.cell? ⟨w2.heap.size + 1, 0, none⟩ = some (.bool n2_2) ∧ w'.cell? ⟨w2.heap.size + 1, 1, none⟩ = some (.slice a2_2 k2_2 c2_2) ∧ w'.cell? ⟨w2.heap.size + 1, 2, none⟩ = some (.bool n3_2) ∧ w'.cell? ⟨w2.heap.size + 1, 3, none⟩ = some (.slice a3_2 k3_2 c3_2)) => hs.1)
   have HS4 := hid (Below.refl W3.heap.size W3)
   clear cx0 cx1 cx2 cx3 fx0 fx1 fx2 fx3 cy0 cy1 cy2 cy3 fy0 fy1 fy2 fy3 HB Bx By Ba HT HA H1 H2 H3 H4 H5 dgn dgm hws
   go_region_held3 (fun w' => Below W3.heap.size W3 w' ∧ w'.cell? ⟨w2.heap.size, 0, none⟩ = some (.bool n0_2) ∧ w'.cell? ⟨w2.heap.size, 1, none⟩ = some (.slice a0_2 k0_2 c0_2) ∧ w'.cell? ⟨w2.heap.size, 2, none⟩ = some (.bool n1_2) ∧ w'.cell? ⟨w2.heap.size, 3, none⟩ = some (.slice a1_2 k1_2 c1_2) ∧ w'.cell? ⟨w2.heap.size + 1, 0, none⟩ = some (.bool n2_2) ∧ w'.cell? ⟨w2.heap.size + 1, 1, none⟩ = some (.slice a2_2 k2_2 c2_2) ∧ w'.cell? ⟨w2.heap.size + 1, 2, none⟩ = some (.bool n3_2) ∧ w'.cell? ⟨w2.heap.size + 1, 3, none⟩ = some (.slice a3_2 k3_2 c3_2))
    (first | assumption | with_reducible exact HL4.out _ HZ0.out | with_reducible exact HL4.out _ HZ1.out | with_reducible exact HL4.out _ (Below.drew HS4.out) | with_reducible exact HL4.out _ (Below.drew (allocs_below1 _ _)) | with_reducible exact HL4.out _ (Below.drew (allocs_below2 _ _ _)) | with_reducible exact HL4.out _ (bt (HI4.out _ (by assumption)) (allocs_below1 _ _)) | with_reducible exact HL4.out _ (bt HZ1.out (allocs_below1 _ _)) | with_reducible exact HL4.out _ (held_set2 HZ1.out (by first | exact Nat.le_refl _ | exact HZ0.out.size | exact HZ1.out.size | exact Nat.le_succ _ | exact Nat.le_succ_of_le HZ0.out.size | exact Nat.le_succ_of_le HZ1.out.size)) | with_reducible exact HL4.out _ (held_set2 (held_set2 HZ1.out (by first | exact Nat.le_refl _ | exact HZ0.out.size | exact HZ1.out.size | exact Nat.le_succ _ | exact Nat.le_succ_of_le HZ0.out.size | exact Nat.le_succ_of_le HZ1.out.size)) (by first | exact Nat.le_refl _ | exact HZ0.out.size | exact HZ1.out.size | exact Nat.le_succ _ | exact Nat.le_succ_of_le HZ0.out.size | exact Nat.le_succ_of_le HZ1.out.size)) | with_reducible exact HL4.out _ ((held_set2 HZ1.out (by first | exact Nat.le_refl _ | exact HZ0.out.size | exact HZ1.out.size | exact Nat.le_succ _ | exact Nat.le_succ_of_le HZ0.out.size | exact Nat.le_succ_of_le HZ1.out.size)).alloc (by simp; exact HZ1.out.size) _) | with_reducible exact HL4.out _ (bt HZ1.out (allocs_below2 _ _ _)))
    (first | (go_at_call 42; (with_reducible refine (ratround_any (HX.out.below (HI4.out _ (by assumption))) rx (by decide)).mono ?_); rintro e wk0 ⟨m1, b1, j1, q1, rfl, hu1, hbr0⟩; rw [HRN.out] at hu1; have HNA := hid hu1; clear hu1; have HZ0 := hid (bt (HI4.out _ (by assumption)) hbr0); (first | with_reducible (replace HP1 := hid (blk_next HP1.out hbr0); replace HP2 := hid (blk_next HP2.out hbr0)) | with_reducible (have p0 := next_one HP1.out hbr0; obtain ⟨p1, p2, p3⟩ := p0; replace HP1 := hid p1; have HP2 := hid p2; have NEH := hid p3; clear p1 p2 p3) | with_reducible (replace HP1 := hid (blk_next HP1.out hbr0)) | with_reducible (have p0 := two_next_d hbr0; obtain ⟨p1, p2, p3⟩ := p0; have HP1 := hid p1; have HP2 := hid p2; have NEH := hid p3; clear p1 p2 p3) | with_reducible (have p0 := two_next hbr0; obtain ⟨p1, p2, p3⟩ := p0; have HP1 := hid p1; have HP2 := hid p2; have NEH := hid p3; clear p1 p2 p3) | with_reducible (have HP1 := hid (one_next_d hbr0)) | with_reducible (have HP1 := hid (one_next hbr0)) | skip)) | (go_at_call 42; (with_reducible refine (ratround_any (HY.out.below (HI4.out _ (by assumption))) ry (by decide)).mono ?_); rintro e wk1 ⟨m2, b2, j2, q2, rfl, hu2, hbr1⟩; rw [HRM.out] at hu2; have HNB := hid hu2; clear hu2; replace HNA := hid (show IntR wk1 _ _ from by first | exact HNA.out.below hbr1 | exact (HNA.out.below (allocs_below1 _ _)).below hbr1 | exact (HNA.out.below (allocs_below2 _ _ _)).below hbr1); have HZ1 := hid (bt (HI4.out _ (by assumption)) hbr1); (first | with_reducible (replace HP1 := hid (blk_next HP1.out hbr1); replace HP2 := hid (blk_next HP2.out hbr1)) | with_reducible (have p0 := next_one HP1.out hbr1; obtain ⟨p1, p2, p3⟩ := p0; replace HP1 := hid p1; have HP2 := hid p2; have NEH := hid p3; clear p1 p2 p3) | with_reducible (replace HP1 := hid (blk_next HP1.out hbr1)) | with_reducible (have p0 := two_next_d hbr1; obtain ⟨p1, p2, p3⟩ := p0; have HP1 := hid p1; have HP2 := hid p2; have NEH := hid p3; clear p1 p2 p3) | with_reducible (have p0 := two_next hbr1; obtain ⟨p1, p2, p3⟩ := p0; have HP1 := hid p1; have HP2 := hid p2; have NEH := hid p3; clear p1 p2 p3) | with_reducible (have HP1 := hid (one_next_d hbr1)) | with_reducible (have HP1 := hid (one_next hbr1)) | skip); try (have HPC := res_facts HP1.out; obtain ⟨d0, d1, e0, e1⟩ := HPC; have dl := (Array.getElem?_eq_some_iff.1 HP1.out).1); try (have HPC := res_facts HP2.out; obtain ⟨d4, d5, e4, e5⟩ := HPC; have dm := (Array.getElem?_eq_some_iff.1 HP2.out).1; have dn := NEH.out; have do1 := Nat.ne_of_lt NEH.out; have do2 := Ne.symm (Nat.ne_of_lt NEH.out))))
   all_goals (try go_wp2_with fail)
   all_goals go_meet
   all_goals (first | with_reducible exact ends_old HP1.out HP2.out (Nat.ne_of_lt NEH.out) HNA.out HNB.out (by first | exact Nat.le_refl _ | exact HZ0.out.size | exact HZ1.out.size | exact Nat.le_succ _ | exact Nat.le_succ_of_le HZ0.out.size | exact Nat.le_succ_of_le HZ1.out.size) (by first | exact Nat.le_refl _ | exact HZ0.out.size | exact HZ1.out.size | exact Nat.le_succ _ | exact Nat.le_succ_of_le HZ0.out.size | exact Nat.le_succ_of_le HZ1.out.size) HZ1.out | with_reducible exact ends_old HP2.out HP1.out (Ne.symm (Nat.ne_of_lt NEH.out)) HNA.out HNB.out (by first | exact Nat.le_refl _ | exact HZ0.out.size | exact HZ1.out.size | exact Nat.le_succ _ | exact Nat.le_succ_of_le HZ0.out.size | exact Nat.le_succ_of_le HZ1.out.size) (by first | exact Nat.le_refl _ | exact HZ0.out.size | exact HZ1.out.size | exact Nat.le_succ _ | exact Nat.le_succ_of_le HZ0.out.size | exact Nat.le_succ_of_le HZ1.out.size) HZ1.out | with_reducible exact ends_new2 HP1.out HNA.out HNB.out (by first | exact Nat.le_refl _ | exact HZ0.out.size | exact HZ1.out.size | exact Nat.le_succ _ | exact Nat.le_succ_of_le HZ0.out.size | exact Nat.le_succ_of_le HZ1.out.size) (Nat.le_refl _) HZ1.out | with_reducible exact ends_new1 HP1.out HNA.out HNB.out (by first | exact Nat.le_refl _ | exact HZ0.out.size | exact HZ1.out.size | exact Nat.le_succ _ | exact Nat.le_succ_of_le HZ0.out.size | exact Nat.le_succ_of_le HZ1.out.size) (Nat.le_refl _) HZ1.out | with_reducible exact ends_new HNA.out HNB.out (Nat.le_refl _) HZ1.out | with_reducible exact ends_newr HNA.out HNB.out (Nat.le_refl _) HZ1.out)
  case rest =>
  obtain ⟨⟨gn, m3, b3, j3, q3, rfl, hbk1, hy1, hg1⟩, ⟨gm, m4, b4, j4, q4, rfl, hbk2, hy2, hg2⟩, hb⟩ := hcut
  replace HB := hid (bt HB.out hb)
  replace HT := hid (HT.out.below hb)
  replace HX := hid (HX.out.below hb)
  replace HY := hid (HY.out.below hb)
  replace HA := hid (HA.out.below hb)
  replace Bx := hid (blk_next Bx.out hb)
  replace By := hid (blk_next By.out hb)
  replace Ba := hid (blk_next Ba.out hb)
  have HN := hid hy1
  have HMM := hid hy2
  have Bn := hid hbk1
  have Bm := hid hbk2
  clear hb hy1 hy2 hbk1 hbk2 hg1 hg2
  obtain ⟨hf, hhf⟩ : ∃ q, Rat.divInt 1 2 = q := ⟨_, rfl⟩
  have rhf : Rg 1 hf := hhf ▸ rg_lit (by decide +kernel)
  have HHF := hid hhf
  rw [hhf] at H1 H2
  clear hhf
  have rwn : Rg 400 (n : Rat) := rg_int dgn (by decide)
  have rd := rx.sub rwn
  have dg1 : Dg 400 (1 : Int) := by unfold Dg; decide +kernel
  go_wp2_with fail
  (with_reducible refine (of_any (n := 1) (by decide) (by decide)).mono ?_)
  rintro e w5 ⟨n_5, a_5, k_5, c_5, rfl, hu_5, hb⟩
  replace HB := hid (bt HB.out hb)
  replace HT := hid (HT.out.below hb)
  replace HX := hid (HX.out.below hb)
  replace HY := hid (HY.out.below hb)
  replace HA := hid (HA.out.below hb)
  replace HN := hid (HN.out.below hb)
  replace HMM := hid (HMM.out.below hb)
  replace Bx := hid (blk_next Bx.out hb)
  replace By := hid (blk_next By.out hb)
  replace Ba := hid (blk_next Ba.out hb)
  replace Bn := hid (blk_next Bn.out hb)
  replace Bm := hid (blk_next Bm.out hb)
  have HO := hid hu_5
  clear hu_5
  clear hb
  have lt4_x : w2.heap.size < w5.heap.size := (Array.getElem?_eq_some_iff.1 Bx.out).1
  have lt5_y : w2.heap.size + 1 < w5.heap.size := (Array.getElem?_eq_some_iff.1 By.out).1
  have lt6_a : w2.heap.size + 1 + 1 < w5.heap.size := (Array.getElem?_eq_some_iff.1 Ba.out).1
  have lt7_n : gn < w5.heap.size := (Array.getElem?_eq_some_iff.1 Bn.out).1
  have lt8_m : gm < w5.heap.size := (Array.getElem?_eq_some_iff.1 Bm.out).1
  obtain ⟨cn0, cn1, fn0, fn1⟩ := res_facts Bn.out
  have ldn1 : gn < w5.heap.size + 1 := by omega
  go_wp2_with fail
  clear cn0 cn1 fn0 fn1 ldn1
  obtain ⟨W6, hW, hs, hb, b0⟩ := alloc1 w5 (.cells #[.bool n_5, .slice a_5 k_5 c_5] 25)
  rw [← hW]
  replace HB := hid (bt HB.out hb)
  replace HT := hid (HT.out.below hb)
  replace HX := hid (HX.out.below hb)
  replace HY := hid (HY.out.below hb)
  replace HA := hid (HA.out.below hb)
  replace HN := hid (HN.out.below hb)
  replace HMM := hid (HMM.out.below hb)
  replace HO := hid (HO.out.below hb)
  replace Bx := hid (blk_next Bx.out hb)
  replace By := hid (blk_next By.out hb)
  replace Ba := hid (blk_next Ba.out hb)
  replace Bn := hid (blk_next Bn.out hb)
  replace Bm := hid (blk_next Bm.out hb)
  have Bo := hid b0
  clear hW hs hb b0
  (with_reducible refine ((new_any HN.out HO.out (by decide) dgn dg1 (by decide)).mono fun _ _ h => h.plain).mono ?_)
  rintro e w7 ⟨n_7, a_7, k_7, c_7, n2_7, a2_7, k2_7, c2_7, rfl, hu_7, hb⟩
  replace HB := hid (bt HB.out hb)
  replace HT := hid (HT.out.below hb)
  replace HX := hid (HX.out.below hb)
  replace HY := hid (HY.out.below hb)
  replace HA := hid (HA.out.below hb)
  replace HN := hid (HN.out.below hb)
  replace HMM := hid (HMM.out.below hb)
  replace HO := hid (HO.out.below hb)
  replace Bx := hid (blk_next Bx.out hb)
  replace By := hid (blk_next By.out hb)
  replace Ba := hid (blk_next Ba.out hb)
  replace Bn := hid (blk_next Bn.out hb)
  replace Bm := hid (blk_next Bm.out hb)
  replace Bo := hid (blk_next Bo.out hb)
  have HW := hid hu_7
  clear hu_7
  clear hb
  replace HW := hid (HW.out.as (divInt_one n))
  go_wp2_with fail
  have lt9_x : w2.heap.size < w7.heap.size := (Array.getElem?_eq_some_iff.1 Bx.out).1
  have lt10_y : w2.heap.size + 1 < w7.heap.size := (Array.getElem?_eq_some_iff.1 By.out).1
  have lt11_a : w2.heap.size + 1 + 1 < w7.heap.size := (Array.getElem?_eq_some_iff.1 Ba.out).1
  have lt12_n : gn < w7.heap.size := (Array.getElem?_eq_some_iff.1 Bn.out).1
  have lt13_m : gm < w7.heap.size := (Array.getElem?_eq_some_iff.1 Bm.out).1
  have lt14_o : w5.heap.size < w7.heap.size := (Array.getElem?_eq_some_iff.1 Bo.out).1
  obtain ⟨W8, hW, hs, hb, b0⟩ := alloc1 w7 (.cells #[.bool n_7, .slice a_7 k_7 c_7, .bool n2_7, .slice a2_7 k2_7 c2_7] 27)
  rw [← hW]
  replace HB := hid (bt HB.out hb)
  replace HT := hid (HT.out.below hb)
  replace HX := hid (HX.out.below hb)
  replace HY := hid (HY.out.below hb)
  replace HA := hid (HA.out.below hb)
  replace HN := hid (HN.out.below hb)
  replace HMM := hid (HMM.out.below hb)
  replace HO := hid (HO.out.below hb)
  replace HW := hid (HW.out.below hb)
  replace Bx := hid (blk_next Bx.out hb)
  replace By := hid (blk_next By.out hb)
  replace Ba := hid (blk_next Ba.out hb)
  replace Bn := hid (blk_next Bn.out hb)
  replace Bm := hid (blk_next Bm.out hb)
  replace Bo := hid (blk_next Bo.out hb)
  have Bwh := hid b0
  clear hW hs hb b0
  go_wp2_with fail
  (with_reducible refine ((ratof_any (n := 1) (d := 2) (by decide) (by decide) (by decide) (by decide) (by decide)).mono fun _ _ h => h.plain).mono ?_)
  rintro e w9 ⟨n_9, a_9, k_9, c_9, n2_9, a2_9, k2_9, c2_9, rfl, hu_9, hb⟩
  replace HB := hid (bt HB.out hb)
  replace HT := hid (HT.out.below hb)
  replace HX := hid (HX.out.below hb)
  replace HY := hid (HY.out.below hb)
  replace HA := hid (HA.out.below hb)
  replace HN := hid (HN.out.below hb)
  replace HMM := hid (HMM.out.below hb)
  replace HO := hid (HO.out.below hb)
  replace HW := hid (HW.out.below hb)
  replace Bx := hid (blk_next Bx.out hb)
  replace By := hid (blk_next By.out hb)
  replace Ba := hid (blk_next Ba.out hb)
  replace Bn := hid (blk_next Bn.out hb)
  replace Bm := hid (blk_next Bm.out hb)
  replace Bo := hid (blk_next Bo.out hb)
  replace Bwh := hid (blk_next Bwh.out hb)
  have HH := hid hu_9
  clear hu_9
  clear hb
  replace HH := hid (HH.out.as HHF.out)
  have lt15_x : w2.heap.size < w9.heap.size := (Array.getElem?_eq_some_iff.1 Bx.out).1
  have lt16_y : w2.heap.size + 1 < w9.heap.size := (Array.getElem?_eq_some_iff.1 By.out).1
  have lt17_a : w2.heap.size + 1 + 1 < w9.heap.size := (Array.getElem?_eq_some_iff.1 Ba.out).1
  have lt18_n : gn < w9.heap.size := (Array.getElem?_eq_some_iff.1 Bn.out).1
  have lt19_m : gm < w9.heap.size := (Array.getElem?_eq_some_iff.1 Bm.out).1
  have lt20_o : w5.heap.size < w9.heap.size := (Array.getElem?_eq_some_iff.1 Bo.out).1
  have lt21_wh : w7.heap.size < w9.heap.size := (Array.getElem?_eq_some_iff.1 Bwh.out).1
  obtain ⟨⟨cx0, cx1, cx2, cx3⟩, fx0, fx1, fx2, fx3⟩ := res4_facts Bx.out
  obtain ⟨⟨cwh0, cwh1, cwh2, cwh3⟩, fwh0, fwh1, fwh2, fwh3⟩ := res4_facts Bwh.out
  have ldx1 : w2.heap.size < w9.heap.size + 1 := by omega
  have ldwh1 : w7.heap.size < w9.heap.size + 1 := by omega
  go_wp2_with fail
  clear cx0 cx1 cx2 cx3 fx0 fx1 fx2 fx3 cwh0 cwh1 cwh2 cwh3 fwh0 fwh1 fwh2 fwh3 ldx1 ldwh1
  obtain ⟨W10, hW, hs, hb, b0⟩ := alloc1 w9 (.cells #[.bool n_9, .slice a_9 k_9 c_9, .bool n2_9, .slice a2_9 k2_9 c2_9] 27)
  rw [← hW]
  replace HB := hid (bt HB.out hb)
  replace HT := hid (HT.out.below hb)
  replace HX := hid (HX.out.below hb)
  replace HY := hid (HY.out.below hb)
  replace HA := hid (HA.out.below hb)
  replace HN := hid (HN.out.below hb)
  replace HMM := hid (HMM.out.below hb)
  replace HO := hid (HO.out.below hb)
  replace HW := hid (HW.out.below hb)
  replace HH := hid (HH.out.below hb)
  replace Bx := hid (blk_next Bx.out hb)
  replace By := hid (blk_next By.out hb)
  replace Ba := hid (blk_next Ba.out hb)
  replace Bn := hid (blk_next Bn.out hb)
  replace Bm := hid (blk_next Bm.out hb)
  replace Bo := hid (blk_next Bo.out hb)
  replace Bwh := hid (blk_next Bwh.out hb)
  have Bh := hid b0
  clear hW hs hb b0
  (with_reducible refine (sub_r HX.out HW.out rx rwn (by decide)).mono ?_)
  rintro e w11 ⟨n_11, a_11, k_11, c_11, n2_11, a2_11, k2_11, c2_11, rfl, hu_11, hb⟩
  replace HB := hid (bt HB.out hb)
  replace HT := hid (HT.out.below hb)
  replace HX := hid (HX.out.below hb)
  replace HY := hid (HY.out.below hb)
  replace HA := hid (HA.out.below hb)
  replace HN := hid (HN.out.below hb)
  replace HMM := hid (HMM.out.below hb)
  replace HO := hid (HO.out.below hb)
  replace HW := hid (HW.out.below hb)
  replace HH := hid (HH.out.below hb)
  replace Bx := hid (blk_next Bx.out hb)
  replace By := hid (blk_next By.out hb)
  replace Ba := hid (blk_next Ba.out hb)
  replace Bn := hid (blk_next Bn.out hb)
  replace Bm := hid (blk_next Bm.out hb)
  replace Bo := hid (blk_next Bo.out hb)
  replace Bwh := hid (blk_next Bwh.out hb)
  replace Bh := hid (blk_next Bh.out hb)
  have HD := hid hu_11
  clear hu_11
  clear hb
  go_wp2_with fail
  have lt22_x : w2.heap.size < w11.heap.size := (Array.getElem?_eq_some_iff.1 Bx.out).1
  have lt23_y : w2.heap.size + 1 < w11.heap.size := (Array.getElem?_eq_some_iff.1 By.out).1
  have lt24_a : w2.heap.size + 1 + 1 < w11.heap.size := (Array.getElem?_eq_some_iff.1 Ba.out).1
  have lt25_n : gn < w11.heap.size := (Array.getElem?_eq_some_iff.1 Bn.out).1
  have lt26_m : gm < w11.heap.size := (Array.getElem?_eq_some_iff.1 Bm.out).1
  have lt27_o : w5.heap.size < w11.heap.size := (Array.getElem?_eq_some_iff.1 Bo.out).1
  have lt28_wh : w7.heap.size < w11.heap.size := (Array.getElem?_eq_some_iff.1 Bwh.out).1
  have lt29_h : w9.heap.size < w11.heap.size := (Array.getElem?_eq_some_iff.1 Bh.out).1
  obtain ⟨W12, hW, hs, hb, b0⟩ := alloc1 w11 (.cells #[.bool n_11, .slice a_11 k_11 c_11, .bool n2_11, .slice a2_11 k2_11 c2_11] 27)
  rw [← hW]
  replace HB := hid (bt HB.out hb)
  replace HT := hid (HT.out.below hb)
  replace HX := hid (HX.out.below hb)
  replace HY := hid (HY.out.below hb)
  replace HA := hid (HA.out.below hb)
  replace HN := hid (HN.out.below hb)
  replace HMM := hid (HMM.out.below hb)
  replace HO := hid (HO.out.below hb)
  replace HW := hid (HW.out.below hb)
  replace HH := hid (HH.out.below hb)
  replace HD := hid (HD.out.below hb)
  replace Bx := hid (blk_next Bx.out hb)
  replace By := hid (blk_next By.out hb)
  replace Ba := hid (blk_next Ba.out hb)
  replace Bn := hid (blk_next Bn.out hb)
  replace Bm := hid (blk_next Bm.out hb)
  replace Bo := hid (blk_next Bo.out hb)
  replace Bwh := hid (blk_next Bwh.out hb)
  replace Bh := hid (blk_next Bh.out hb)
  have Bd := hid b0
  clear hW hs hb b0
  obtain ⟨c1, hc1⟩ : ∃ zz, cmpQ (x - (n : Rat)) hf = zz := ⟨_, rfl⟩
  have HC1 := hid hc1
  clear hc1
  obtain ⟨c2, hc2⟩ : ∃ zz, cmpQ (x - (n : Rat)) (-hf) = zz := ⟨_, rfl⟩
  have HC2 := hid hc2
  clear hc2
  obtain ⟨c3, hc3⟩ : ∃ zz, cmpQ x y = zz := ⟨_, rfl⟩
  have HC3 := hid hc3
  clear hc3
  obtain ⟨c4, hc4⟩ : ∃ zz, (n - m).sign = zz := ⟨_, rfl⟩
  have HC4 := hid hc4
  clear hc4
  have k1 : ¬ 0 < c1 := by rw [← HC1.out]; have := H1.out; omega
  have k2 : ¬ c2 < 0 := by rw [← HC2.out]; have := H2.out; omega
  have k3 : ¬ c3 * c4 < 0 := by rw [← HC3.out, ← HC4.out]; have := H3.out; omega
  have k4 : -1 ≤ c3 ∧ c3 ≤ 1 := by rcases H5.out with h | h | h <;> rw [HC3.out] at h <;> omega
  have k5 : -1 ≤ c4 ∧ c4 ≤ 1 := by rw [← HC4.out]; exact sgn_bd _
  have wr : IntKind.i64.wrap (c3 * c4) = c3 * c4 := IntWalk.i64_in _ (sgn_mul k4 k5)
  have g1 : decide (0 < c1) = false := decide_eq_false k1
  have g2 : decide (c2 < 0) = false := decide_eq_false k2
  have G3 := hid (decide_eq_false k3)
  clear H1 H2 H3 H5 k1 k2 k3 k4 k5
  have lt30_x : w2.heap.size < W12.heap.size := (Array.getElem?_eq_some_iff.1 Bx.out).1
  have lt31_y : w2.heap.size + 1 < W12.heap.size := (Array.getElem?_eq_some_iff.1 By.out).1
  have lt32_a : w2.heap.size + 1 + 1 < W12.heap.size := (Array.getElem?_eq_some_iff.1 Ba.out).1
  have lt33_n : gn < W12.heap.size := (Array.getElem?_eq_some_iff.1 Bn.out).1
  have lt34_m : gm < W12.heap.size := (Array.getElem?_eq_some_iff.1 Bm.out).1
  have lt35_o : w5.heap.size < W12.heap.size := (Array.getElem?_eq_some_iff.1 Bo.out).1
  have lt36_wh : w7.heap.size < W12.heap.size := (Array.getElem?_eq_some_iff.1 Bwh.out).1
  have lt37_h : w9.heap.size < W12.heap.size := (Array.getElem?_eq_some_iff.1 Bh.out).1
  have lt38_d : w11.heap.size < W12.heap.size := (Array.getElem?_eq_some_iff.1 Bd.out).1
  obtain ⟨⟨cd0, cd1, cd2, cd3⟩, fd0, fd1, fd2, fd3⟩ := res4_facts Bd.out
  obtain ⟨⟨ch0, ch1, ch2, ch3⟩, fh0, fh1, fh2, fh3⟩ := res4_facts Bh.out
  have HL13 := hid (fun (w' : World) (hb : Below W12.heap.size W12 w') => (⟨hb, keepc hb cd0, keepc hb cd1, keepc hb cd2, keepc hb cd3, keepc hb ch0, keepc hb ch1, keepc hb ch2, keepc hb ch3⟩ : Below W12.heap.size W12 w' ∧ w'.cell? ⟨w11.heap.size, 0, none⟩ = some (.bool n_11) ∧ w'.cell? ⟨w11.heap.size, 1, none⟩ = some (.slice a_11 k_11 c_11) ∧ w'.cell? ⟨w11.heap.size, 2, none⟩ = some (.bool n2_11) ∧ w'.cell? ⟨w11.heap.size, 3, none⟩ = some (.slice a2_11 k2_11 c2_11) ∧ w'.cell? ⟨w9.heap.size, 0, none⟩ = some (.bool n_9) ∧ w'.cell? ⟨w9.heap.size, 1, none⟩ = some (.slice a_9 k_9 c_9) ∧ w'.cell? ⟨w9.heap.size, 2, none⟩ = some (.bool n2_9) ∧ w'.cell? ⟨w9.heap.size, 3, none⟩ = some (.slice a2_9 k2_9 c2_9)))
  have HI13 := hid (fun (w' : World) (hs : Below W12.heap.size W12 w' ∧ w'.cell? ⟨w11.heap.size, 0, none⟩ = some (.bool n_11) ∧ w'.cell? ⟨w11.heap.size, 1, none⟩ = some (.slice a_11 k_11 c_11) ∧ w'.cell? ⟨w11.heap.size, 2, none⟩ = some (.bool n2_11) ∧ w'.cell? ⟨w11.heap.size, 3, none⟩ = some (.slice a2_11 k2_11 c2_11) ∧ w'.cell? ⟨w9.heap.size, 0, none⟩ = some (.bool n_9) ∧ w'.cell? ⟨w9.heap.size, 1, none⟩ = some (.slice a_9 k_9 c_9) ∧ w'.cell? ⟨w9.heap.size, 2, none⟩ = some (.bool n2_9) ∧ w'.cell? ⟨w9.heap.size, 3, none⟩ = some (.slice a2_9 k2_9 c2_9)) => hs.1)
  have HS13 := hid (Below.refl W12.heap.size W12)
  have HC13 := hid (Below.drew (Below.refl W12.heap.size W12))
  go_region_held3 (fun w' => Below W12.heap.size W12 w' ∧ w'.cell? ⟨w11.heap.size, 0, none⟩ = some (.bool n_11) ∧ w'.cell? ⟨w11.heap.size, 1, none⟩ = some (.slice a_11 k_11 c_11) ∧ w'.cell? ⟨w11.heap.size, 2, none⟩ = some (.bool n2_11) ∧ w'.cell? ⟨w11.heap.size, 3, none⟩ = some (.slice a2_11 k2_11 c2_11) ∧ w'.cell? ⟨w9.heap.size, 0, none⟩ = some (.bool n_9) ∧ w'.cell? ⟨w9.heap.size, 1, none⟩ = some (.slice a_9 k_9 c_9) ∧ w'.cell? ⟨w9.heap.size, 2, none⟩ = some (.bool n2_9) ∧ w'.cell? ⟨w9.heap.size, 3, none⟩ = some (.slice a2_9 k2_9 c2_9))
   (first | exact HL13.out _ (Below.drew HS13.out) | exact HL13.out _ (bt (HI13.out _ (by assumption)) (by assumption)))
   (first | (go_at_call 40; (with_reducible refine (cmp_r (HD.out.below (HI13.out _ (by assumption))) (HH.out.below (HI13.out _ (by assumption))) rd (rhf.mono (show 1 ≤ 801 by decide)) (by decide)).mono ?_); rintro e w14 ⟨rfl, hbr14⟩; rw [HC1.out]) | (go_at_call 38; (with_reducible refine (ratneg_any (HH.out.below (HI13.out _ (by assumption)))).mono ?_); rintro e w15 ⟨n_15, a_15, k_15, c_15, n2_15, a2_15, k2_15, c2_15, rfl, hu_15, hbr15⟩; have HNH := hid hu_15; clear hu_15) | (go_at_call 40; (with_reducible refine (cmp_r (HD.out.below (HI13.out _ (by assumption))) HNH.out rd (rhf.neg.mono (show 1 ≤ 801 by decide)) (by decide)).mono ?_); rintro e w16 ⟨rfl, hbr16⟩; rw [HC2.out]))
  clear cd0 cd1 cd2 cd3 fd0 fd1 fd2 fd3 ch0 ch1 ch2 ch3 fh0 fh1 fh2 fh3
  have hbR := (bt (bt (bt HC13.out hbr14) hbr15) hbr16)
  replace HT := hid (HT.out.below hbR)
  replace HX := hid (HX.out.below hbR)
  replace HY := hid (HY.out.below hbR)
  replace HA := hid (HA.out.below hbR)
  replace HN := hid (HN.out.below hbR)
  replace HMM := hid (HMM.out.below hbR)
  replace HO := hid (HO.out.below hbR)
  replace HW := hid (HW.out.below hbR)
  replace HH := hid (HH.out.below hbR)
  replace HD := hid (HD.out.below hbR)
  replace HNH := hid (HNH.out.below hbr16)
  replace HB := hid (bt HB.out hbR)
  replace Bx := hid (blk_next Bx.out hbR)
  replace By := hid (blk_next By.out hbR)
  replace Ba := hid (blk_next Ba.out hbR)
  replace Bn := hid (blk_next Bn.out hbR)
  replace Bm := hid (blk_next Bm.out hbR)
  replace Bo := hid (blk_next Bo.out hbR)
  replace Bwh := hid (blk_next Bwh.out hbR)
  replace Bh := hid (blk_next Bh.out hbR)
  replace Bd := hid (blk_next Bd.out hbR)
  clear hbR hbr14 hbr15 hbr16
  clear HNH
  clear g1 g2
  go_wp2_with fail
  have g3 := G3.out
  clear G3
  have lt39_x : w2.heap.size < w16.heap.size := (Array.getElem?_eq_some_iff.1 Bx.out).1
  have lt40_y : w2.heap.size + 1 < w16.heap.size := (Array.getElem?_eq_some_iff.1 By.out).1
  have lt41_a : w2.heap.size + 1 + 1 < w16.heap.size := (Array.getElem?_eq_some_iff.1 Ba.out).1
  have lt42_n : gn < w16.heap.size := (Array.getElem?_eq_some_iff.1 Bn.out).1
  have lt43_m : gm < w16.heap.size := (Array.getElem?_eq_some_iff.1 Bm.out).1
  have lt44_o : w5.heap.size < w16.heap.size := (Array.getElem?_eq_some_iff.1 Bo.out).1
  have lt45_wh : w7.heap.size < w16.heap.size := (Array.getElem?_eq_some_iff.1 Bwh.out).1
  have lt46_h : w9.heap.size < w16.heap.size := (Array.getElem?_eq_some_iff.1 Bh.out).1
  have lt47_d : w11.heap.size < w16.heap.size := (Array.getElem?_eq_some_iff.1 Bd.out).1
  obtain ⟨⟨cx0, cx1, cx2, cx3⟩, fx0, fx1, fx2, fx3⟩ := res4_facts Bx.out
  obtain ⟨⟨cy0, cy1, cy2, cy3⟩, fy0, fy1, fy2, fy3⟩ := res4_facts By.out
  obtain ⟨cn0, cn1, fn0, fn1⟩ := res_facts Bn.out
  obtain ⟨cm0, cm1, fm0, fm1⟩ := res_facts Bm.out
  have HL17 := hid (fun (w' : World) (hb : Below w16.heap.size w16 w') => (⟨hb, keepc hb cx0, keepc hb cx1, keepc hb cx2, keepc hb cx3, keepc hb cy0, keepc hb cy1, keepc hb cy2, keepc hb cy3, keepc hb cn0, keepc hb cn1, keepc hb cm0, keepc hb cm1⟩ : Below w16.heap.size w16 w' ∧ w'.cell? ⟨w2.heap.size, 0, none⟩ = some (.bool n0_2) ∧ w'.cell? ⟨w2.heap.size, 1, none⟩ = some (.slice a0_2 k0_2 c0_2) ∧ w'.cell? ⟨w2.heap.size, 2, none⟩ = some (.bool n1_2) ∧ w'.cell? ⟨w2.heap.size, 3, none⟩ = some (.slice a1_2 k1_2 c1_2) ∧ w'.cell? ⟨w2.heap.size + 1, 0, none⟩ = some (.bool n2_2) ∧ w'.cell? ⟨w2.heap.size + 1, 1, none⟩ = some (.slice a2_2 k2_2 c2_2) ∧ w'.cell? ⟨w2.heap.size + 1, 2, none⟩ = some (.bool n3_2) ∧ w'.cell? ⟨w2.heap.size + 1, 3, none⟩ = some (.slice a3_2 k3_2 c3_2) ∧ w'.cell? ⟨gn, 0, none⟩ = some (.bool m3) ∧ w'.cell? ⟨gn, 1, none⟩ = some (.slice b3 j3 q3) ∧ w'.cell? ⟨gm, 0, none⟩ = some (.bool m4) ∧ w'.cell? ⟨gm, 1, none⟩ = some (.slice b4 j4 q4)))
  have HI17 := hid (fun (w' : World) (hs : Below w16.heap.size w16 w' ∧ w'.cell? ⟨w2.heap.size, 0, none⟩ = some (.bool n0_2) ∧ w'.cell? ⟨w2.heap.size, 1, none⟩ = some (.slice a0_2 k0_2 c0_2) ∧ w'.cell? ⟨w2.heap.size, 2, none⟩ = some (.bool n1_2) ∧ w'.cell? ⟨w2.heap.size, 3, none⟩ = some (.slice a1_2 k1_2 c1_2) ∧ w'.cell? ⟨w2.heap.size + 1, 0, none⟩ = some (.bool n2_2) ∧ w'.cell? ⟨w2.heap.size + 1, 1, none⟩ = some (.slice a2_2 k2_2 c2_2) ∧ w'.cell? ⟨w2.heap.size + 1, 2, none⟩ = some (.bool n3_2) ∧ w'.cell? ⟨w2.heap.size + 1, 3, none⟩ = some (.slice a3_2 k3_2 c3_2) ∧ w'.cell? ⟨gn, 0, none⟩ = some (.bool m3) ∧ w'.cell? ⟨gn, 1, none⟩ = some (.slice b3 j3 q3) ∧ w'.cell? ⟨gm, 0, none⟩ = some (.bool m4) ∧ w'.cell? ⟨gm, 1, none⟩ = some (.slice b4 j4 q4)) => hs.1)
  have HS17 := hid (Below.refl w16.heap.size w16)
  have HC17 := hid (Below.drew (Below.refl w16.heap.size w16))
  go_region_held3 (fun w' => Below w16.heap.size w16 w' ∧ w'.cell? ⟨w2.heap.size, 0, none⟩ = some (.bool n0_2) ∧ w'.cell? ⟨w2.heap.size, 1, none⟩ = some (.slice a0_2 k0_2 c0_2) ∧ w'.cell? ⟨w2.heap.size, 2, none⟩ = some (.bool n1_2) ∧ w'.cell? ⟨w2.heap.size, 3, none⟩ = some (.slice a1_2 k1_2 c1_2) ∧ w'.cell? ⟨w2.heap.size + 1, 0, none⟩ = some (.bool n2_2) ∧ w'.cell? ⟨w2.heap.size + 1, 1, none⟩ = some (.slice a2_2 k2_2 c2_2) ∧ w'.cell? ⟨w2.heap.size + 1, 2, none⟩ = some (.bool n3_2) ∧ w'.cell? ⟨w2.heap.size + 1, 3, none⟩ = some (.slice a3_2 k3_2 c3_2) ∧ w'.cell? ⟨gn, 0, none⟩ = some (.bool m3) ∧ w'.cell? ⟨gn, 1, none⟩ = some (.slice b3 j3 q3) ∧ w'.cell? ⟨gm, 0, none⟩ = some (.bool m4) ∧ w'.cell? ⟨gm, 1, none⟩ = some (.slice b4 j4 q4))
   (first | exact HL17.out _ (Below.drew HS17.out) | exact HL17.out _ (bt (HI17.out _ (by assumption)) (by assumption)))
   (first | (go_at_call 40; (with_reducible refine (cmp_r (HX.out.below (HI17.out _ (by assumption))) (HY.out.below (HI17.out _ (by assumption))) rx ry (by decide)).mono ?_); rintro e w18 ⟨rfl, hbr18⟩; rw [HC3.out]) | (go_at_call 45; (with_reducible refine (cmp_any (HN.out.below (HI17.out _ (by assumption))) (HMM.out.below (HI17.out _ (by assumption)))).mono ?_); rintro e w19 ⟨rfl, hbr19⟩; rw [HC4.out]))
  clear cx0 cx1 cx2 cx3 fx0 fx1 fx2 fx3 cy0 cy1 cy2 cy3 fy0 fy1 fy2 fy3 cn0 cn1 fn0 fn1 cm0 cm1 fm0 fm1
  have hbR := (bt (bt HC17.out hbr18) hbr19)
  replace HT := hid (HT.out.below hbR)
  replace HX := hid (HX.out.below hbR)
  replace HY := hid (HY.out.below hbR)
  replace HA := hid (HA.out.below hbR)
  replace HN := hid (HN.out.below hbR)
  replace HMM := hid (HMM.out.below hbR)
  replace HO := hid (HO.out.below hbR)
  replace HW := hid (HW.out.below hbR)
  replace HH := hid (HH.out.below hbR)
  replace HD := hid (HD.out.below hbR)
  replace HB := hid (bt HB.out hbR)
  replace Bx := hid (blk_next Bx.out hbR)
  replace By := hid (blk_next By.out hbR)
  replace Ba := hid (blk_next Ba.out hbR)
  replace Bn := hid (blk_next Bn.out hbR)
  replace Bm := hid (blk_next Bm.out hbR)
  replace Bo := hid (blk_next Bo.out hbR)
  replace Bwh := hid (blk_next Bwh.out hbR)
  replace Bh := hid (blk_next Bh.out hbR)
  replace Bd := hid (blk_next Bd.out hbR)
  clear hbR hbr18 hbr19
  go_wp2_with fail
  obtain ⟨S1, hS1⟩ : ∃ X : ByteArray, (⟨(itoa n).toArray⟩ : ByteArray) = X := ⟨_, rfl⟩
  obtain ⟨S2, hS2⟩ : ∃ X : ByteArray, (⟨(itoa (-n)).toArray⟩ : ByteArray) = X := ⟨_, rfl⟩
  have HS1 := hid hS1
  have HS2 := hid hS2
  have dgnn : Dg 400 (-n) := by unfold Dg; rw [Int.natAbs_neg]; exact dgn
  clear hS1 hS2
  have lt48_x : w2.heap.size < w19.heap.size := (Array.getElem?_eq_some_iff.1 Bx.out).1
  have lt49_y : w2.heap.size + 1 < w19.heap.size := (Array.getElem?_eq_some_iff.1 By.out).1
  have lt50_a : w2.heap.size + 1 + 1 < w19.heap.size := (Array.getElem?_eq_some_iff.1 Ba.out).1
  have lt51_n : gn < w19.heap.size := (Array.getElem?_eq_some_iff.1 Bn.out).1
  have lt52_m : gm < w19.heap.size := (Array.getElem?_eq_some_iff.1 Bm.out).1
  have lt53_o : w5.heap.size < w19.heap.size := (Array.getElem?_eq_some_iff.1 Bo.out).1
  have lt54_wh : w7.heap.size < w19.heap.size := (Array.getElem?_eq_some_iff.1 Bwh.out).1
  have lt55_h : w9.heap.size < w19.heap.size := (Array.getElem?_eq_some_iff.1 Bh.out).1
  have lt56_d : w11.heap.size < w19.heap.size := (Array.getElem?_eq_some_iff.1 Bd.out).1
  obtain ⟨cn0, cn1, fn0, fn1⟩ := res_facts Bn.out
  obtain ⟨⟨ca0, ca1, ca2, ca3⟩, fa0, fa1, fa2, fa3⟩ := res4_facts Ba.out
  obtain ⟨⟨cx0, cx1, cx2, cx3⟩, fx0, fx1, fx2, fx3⟩ := res4_facts Bx.out
  have HL20 := hid (fun (w' : World) (hb : Below w19.heap.size w19 w') => (⟨hb, keepc hb cn0, keepc hb cn1, keepc hb ca0, keepc hb ca1, keepc hb ca2, keepc hb ca3, keepc hb cx0, keepc hb cx1, keepc hb cx2, keepc hb cx3⟩ : Below w19.heap.size w19 w' ∧ w'.cell? ⟨gn, 0, none⟩ = some (.bool m3) ∧ w'.cell? ⟨gn, 1, none⟩ = some (.slice b3 j3 q3) ∧ w'.cell? ⟨w2.heap.size + 1 + 1, 0, none⟩ = some (.bool n4_2) ∧ w'.cell? ⟨w2.heap.size + 1 + 1, 1, none⟩ = some (.slice a4_2 k4_2 c4_2) ∧ w'.cell? ⟨w2.heap.size + 1 + 1, 2, none⟩ = some (.bool n5_2) ∧ w'.cell? ⟨w2.heap.size + 1 + 1, 3, none⟩ = some (.slice a5_2 k5_2 c5_2) ∧ w'.cell? ⟨w2.heap.size, 0, none⟩ = some (.bool n0_2) ∧ w'.cell? ⟨w2.heap.size, 1, none⟩ = some (.slice a0_2 k0_2 c0_2) ∧ w'.cell? ⟨w2.heap.size, 2, none⟩ = some (.bool n1_2) ∧ w'.cell? ⟨w2.heap.size, 3, none⟩ = some (.slice a1_2 k1_2 c1_2)))
  have HI20 := hid (fun (w' : World) (hs : Below w19.heap.size w19 w' ∧ w'.cell? ⟨gn, 0, none⟩ = some (.bool m3) ∧ w'.cell? ⟨gn, 1, none⟩ = some (.slice b3 j3 q3) ∧ w'.cell? ⟨w2.heap.size + 1 + 1, 0, none⟩ = some (.bool n4_2) ∧ w'.cell? ⟨w2.heap.size + 1 + 1, 1, none⟩ = some (.slice a4_2 k4_2 c4_2) ∧ w'.cell? ⟨w2.heap.size + 1 + 1, 2, none⟩ = some (.bool n5_2) ∧ w'.cell? ⟨w2.heap.size + 1 + 1, 3, none⟩ = some (.slice a5_2 k5_2 c5_2) ∧ w'.cell? ⟨w2.heap.size, 0, none⟩ = some (.bool n0_2) ∧ w'.cell? ⟨w2.heap.size, 1, none⟩ = some (.slice a0_2 k0_2 c0_2) ∧ w'.cell? ⟨w2.heap.size, 2, none⟩ = some (.bool n1_2) ∧ w'.cell? ⟨w2.heap.size, 3, none⟩ = some (.slice a1_2 k1_2 c1_2)) => hs.1)
  have HS20 := hid (Below.refl w19.heap.size w19)
  have HC20 := hid (Below.drew (Below.refl w19.heap.size w19))
  go_region_held3 (fun w' => Below w19.heap.size w19 w' ∧ w'.cell? ⟨gn, 0, none⟩ = some (.bool m3) ∧ w'.cell? ⟨gn, 1, none⟩ = some (.slice b3 j3 q3) ∧ w'.cell? ⟨w2.heap.size + 1 + 1, 0, none⟩ = some (.bool n4_2) ∧ w'.cell? ⟨w2.heap.size + 1 + 1, 1, none⟩ = some (.slice a4_2 k4_2 c4_2) ∧ w'.cell? ⟨w2.heap.size + 1 + 1, 2, none⟩ = some (.bool n5_2) ∧ w'.cell? ⟨w2.heap.size + 1 + 1, 3, none⟩ = some (.slice a5_2 k5_2 c5_2) ∧ w'.cell? ⟨w2.heap.size, 0, none⟩ = some (.bool n0_2) ∧ w'.cell? ⟨w2.heap.size, 1, none⟩ = some (.slice a0_2 k0_2 c0_2) ∧ w'.cell? ⟨w2.heap.size, 2, none⟩ = some (.bool n1_2) ∧ w'.cell? ⟨w2.heap.size, 3, none⟩ = some (.slice a1_2 k1_2 c1_2))
   (first | exact HL20.out _ (Below.drew HS20.out) | exact HL20.out _ (bt (HI20.out _ (by assumption)) (by assumption)))
   (first | (go_at_call 29; (with_reducible refine (text_any (HN.out.below (HI20.out _ (by assumption))) (HT.out.below (HI20.out _ (by assumption))) dgn (by decide)).mono ?_); rintro e w21 ⟨rfl, hbr21⟩; rw [HS1.out]) | (go_at_call 47; (with_reducible refine (rratround_any (HA.out.below (HI20.out _ (by assumption))) rx (by decide)).mono ?_); rintro e w22 ⟨n_22, a_22, k_22, c_22, rfl, hu_22, hbr22⟩; have HRA := hid hu_22; clear hu_22; rw [HRN.out] at HRA) | (go_at_call 46; (with_reducible refine (rtext_any HRA.out dgn (by decide)).mono ?_); rintro e w23 ⟨rfl, hbr23⟩; rw [HS1.out]) | (go_at_call 38; (with_reducible refine (ratneg_any (HX.out.below (HI20.out _ (by assumption)))).mono ?_); rintro e w24 ⟨n_24, a_24, k_24, c_24, n2_24, a2_24, k2_24, c2_24, rfl, hu_24, hbr24⟩; have HNX := hid hu_24; clear hu_24) | (go_at_call 42; (with_reducible refine (ratround_any HNX.out rx.neg (by decide)).mono ?_); rintro e w25 ⟨n_25, a_25, k_25, c_25, rfl, hu_25, hbr25⟩; have HRX := hid hu_25; clear hu_25; rw [H4.out] at HRX) | (go_at_call 29; (with_reducible refine (text_any HRX.out (HT.out.below (HI20.out _ (by assumption))) dgnn (by decide)).mono ?_); rintro e w26 ⟨rfl, hbr26⟩; rw [HS2.out]) | (go_at_call 48; (with_reducible refine (neg_any (HN.out.below (HI20.out _ (by assumption)))).mono ?_); rintro e w27 ⟨n_27, a_27, k_27, c_27, rfl, hu_27, hbr27⟩; have HNN := hid hu_27; clear hu_27) | (go_at_call 29; (with_reducible refine (text_any HNN.out (HT.out.below (HI20.out _ (by assumption))) dgnn (by decide)).mono ?_); rintro e w28 ⟨rfl, hbr28⟩; rw [HS2.out]))
  clear cn0 cn1 fn0 fn1 ca0 ca1 ca2 ca3 fa0 fa1 fa2 fa3 cx0 cx1 cx2 cx3 fx0 fx1 fx2 fx3
  have hbR := (bt (bt (bt (bt (bt (bt (bt (bt HC20.out hbr21) hbr22) hbr23) hbr24) hbr25) hbr26) hbr27) hbr28)
  replace HT := hid (HT.out.below hbR)
  replace HX := hid (HX.out.below hbR)
  replace HY := hid (HY.out.below hbR)
  replace HA := hid (HA.out.below hbR)
  replace HN := hid (HN.out.below hbR)
  replace HMM := hid (HMM.out.below hbR)
  replace HO := hid (HO.out.below hbR)
  replace HW := hid (HW.out.below hbR)
  replace HH := hid (HH.out.below hbR)
  replace HD := hid (HD.out.below hbR)
  replace HRA := hid ((((((HRA.out.below hbr23).below hbr24).below hbr25).below hbr26).below hbr27).below hbr28)
  replace HNX := hid ((((HNX.out.below hbr25).below hbr26).below hbr27).below hbr28)
  replace HRX := hid (((HRX.out.below hbr26).below hbr27).below hbr28)
  replace HNN := hid (HNN.out.below hbr28)
  replace HB := hid (bt HB.out hbR)
  replace Bx := hid (blk_next Bx.out hbR)
  replace By := hid (blk_next By.out hbR)
  replace Ba := hid (blk_next Ba.out hbR)
  replace Bn := hid (blk_next Bn.out hbR)
  replace Bm := hid (blk_next Bm.out hbR)
  replace Bo := hid (blk_next Bo.out hbR)
  replace Bwh := hid (blk_next Bwh.out hbR)
  replace Bh := hid (blk_next Bh.out hbR)
  replace Bd := hid (blk_next Bd.out hbR)
  clear hbR hbr21 hbr22 hbr23 hbr24 hbr25 hbr26 hbr27 hbr28
  go_wp2
  go_ret
  exact ⟨by simp, HB.out⟩
end Go.Proofs.YtikpafocankggaaGreatDoor
