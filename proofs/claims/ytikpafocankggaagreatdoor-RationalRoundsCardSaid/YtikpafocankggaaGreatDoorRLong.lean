/- The reference's long: the integer with a text of any length. -/
import Derived.Test.YtikpafocankggaaGreatDoorRatD
import Derived.Test.YtikpafocankggaaGreatDoorRRat
import Derived.Test.YtikpafocankggaaGreatDoorPlainQ
import Derived.Deep.DeepCutAuto
import Derived.Deep.RegionWith
namespace Go.Proofs.YtikpafocankggaaGreatDoor
open Go.RowKit Tally Go.Lib
set_option maxHeartbeats 8000000 in
set_option maxRecDepth 100000 in
theorem rlong_any {w : World} (s : ByteArray) (hs : s.size ≤ 5000) (hd : ∀ c ∈ bodyOf s.data.toList, isDigit c) :
  Calls Tryz.prog 91 #[.string s] w (rGivesZ w (decVal (bodyOf s.data.toList) : Int)) := by
 obtain ⟨f, hf⟩ : ∃ f, f = if negOf s.data.toList = true then 1 else 0 := ⟨_, rfl⟩
 have HFN := hid (digV_body s.data.toList hf)
 have HDG := hid (show ∀ c ∈ s.data.toList.drop f, isDigit c by rw [hf, ← body_drop]; exact hd)
 have HSZ := hid (bs_len s)
 have hcase : (∃ h : 0 < s.size, (s[0]'h).toNat = 45 ∧ f = 1) ∨ (s.size = 0 ∧ f = 0) ∨ (∃ h : 0 < s.size, ¬ (s[0]'h).toNat = 45 ∧ f = 0) := by
   by_cases hn : negOf s.data.toList = true
   ·obtain ⟨h, q⟩ := neg_head.1 hn
    exact .inl ⟨by rw [← bs_len]; exact h, q, by rw [hf, if_pos hn]⟩
   ·by_cases h0 : s.size = 0
    ·exact .inr (.inl ⟨h0, by rw [hf, if_neg hn]⟩)
    ·exact .inr (.inr ⟨by omega, fun q => hn (neg_head.2 ⟨by rw [bs_len]; omega, q⟩), by rw [hf, if_neg hn]⟩)
 clear hf hd
 rw [bs_len] at HFN
 go_enter Tryz.func91, Tryz.ntmps91
 go_wp2_with fail
 obtain ⟨W1, hW, hs, hb, b0⟩ := alloc1 w (.cells #[.bool false, .slice none 0 0] 30)
 rw [← hW]
 have HB := hid hb
 have BR := hid b0
 clear hW hs hb b0
 (with_reducible refine (rof_any (n := 0) (by decide) (by decide)).mono ?_)
 rintro e w2 ⟨n_2, a_2, k_2, c_2, rfl, hu_2, hb⟩
 replace HB := hid (bt HB.out hb)
 replace BR := hid (blk_next BR.out hb)
 have HO := hid hu_2
 clear hu_2
 clear hb
 go_wp2_with fail
 have lt1_R : w.heap.size < w2.heap.size := (Array.getElem?_eq_some_iff.1 BR.out).1
 obtain ⟨W3, hW, hs, hb, b0⟩ := alloc1 w2 (.cells #[.bool n_2, .slice a_2 k_2 c_2] 30)
 rw [← hW]
 replace HB := hid (bt HB.out hb)
 replace HO := hid (HO.out.below hb)
 replace BR := hid (blk_next BR.out hb)
 have Bo := hid b0
 clear hW hs hb b0
 (with_reducible refine (rof_any (n := 1000000000000) (by decide) (by decide)).mono ?_)
 rintro e w4 ⟨n_4, a_4, k_4, c_4, rfl, hu_4, hb⟩
 replace HB := hid (bt HB.out hb)
 replace HO := hid (HO.out.below hb)
 replace BR := hid (blk_next BR.out hb)
 replace Bo := hid (blk_next Bo.out hb)
 have HUN := hid hu_4
 clear hu_4
 clear hb
 have lt2_R : w.heap.size < w4.heap.size := (Array.getElem?_eq_some_iff.1 BR.out).1
 have lt3_o : w2.heap.size < w4.heap.size := (Array.getElem?_eq_some_iff.1 Bo.out).1
 obtain ⟨co0, co1, fo0, fo1⟩ := res_facts Bo.out
 go_upto_region 3 with fail
 clear co0 co1 fo0 fo1
 obtain ⟨W5, hW, hs, hb, b0⟩ := alloc1 w4 (.cells #[.bool n_4, .slice a_4 k_4 c_4] 30)
 rw [← hW]
 replace HB := hid (bt HB.out hb)
 replace HO := hid (HO.out.below hb)
 replace HUN := hid (HUN.out.below hb)
 replace BR := hid (blk_next BR.out hb)
 replace Bo := hid (blk_next Bo.out hb)
 have Bun := hid b0
 clear hW hs hb b0
 have lt4_R : w.heap.size < W5.heap.size := (Array.getElem?_eq_some_iff.1 BR.out).1
 have lt5_o : w2.heap.size < W5.heap.size := (Array.getElem?_eq_some_iff.1 Bo.out).1
 have lt6_un : w4.heap.size < W5.heap.size := (Array.getElem?_eq_some_iff.1 Bun.out).1
 rcases hcase with ⟨h0, h45, hf⟩ | ⟨h0, hf⟩ | ⟨h0, h45, hf⟩
 case' inl =>
  have hz : (0 : Int) < (s.size : Int) := by omega
 case' inr.inl =>
  have hz : ¬ (0 : Int) < (s.size : Int) := by omega
 case' inr.inr =>
  have hz : (0 : Int) < (s.size : Int) := by omega
  have hx45 : (((s[0]'h0).toNat : Int) == 45) = false := by rw [beq_eq_false_iff_ne]; omega
 all_goals
  have HF := hid hf
  have hf1 : f ≤ 1 := by omega
  have hfs : f ≤ s.size := by omega
  clear hf
  go_wp2_with fail
  first | clear hz h0 | skip
  go_loopw [5] (fun fr wr => ∃ (a : Nat) (n : Bool) (p : Option Addr) (k c : Nat), fr = .int .i64 a ∧ f ≤ a ∧ a ≤ s.size ∧ wr.heap[w2.heap.size]? = some (.cells #[.bool n, .slice p k c] 30 (0, 0)) ∧ RefR wr (.agg #[.bool n, .slice p k c]) (digV s.data.toList f a : Int) ∧ Stay (w2.heap.size) (w2.heap.size + 1) W5 wr) (fun fr _ => s.size - (RowKit.intOf fr).toNat)
  case atStart => exact ⟨f, _, _, _, _, (by rw [HF.out]; rfl), Nat.le_refl _, hfs, Bo.out, (HO.out.as (by rw [digV_same]; rfl)), Stay.refl _ _ _⟩
  case round =>
   obtain ⟨wo, rfl⟩ : ∃ wo : World, wo = wr := ⟨_, rfl⟩
   obtain ⟨a, n, p, k, c, rfl, ha1, ha2, hbo, ho, hst⟩ := hrel
   have HST := hid hst
   have NO := hid ho
   have NBo := hid hbo
   clear hst ho hbo HO HF
   have HNI := hid (noInt_one (noInt2 Bo.out))
   replace HUN := hid (HUN.out.stay HST.out HNI.out)
   replace BR := hid ((HST.out.block (w.heap.size) (Array.getElem?_eq_some_iff.1 BR.out).1 (by omega)).trans BR.out)
   replace Bun := hid ((HST.out.block (w4.heap.size) (Array.getElem?_eq_some_iff.1 Bun.out).1 (by omega)).trans Bun.out)
   have hsb : w.heap.size ≤ w2.heap.size := by omega
   replace HB := hid (HB.out.trans (HST.out.below hsb HB.out.size))
   clear hsb HNI
   clear Bo
   by_cases hae : a = s.size
   ·subst hae
    have lt1_R : w.heap.size < wo.heap.size := (Array.getElem?_eq_some_iff.1 BR.out).1
    have lt2_o : w2.heap.size < wo.heap.size := (Array.getElem?_eq_some_iff.1 NBo.out).1
    have lt3_un : w4.heap.size < wo.heap.size := (Array.getElem?_eq_some_iff.1 Bun.out).1
    obtain ⟨co0, co1, fo0, fo1⟩ := res_facts NBo.out
    obtain ⟨cR0, cR1, fR0, fR1⟩ := res_facts BR.out
    go_wp2
    try simp only [Exit.inBlock, Exit.then]
    refine bodyPost_ret (results_cell_row rfl _ _ (w.heap.size) 30 _ (0, 0) _ rfl (res_set BR.out) Tryz.underlying30 rfl (by kernel_rfl)) rfl ?_
    exact ⟨_, _, _, _, rfl, ((NO.out.stay set2_stay (noInt_one (noInt2 BR.out))).as (by rw [HFN.out])), (fin2 HB.out (by omega))⟩
   ·have hal : a < s.size := by omega
    have haz : (a : Int) < (s.size : Int) := by omega
    have DO := hid (digV_dg (N := 5000) (S := s.data.toList) (a := f) (b := a) HDG.out (Nat.le_refl _) (by omega))
    have lt1_R : w.heap.size < wo.heap.size := (Array.getElem?_eq_some_iff.1 BR.out).1
    have lt2_o : w2.heap.size < wo.heap.size := (Array.getElem?_eq_some_iff.1 NBo.out).1
    have lt3_un : w4.heap.size < wo.heap.size := (Array.getElem?_eq_some_iff.1 Bun.out).1
    obtain ⟨cun0, cun1, fun0, fun1⟩ := res_facts Bun.out
    go_upto_region 9 with fail
    clear cun0 cun1 fun0 fun1
    obtain ⟨W6, hW, hs, hb, b0⟩ := alloc1 wo (.cells #[.bool n_4, .slice a_4 k_4 c_4] 30)
    rw [← hW]
    have HW0 := hid hW
    replace HB := hid (bt HB.out hb)
    replace HUN := hid (HUN.out.below hb)
    replace NO := hid (NO.out.below hb)
    replace BR := hid (blk_next BR.out hb)
    replace NBo := hid (blk_next NBo.out hb)
    replace Bun := hid (blk_next Bun.out hb)
    have Bfc := hid b0
    clear hW hs hb b0
    have HFC := HUN
    have HBW := hid (show Below wo.heap.size wo W6 from by rw [HW0.out]; exact allocs_below1 _ _)
    by_cases hfull : a + 12 ≤ s.size
    ·have hfz : ¬ (s.size : Int) < (a : Int) + 12 := by omega
     obtain ⟨e, he⟩ : ∃ e, e = a + 12 := ⟨_, rfl⟩
     have heI : (a : Int) + 12 = (e : Int) := by omega
     have HE := hid (show e - a = 12 by omega)
     have hee : e ≤ s.size := by omega
     have hea : a ≤ e := by omega
     clear he hfull
     have HPW := hid (show (1000000000000 : Int) = ((10 ^ (e - a) : Nat) : Int) by rw [HE.out]; rfl)
     have HFP := hid (HFC.out.as HPW.out)
     clear HFC HPW
     have HE12 := hid (show e - a ≤ 12 by have := HE.out; omega)
     go_wp2_with fail
     go_loop [9, 10] (fun nv iv => ∃ t : Nat, a ≤ t ∧ t ≤ e ∧ iv = .int .i64 t ∧ nv = .int .i64 (digV s.data.toList a t : Nat)) (fun _ iv => e - (RowKit.intOf iv).toNat)
     case atStart => exact ⟨a, Nat.le_refl _, hea, rfl, int_eq (by rw [digV_same]; rfl)⟩
     case round =>
      obtain ⟨t, ht1, ht2, rfl, rfl⟩ := hrel
      have HVL := hid (digV_lt (a := a) (b := t) HDG.out ha1 (by have := HE12.out; omega))
      by_cases hte : t = e
      ·subst t
       have HJ := hid (digV_join (S := s.data.toList) ha1 ht1 (by rw [HSZ.out]; exact hee))
       have DV := hid (digV_dg (N := 5000) (a := a) (b := e) HDG.out ha1 (by omega))
       have DP := hid (show Dg 5000 ((10 ^ (e - a) : Nat) : Int) from (show Dg 13 ((10 ^ (e - a) : Nat) : Int) from by
        unfold Dg
        rw [Int.natAbs_natCast]
        exact Nat.pow_lt_pow_right (by decide) (by have := HE12.out; omega)).mono (by omega))
       obtain ⟨v, hv⟩ : ∃ v, digV s.data.toList a e = v := ⟨_, rfl⟩
       rw [hv] at HJ HVL DV ⊢
       have hvl := HVL.out
       have hv0 : (v : Int) ≤ 9223372036854775807 := by omega
       have hv1 : -9223372036854775808 ≤ (v : Int) := by omega
       clear hv HVL
       have lt4_R : w.heap.size < W6.heap.size := (Array.getElem?_eq_some_iff.1 BR.out).1
       have lt5_o : w2.heap.size < W6.heap.size := (Array.getElem?_eq_some_iff.1 NBo.out).1
       have lt6_un : w4.heap.size < W6.heap.size := (Array.getElem?_eq_some_iff.1 Bun.out).1
       have lt7_fc : wo.heap.size < W6.heap.size := (Array.getElem?_eq_some_iff.1 Bfc.out).1
       obtain ⟨co0, co1, fo0, fo1⟩ := res_facts NBo.out
       obtain ⟨cfc0, cfc1, ffc0, ffc1⟩ := res_facts Bfc.out
       go_wp2_with fail
       clear co0 co1 fo0 fo1 cfc0 cfc1 ffc0 ffc1
       (with_reducible refine (rmul_any NO.out HFP.out DO.out DP.out (by omega)).mono ?_)
       rintro e w7 ⟨n_7, a_7, k_7, c_7, rfl, hu_7, hb⟩
       replace HB := hid (bt HB.out hb)
       replace HUN := hid (HUN.out.below hb)
       replace NO := hid (NO.out.below hb)
       replace HBW := hid (bt HBW.out hb)
       replace HFP := hid (HFP.out.below hb)
       replace BR := hid (blk_next BR.out hb)
       replace NBo := hid (blk_next NBo.out hb)
       replace Bun := hid (blk_next Bun.out hb)
       replace Bfc := hid (blk_next Bfc.out hb)
       have HPM2 := hid hu_7
       clear hu_7
       clear hb
       go_wp2_with fail
       (with_reducible refine (rof_any hv1 hv0).mono ?_)
       rintro e w8 ⟨n_8, a_8, k_8, c_8, rfl, hu_8, hb⟩
       replace HB := hid (bt HB.out hb)
       replace HUN := hid (HUN.out.below hb)
       replace NO := hid (NO.out.below hb)
       replace HBW := hid (bt HBW.out hb)
       replace HFP := hid (HFP.out.below hb)
       replace HPM2 := hid (HPM2.out.below hb)
       replace BR := hid (blk_next BR.out hb)
       replace NBo := hid (blk_next NBo.out hb)
       replace Bun := hid (blk_next Bun.out hb)
       replace Bfc := hid (blk_next Bfc.out hb)
       have HPN := hid hu_8
       clear hu_8
       clear hb
       go_wp2_with fail
       (with_reducible refine (radd_any HPM2.out HPN.out (Dg.mul DO.out DP.out) (DV.out.mono (by omega)) (by omega)).mono ?_)
       rintro e w9 ⟨n_9, a_9, k_9, c_9, rfl, hu_9, hb⟩
       replace HB := hid (bt HB.out hb)
       replace HUN := hid (HUN.out.below hb)
       replace NO := hid (NO.out.below hb)
       replace HBW := hid (bt HBW.out hb)
       replace HFP := hid (HFP.out.below hb)
       replace HPM2 := hid (HPM2.out.below hb)
       replace HPN := hid (HPN.out.below hb)
       replace BR := hid (blk_next BR.out hb)
       replace NBo := hid (blk_next NBo.out hb)
       replace Bun := hid (blk_next Bun.out hb)
       replace Bfc := hid (blk_next Bfc.out hb)
       have HPA := hid hu_9
       clear hu_9
       clear hb
       have lt8_R : w.heap.size < w9.heap.size := (Array.getElem?_eq_some_iff.1 BR.out).1
       have lt9_o : w2.heap.size < w9.heap.size := (Array.getElem?_eq_some_iff.1 NBo.out).1
       have lt10_un : w4.heap.size < w9.heap.size := (Array.getElem?_eq_some_iff.1 Bun.out).1
       have lt11_fc : wo.heap.size < w9.heap.size := (Array.getElem?_eq_some_iff.1 Bfc.out).1
       obtain ⟨co0, co1, fo0, fo1⟩ := res_facts NBo.out
       go_wp2
       go_roundw
       case rel => first | exact ⟨e, _, _, _, _, rfl, by omega, by omega, res_set NBo.out, ((HPA.out.stay set2_stay (noInt_one (noInt2 NBo.out))).as (by rw [HJ.out])), stay_set2 (HST.out.next HBW.out) (Nat.le_refl _) (Nat.lt_succ_self _)⟩ | ((repeat apply Exists.intro); exact ⟨⟨e, _, _, _, _, rfl, by omega, by omega, res_set NBo.out, ((HPA.out.stay set2_stay (noInt_one (noInt2 NBo.out))).as (by rw [HJ.out])), stay_set2 (HST.out.next HBW.out) (Nat.le_refl _) (Nat.lt_succ_self _)⟩, rfl⟩)
       case measure => simp [RowKit.intOf]; omega
      ·have htl : t < e := by omega
       have htz : (t : Int) < (e : Int) := by omega
       have hts : t < s.size := by omega
       have htsz : (t : Int) < (s.size : Int) := by omega
       obtain ⟨d, hd⟩ : ∃ d, (s[t]'hts).toNat = d := ⟨_, rfl⟩
       have hd1 : 48 ≤ d ∧ d ≤ 57 := by
        have hl : t < s.data.toList.length := by rw [bs_len]; exact hts
        have h1 := digV_digits (S := s.data.toList) (b := t + 1) HDG.out (show f ≤ t by omega) (s.data.toList[t]) (by
         rw [List.take_succ_eq_append_getElem hl, List.drop_append_of_le_length (by rw [List.length_take]; omega)]
         simp)
        unfold isDigit at h1
        have h2 : s.data.toList[t].toNat = d := hd
        omega
       have HST2 := hid (show digV s.data.toList a (t + 1) = 10 * digV s.data.toList a t + (d - 48) from by
        rw [digV_next (by rw [bs_len]; exact hts) ht1]
        congr 2)
       have hvl := HVL.out
       clear HVL
       generalize digV s.data.toList a t = v at *
       obtain ⟨hd2, hd3⟩ := hd1
       go_wp2
       go_round
       case rel => exact ⟨t + 1, by omega, by omega, by go_num, int_eq (by rw [HST2.out]; omega)⟩
       case measure => simp [RowKit.intOf]; omega
    ·have hfz : (s.size : Int) < (a : Int) + 12 := by omega
     have HE := hid (show s.size - a ≤ 12 by omega)
     have hee : s.size ≤ s.size := Nat.le_refl _
     have hea : a ≤ s.size := by omega
     clear hfull HFC
     go_wp2_with fail
     (with_reducible refine (rof_any (n := 1) (by decide) (by decide)).mono ?_)
     rintro e w7 ⟨n_7, a_7, k_7, c_7, rfl, hu_7, hb⟩
     replace HB := hid (bt HB.out hb)
     replace HUN := hid (HUN.out.below hb)
     replace NO := hid (NO.out.below hb)
     replace HBW := hid (bt HBW.out hb)
     replace BR := hid (blk_next BR.out hb)
     replace NBo := hid (blk_next NBo.out hb)
     replace Bun := hid (blk_next Bun.out hb)
     replace Bfc := hid (blk_next Bfc.out hb)
     have HK1 := hid hu_7
     clear hu_7
     clear hb
     have lt4_R : w.heap.size < w7.heap.size := (Array.getElem?_eq_some_iff.1 BR.out).1
     have lt5_o : w2.heap.size < w7.heap.size := (Array.getElem?_eq_some_iff.1 NBo.out).1
     have lt6_un : w4.heap.size < w7.heap.size := (Array.getElem?_eq_some_iff.1 Bun.out).1
     have lt7_fc : wo.heap.size < w7.heap.size := (Array.getElem?_eq_some_iff.1 Bfc.out).1
     obtain ⟨cfc0, cfc1, ffc0, ffc1⟩ := res_facts Bfc.out
     go_upto_region 12 with fail
     clear cfc0 cfc1 ffc0 ffc1
     obtain ⟨W8, hW⟩ : ∃ W', W' = ((w7.setCell ⟨wo.heap.size, 0, none⟩ (.bool n_7)).setCell ⟨wo.heap.size, 1, none⟩ (.slice a_7 k_7 c_7)) := ⟨_, rfl⟩
     rw [← hW]
     have hst : Stay (wo.heap.size) (wo.heap.size + 1) w7 W8 := by rw [hW]; exact set2_stay
     have hsb : w.heap.size ≤ wo.heap.size := by omega
     replace HB := hid (HB.out.trans (hst.below hsb HB.out.size))
     clear hsb
     replace HUN := hid (HUN.out.stay hst (noInt_one (noInt2 Bfc.out)))
     replace NO := hid (NO.out.stay hst (noInt_one (noInt2 Bfc.out)))
     replace HBW := hid (show Below _ _ W8 by rw [hW]; exact held_set2 HBW.out (by omega))
     replace HK1 := hid (HK1.out.stay hst (noInt_one (noInt2 Bfc.out)))
     have hbn : W8.heap[wo.heap.size]? = some (.cells #[.bool n_7, .slice a_7 k_7 c_7] 30 (0, 0)) := by rw [hW]; exact res_set Bfc.out
     replace BR := hid ((hst.block (w.heap.size) (Array.getElem?_eq_some_iff.1 BR.out).1 (by omega)).trans BR.out)
     replace NBo := hid ((hst.block (w2.heap.size) (Array.getElem?_eq_some_iff.1 NBo.out).1 (by omega)).trans NBo.out)
     replace Bun := hid ((hst.block (w4.heap.size) (Array.getElem?_eq_some_iff.1 Bun.out).1 (by omega)).trans Bun.out)
     replace Bfc := hid hbn
     clear hW hst hbn
     have lt8_R : w.heap.size < W8.heap.size := (Array.getElem?_eq_some_iff.1 BR.out).1
     have lt9_o : w2.heap.size < W8.heap.size := (Array.getElem?_eq_some_iff.1 NBo.out).1
     have lt10_un : w4.heap.size < W8.heap.size := (Array.getElem?_eq_some_iff.1 Bun.out).1
     have lt11_fc : wo.heap.size < W8.heap.size := (Array.getElem?_eq_some_iff.1 Bfc.out).1
     go_wp2_with fail
     go_loopw [8] (fun iv wi => ∃ (i : Nat) (n' : Bool) (p' : Option Addr) (k' c' : Nat), iv = .int .i64 i ∧ a ≤ i ∧ i ≤ s.size ∧ wi.heap[wo.heap.size]? = some (.cells #[.bool n', .slice p' k' c'] 30 (0, 0)) ∧ RefR wi (.agg #[.bool n', .slice p' k' c']) ((10 ^ (i - a) : Nat) : Int) ∧ Stay (wo.heap.size) (wo.heap.size + 1) W8 wi) (fun iv _ => s.size - (RowKit.intOf iv).toNat)
     case atStart => exact ⟨a, _, _, _, _, rfl, Nat.le_refl _, hea, Bfc.out, (HK1.out.as (by rw [Nat.sub_self]; rfl)), Stay.refl _ _ _⟩
     case round =>
      obtain ⟨wj, rfl⟩ : ∃ wj : World, wj = wr := ⟨_, rfl⟩
      obtain ⟨i, n', p', k', c', rfl, hi1, hi2, hbf, hff, hst⟩ := hrel
      have HS7 := hid hst
      have HFP := hid hff
      have NBf := hid hbf
      clear hst hff hbf HK1
      have HNI := hid (noInt_one (noInt2 Bfc.out))
      replace HUN := hid (HUN.out.stay HS7.out HNI.out)
      replace NO := hid (NO.out.stay HS7.out HNI.out)
      replace HBW := hid (HBW.out.trans (HS7.out.below (show wo.heap.size ≤ wo.heap.size by omega) HBW.out.size))
      replace BR := hid ((HS7.out.block (w.heap.size) (Array.getElem?_eq_some_iff.1 BR.out).1 (by omega)).trans BR.out)
      replace NBo := hid ((HS7.out.block (w2.heap.size) (Array.getElem?_eq_some_iff.1 NBo.out).1 (by omega)).trans NBo.out)
      replace Bun := hid ((HS7.out.block (w4.heap.size) (Array.getElem?_eq_some_iff.1 Bun.out).1 (by omega)).trans Bun.out)
      have hsb : w.heap.size ≤ wo.heap.size := by omega
      replace HB := hid (HB.out.trans (HS7.out.below hsb HB.out.size))
      clear hsb HNI
      clear Bfc
      by_cases hie : i = s.size
      ·subst i
       have HE12 := hid (show s.size - a ≤ 12 by have := HE.out; omega)
       go_wp2_with fail
       go_loop [9, 10] (fun nv iv => ∃ t : Nat, a ≤ t ∧ t ≤ s.size ∧ iv = .int .i64 t ∧ nv = .int .i64 (digV s.data.toList a t : Nat)) (fun _ iv => s.size - (RowKit.intOf iv).toNat)
       case atStart => exact ⟨a, Nat.le_refl _, hea, rfl, int_eq (by rw [digV_same]; rfl)⟩
       case round =>
        obtain ⟨t, ht1, ht2, rfl, rfl⟩ := hrel
        have HVL := hid (digV_lt (a := a) (b := t) HDG.out ha1 (by have := HE12.out; omega))
        by_cases hte : t = s.size
        ·subst t
         have HJ := hid (digV_join (S := s.data.toList) ha1 ht1 (by rw [HSZ.out]; exact hee))
         have DV := hid (digV_dg (N := 5000) (a := a) (b := s.size) HDG.out ha1 (by omega))
         have DP := hid (show Dg 5000 ((10 ^ (s.size - a) : Nat) : Int) from (show Dg 13 ((10 ^ (s.size - a) : Nat) : Int) from by
          unfold Dg
          rw [Int.natAbs_natCast]
          exact Nat.pow_lt_pow_right (by decide) (by have := HE12.out; omega)).mono (by omega))
         obtain ⟨v, hv⟩ : ∃ v, digV s.data.toList a s.size = v := ⟨_, rfl⟩
         rw [hv] at HJ HVL DV ⊢
         have hvl := HVL.out
         have hv0 : (v : Int) ≤ 9223372036854775807 := by omega
         have hv1 : -9223372036854775808 ≤ (v : Int) := by omega
         clear hv HVL
         have lt1_R : w.heap.size < wj.heap.size := (Array.getElem?_eq_some_iff.1 BR.out).1
         have lt2_o : w2.heap.size < wj.heap.size := (Array.getElem?_eq_some_iff.1 NBo.out).1
         have lt3_un : w4.heap.size < wj.heap.size := (Array.getElem?_eq_some_iff.1 Bun.out).1
         have lt4_fc : wo.heap.size < wj.heap.size := (Array.getElem?_eq_some_iff.1 NBf.out).1
         obtain ⟨co0, co1, fo0, fo1⟩ := res_facts NBo.out
         obtain ⟨cfc0, cfc1, ffc0, ffc1⟩ := res_facts NBf.out
         go_wp2_with fail
         clear co0 co1 fo0 fo1 cfc0 cfc1 ffc0 ffc1
         (with_reducible refine (rmul_any NO.out HFP.out DO.out DP.out (by omega)).mono ?_)
         rintro e w9 ⟨n_9, a_9, k_9, c_9, rfl, hu_9, hb⟩
         replace HB := hid (bt HB.out hb)
         replace HUN := hid (HUN.out.below hb)
         replace NO := hid (NO.out.below hb)
         replace HBW := hid (bt HBW.out hb)
         replace HFP := hid (HFP.out.below hb)
         replace BR := hid (blk_next BR.out hb)
         replace NBo := hid (blk_next NBo.out hb)
         replace Bun := hid (blk_next Bun.out hb)
         replace NBf := hid (blk_next NBf.out hb)
         have HPM2 := hid hu_9
         clear hu_9
         clear hb
         go_wp2_with fail
         (with_reducible refine (rof_any hv1 hv0).mono ?_)
         rintro e w10 ⟨n_10, a_10, k_10, c_10, rfl, hu_10, hb⟩
         replace HB := hid (bt HB.out hb)
         replace HUN := hid (HUN.out.below hb)
         replace NO := hid (NO.out.below hb)
         replace HBW := hid (bt HBW.out hb)
         replace HFP := hid (HFP.out.below hb)
         replace HPM2 := hid (HPM2.out.below hb)
         replace BR := hid (blk_next BR.out hb)
         replace NBo := hid (blk_next NBo.out hb)
         replace Bun := hid (blk_next Bun.out hb)
         replace NBf := hid (blk_next NBf.out hb)
         have HPN := hid hu_10
         clear hu_10
         clear hb
         go_wp2_with fail
         (with_reducible refine (radd_any HPM2.out HPN.out (Dg.mul DO.out DP.out) (DV.out.mono (by omega)) (by omega)).mono ?_)
         rintro e w11 ⟨n_11, a_11, k_11, c_11, rfl, hu_11, hb⟩
         replace HB := hid (bt HB.out hb)
         replace HUN := hid (HUN.out.below hb)
         replace NO := hid (NO.out.below hb)
         replace HBW := hid (bt HBW.out hb)
         replace HFP := hid (HFP.out.below hb)
         replace HPM2 := hid (HPM2.out.below hb)
         replace HPN := hid (HPN.out.below hb)
         replace BR := hid (blk_next BR.out hb)
         replace NBo := hid (blk_next NBo.out hb)
         replace Bun := hid (blk_next Bun.out hb)
         replace NBf := hid (blk_next NBf.out hb)
         have HPA := hid hu_11
         clear hu_11
         clear hb
         have lt5_R : w.heap.size < w11.heap.size := (Array.getElem?_eq_some_iff.1 BR.out).1
         have lt6_o : w2.heap.size < w11.heap.size := (Array.getElem?_eq_some_iff.1 NBo.out).1
         have lt7_un : w4.heap.size < w11.heap.size := (Array.getElem?_eq_some_iff.1 Bun.out).1
         have lt8_fc : wo.heap.size < w11.heap.size := (Array.getElem?_eq_some_iff.1 NBf.out).1
         obtain ⟨co0, co1, fo0, fo1⟩ := res_facts NBo.out
         go_wp2
         go_roundw
         case rel => first | exact ⟨s.size, _, _, _, _, rfl, by omega, by omega, res_set NBo.out, ((HPA.out.stay set2_stay (noInt_one (noInt2 NBo.out))).as (by rw [HJ.out])), stay_set2 (HST.out.next HBW.out) (Nat.le_refl _) (Nat.lt_succ_self _)⟩ | ((repeat apply Exists.intro); exact ⟨⟨s.size, _, _, _, _, rfl, by omega, by omega, res_set NBo.out, ((HPA.out.stay set2_stay (noInt_one (noInt2 NBo.out))).as (by rw [HJ.out])), stay_set2 (HST.out.next HBW.out) (Nat.le_refl _) (Nat.lt_succ_self _)⟩, rfl⟩)
         case measure => simp [RowKit.intOf]; omega
        ·have htl : t < s.size := by omega
         have htz : (t : Int) < (s.size : Int) := by omega
         have hts : t < s.size := by omega
         have htsz : (t : Int) < (s.size : Int) := by omega
         obtain ⟨d, hd⟩ : ∃ d, (s[t]'hts).toNat = d := ⟨_, rfl⟩
         have hd1 : 48 ≤ d ∧ d ≤ 57 := by
          have hl : t < s.data.toList.length := by rw [bs_len]; exact hts
          have h1 := digV_digits (S := s.data.toList) (b := t + 1) HDG.out (show f ≤ t by omega) (s.data.toList[t]) (by
           rw [List.take_succ_eq_append_getElem hl, List.drop_append_of_le_length (by rw [List.length_take]; omega)]
           simp)
          unfold isDigit at h1
          have h2 : s.data.toList[t].toNat = d := hd
          omega
         have HST2 := hid (show digV s.data.toList a (t + 1) = 10 * digV s.data.toList a t + (d - 48) from by
          rw [digV_next (by rw [bs_len]; exact hts) ht1]
          congr 2)
         have hvl := HVL.out
         clear HVL
         generalize digV s.data.toList a t = v at *
         obtain ⟨hd2, hd3⟩ := hd1
         go_wp2
         go_round
         case rel => exact ⟨t + 1, by omega, by omega, by go_num, int_eq (by rw [HST2.out]; omega)⟩
         case measure => simp [RowKit.intOf]; omega
      ·have hil : i < s.size := by omega
       have hiz : (i : Int) < (s.size : Int) := by omega
       have DF := hid (show Dg 13 ((10 ^ (i - a) : Nat) : Int) from by
        unfold Dg
        rw [Int.natAbs_natCast]
        exact Nat.pow_lt_pow_right (by decide) (by have := HE.out; omega))
       have d10 : Dg 13 (10 : Int) := (show Dg 2 (10 : Int) by unfold Dg; decide).mono (by omega)
       have HPN := hid (show ((10 ^ (i - a) : Nat) : Int) * 10 = ((10 ^ (i + 1 - a) : Nat) : Int) from by rw [show i + 1 - a = (i - a) + 1 by omega, Nat.pow_succ]; exact (Int.natCast_mul _ _).symm)
       have lt1_R : w.heap.size < wj.heap.size := (Array.getElem?_eq_some_iff.1 BR.out).1
       have lt2_o : w2.heap.size < wj.heap.size := (Array.getElem?_eq_some_iff.1 NBo.out).1
       have lt3_un : w4.heap.size < wj.heap.size := (Array.getElem?_eq_some_iff.1 Bun.out).1
       have lt4_fc : wo.heap.size < wj.heap.size := (Array.getElem?_eq_some_iff.1 NBf.out).1
       obtain ⟨cfc0, cfc1, ffc0, ffc1⟩ := res_facts NBf.out
       go_wp2_with fail
       have HDR := hid (Below.drew (Below.refl wj.heap.size wj))
       go_region_with ((first | (go_at_call 82; (with_reducible refine (rof_any (n := 10) (by decide) (by decide)).mono ?_); rintro e v1 ⟨m1, e1, i1, j1, rfl, hu1, hb1⟩; have HTEN := hid hu1; have HF1 := hid (blk_next (w := wj.drew) NBf.out hb1); obtain ⟨z0, z1, _, _⟩ := res_facts HF1.out; clear hu1) | (go_at_call 64; (with_reducible refine (rmul_any ((HFP.out.below HDR.out).below hb1) HTEN.out DF.out d10 (by omega)).mono ?_); rintro e v2 ⟨m2, e2, i2, j2, rfl, hu2, hb2⟩; have HPM := hid hu2; have HF2 := hid (blk_next HF1.out hb2); obtain ⟨y0, y1, y2, y3⟩ := res_facts HF2.out; clear hu2)))
       all_goals
        go_wp2
        go_roundw
        case rel => exact ⟨i + 1, _, _, _, _, by go_num, by omega, by omega, res_set HF2.out, ((HPM.out.stay set2_stay (noInt_one (noInt2 HF2.out))).as HPN.out), stay_set2 (((HS7.out.next HDR.out).next hb1).next hb2) (Nat.le_refl _) (Nat.lt_succ_self _)⟩
        case measure => simp [RowKit.intOf]; omega
end Go.Proofs.YtikpafocankggaaGreatDoor
