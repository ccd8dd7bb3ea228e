/- The reference's Parse of numbers. -/
import Derived.Test.YtikpafocankggaaGreatDoorRCop
import Derived.Test.YtikpafocankggaaGreatDoorRRatC
import Derived.Test.YtikpafocankggaaGreatDoorRRatT
import Derived.Test.YtikpafocankggaaGreatDoorRatParse
import Derived.Deep.DeepCutAuto
namespace Go.Proofs.YtikpafocankggaaGreatDoor
open Go.RowKit Tally Go.Lib

theorem cut_top {s : ByteArray} {p : Nat} (hp : (topOf s.data.toList).length = p) : s.extract 0 p = ⟨(topOf s.data.toList).toArray⟩ := by
  rw [Lib.extract_eq]
  congr 2
  simp only [List.drop_zero, Nat.sub_zero]
  have h := top_rest s.data.toList
  conv => lhs; arg 2; rw [← h]
  rw [← hp]
  exact List.take_left
theorem slash_free {s : ByteArray} {p : Nat} (hp : (topOf s.data.toList).length = p) : ∀ i (h : i < s.size), i < p → (s[i]'h).toNat ≠ 47 := by
  intro i h hi e
  have hl : i < (topOf s.data.toList).length := by omega
  have h1 : (topOf s.data.toList)[i] ≠ 47 := top_free (List.getElem_mem hl)
  have h2 : s.data.toList[i]'(by rw [bs_len]; exact h) = (topOf s.data.toList)[i] := by
    have h3 := top_rest s.data.toList
    have h4 : (topOf s.data.toList ++ restOf s.data.toList)[i]'(by rw [h3, bs_len]; exact h) = (topOf s.data.toList)[i] := List.getElem_append_left hl
    rw [← h4]
    congr 1
    exact h3.symm
  apply h1
  rw [← h2]
  exact UInt8.toNat_inj.1 e
theorem slash_at {s : ByteArray} {p : Nat} (hp : (topOf s.data.toList).length = p) (h : slashed s.data.toList = true) : ∃ hl : p < s.size, (s[p]'hl).toNat = 47 := by
  have e := split_slash h
  have hl : p < s.size := by
    rw [← bs_len, e, List.length_append, hp]
    simp
  refine ⟨hl, ?_⟩
  have h2 : s.data.toList[p]'(by rw [bs_len]; exact hl) = 47 := by
    have h4 : (topOf s.data.toList ++ 47 :: botOf s.data.toList)[p]'(by rw [← e, bs_len]; exact hl) = 47 := by
      rw [List.getElem_append_right (by omega)]
      simp [hp]
    rw [← h4]
    congr 1
  show (s.data.toList[p]'(by rw [bs_len]; exact hl)).toNat = 47
  rw [h2]; rfl
theorem cut_bot {s : ByteArray} {p : Nat} (hp : (topOf s.data.toList).length = p) (h : slashed s.data.toList = true) : s.extract (p + 1) s.size = ⟨(botOf s.data.toList).toArray⟩ := by
  rw [Lib.extract_eq]
  congr 2
  have e := split_slash h
  have e2 : s.data.toList.drop (p + 1) = botOf s.data.toList := by
    conv => lhs; arg 2; rw [e]
    rw [show topOf s.data.toList ++ 47 :: botOf s.data.toList = (topOf s.data.toList ++ [47]) ++ botOf s.data.toList by simp]
    exact List.drop_left' (by simp [hp])
  rw [e2, List.take_of_length_le]
  rw [← e2, List.length_drop, bs_len]
  omega

set_option maxHeartbeats 4000000 in
set_option maxRecDepth 100000 in
theorem rratparse_t3w {w : World} (s : ByteArray) (hs : s.size ≤ 4200) (h2 : slashed s.data.toList = false) (h1 : pcode (topOf s.data.toList) = 3) :
    Calls Tryz.prog 18 #[.string s] w (rGivesRE w (qval s.data.toList) (qcode s.data.toList)) := by
  have HQ := Lib.hid (q_top3 h1)
  obtain ⟨T, hT⟩ : ∃ T : ByteArray, (⟨(topOf s.data.toList).toArray⟩ : ByteArray) = T := ⟨_, rfl⟩
  have hTl : T.data.toList = topOf s.data.toList := by rw [← hT]
  have hTs : T.size ≤ 4200 := by rw [← bs_len, hTl]; have := top_length s.data.toList; rw [bs_len] at this; omega
  obtain ⟨p, hp⟩ : ∃ p, (topOf s.data.toList).length = p := ⟨_, rfl⟩
  have HTX1 := Lib.hid (cut_top hp)
  rw [hT] at HTX1
  have HPF := Lib.hid (slash_free (s := s) hp)
  have hps : p ≤ s.size := by have := top_length s.data.toList; rw [hp, bs_len] at this; exact this
  have hpe : p = s.size := by rw [← hp, no_slash h2, bs_len]
  have hpz : ¬ (p : Int) < (s.size : Int) := by omega
  have HPE := Lib.hid hpe
  clear hpe
  have HTL := Lib.hid hTl
  rw [← hTl] at h1
  have Xh1 := Lib.hid h1
  clear hT hTl hp h2 h1
  go_enter Tryz.func18, Tryz.ntmps18
  go_wp2_with fail
  obtain ⟨W1, hW, hs, hb, b0⟩ := alloc1 w (.cells #[.bool false, .slice none 0 0, .bool false, .slice none 0 0] 32)
  rw [← hW]
  have HB := Lib.hid hb
  have BR := Lib.hid b0
  clear hW hs hb b0
  go_wp2_with fail
  go_loop [4, 5] (fun at' iv => ∃ i : Nat, i ≤ s.size ∧ iv = .int .i64 i ∧ at' = .int .i64 ((if p < i then p else s.size : Nat) : Int)) (fun _ iv => s.size - (RowKit.intOf iv).toNat)
  case atStart => exact ⟨0, Nat.zero_le _, rfl, int_eq (by rw [if_neg (by omega)])⟩
  case round =>
    obtain ⟨i, hi, rfl, rfl⟩ := hrel
    by_cases hil : i < s.size
    · have hiz : (i : Int) < (s.size : Int) := by omega
      obtain ⟨d, hd⟩ : ∃ d, (s[i]'hil).toNat = d := ⟨_, rfl⟩
      have hnx := HPF.out i hil
      rw [hd] at hnx
      have h1 : ((d : Int) == 47) = false := by rw [beq_eq_false_iff_ne]; have := hnx (by have := HPE.out; omega); omega
      rw [if_neg (show ¬ p < i by have := HPE.out; omega)]
      clear hnx
      go_wp2
      go_round
      case rel => exact ⟨i + 1, by omega, by go_num, int_eq (by rw [if_neg (show ¬ p < i + 1 by have := HPE.out; omega)])⟩
      case measure => simp [RowKit.intOf]; omega
    · have hie : i = s.size := by omega
      subst i
      have hAT : (if p < s.size then p else s.size) = p := by have := HPE.out; split <;> omega
      rw [hAT]
      have hz0 : (0 : Int) ≤ (p : Int) := by omega
      have hz1 : (p : Int) ≤ (s.size : Int) := by omega
      have hx1 := HTX1.out
      clear hAT hil
      go_wp2_with fail
      (with_reducible refine (rparse_any T (by omega)).mono ?_)
      rintro e w2 ⟨n_2, a_2, k_2, c_2, rfl, hu_2, hb⟩
      replace HB := Lib.hid (bt HB.out hb)
      replace BR := Lib.hid (blk_next BR.out hb)
      have HA := Lib.hid hu_2
      clear hu_2
      clear hb
      rw [Xh1.out]
      go_wp2_with fail
      have lt1_R : w.heap.size < w2.heap.size := (Array.getElem?_eq_some_iff.1 BR.out).1
      obtain ⟨W3, hW, hs, hb, b0⟩ := alloc1 w2 (.cells #[.bool n_2, .slice a_2 k_2 c_2] 30)
      rw [← hW]
      replace HB := Lib.hid (bt HB.out hb)
      replace HA := Lib.hid (HA.out.below hb)
      replace BR := Lib.hid (blk_next BR.out hb)
      have Ba := Lib.hid b0
      clear hW hs hb b0
      (with_reducible refine (rparse_any ⟨#[49]⟩ (by decide)).mono ?_)
      rintro e w4 ⟨n_4, a_4, k_4, c_4, rfl, hu_4, hb⟩
      replace HB := Lib.hid (bt HB.out hb)
      replace HA := Lib.hid (HA.out.below hb)
      replace BR := Lib.hid (blk_next BR.out hb)
      replace Ba := Lib.hid (blk_next Ba.out hb)
      have HB1 := Lib.hid hu_4
      clear hu_4
      clear hb
      rw [show pcode (⟨#[49]⟩ : ByteArray).data.toList = 0 from pval_one.1]
      replace HB1 := Lib.hid (HB1.out.as (show pval (⟨#[49]⟩ : ByteArray).data.toList = 1 from pval_one.2))
      go_upto_region 13 with fail
      have lt2_R : w.heap.size < w4.heap.size := (Array.getElem?_eq_some_iff.1 BR.out).1
      have lt3_a : w2.heap.size < w4.heap.size := (Array.getElem?_eq_some_iff.1 Ba.out).1
      obtain ⟨W5, hW, hs, hb, b0⟩ := alloc1 w4 (.cells #[.bool n_4, .slice a_4 k_4 c_4] 30)
      rw [← hW]
      replace HB := Lib.hid (bt HB.out hb)
      replace HA := Lib.hid (HA.out.below hb)
      replace HB1 := Lib.hid (HB1.out.below hb)
      replace BR := Lib.hid (blk_next BR.out hb)
      replace Ba := Lib.hid (blk_next Ba.out hb)
      have Bb := Lib.hid b0
      clear hW hs hb b0
      have lt4_R : w.heap.size < W5.heap.size := (Array.getElem?_eq_some_iff.1 BR.out).1
      have lt5_a : w2.heap.size < W5.heap.size := (Array.getElem?_eq_some_iff.1 Ba.out).1
      have lt6_b : w4.heap.size < W5.heap.size := (Array.getElem?_eq_some_iff.1 Bb.out).1
      obtain ⟨⟨cR0, cR1, cR2, cR3⟩, fR0, fR1, fR2, fR3⟩ := res4_facts BR.out
      go_wp2
      try simp only [Exit.inBlock, Exit.then]
      refine bodyPost_ret (results_cell_slot rfl _ _ (w.heap.size) 32 _ (0, 0) _ (.int .i64 3) rfl rfl (res4_set BR.out) Tryz.underlying32 rfl (by kernel_rfl)) rfl ?_
      rw [HQ.out.1, HQ.out.2]
      exact ⟨false, none, 0, 0, false, none, 0, 0, rfl, rratR_zero _, fin4 HB.out (by omega)⟩

set_option maxHeartbeats 4000000 in
set_option maxRecDepth 100000 in
theorem rratparse_t3s {w : World} (s : ByteArray) (hs : s.size ≤ 4200) (h2 : slashed s.data.toList = true) (h1 : pcode (topOf s.data.toList) = 3) :
    Calls Tryz.prog 18 #[.string s] w (rGivesRE w (qval s.data.toList) (qcode s.data.toList)) := by
  have HQ := Lib.hid (q_top3 h1)
  obtain ⟨T, hT⟩ : ∃ T : ByteArray, (⟨(topOf s.data.toList).toArray⟩ : ByteArray) = T := ⟨_, rfl⟩
  have hTl : T.data.toList = topOf s.data.toList := by rw [← hT]
  have hTs : T.size ≤ 4200 := by rw [← bs_len, hTl]; have := top_length s.data.toList; rw [bs_len] at this; omega
  obtain ⟨p, hp⟩ : ∃ p, (topOf s.data.toList).length = p := ⟨_, rfl⟩
  have HTX1 := Lib.hid (cut_top hp)
  rw [hT] at HTX1
  have HPF := Lib.hid (slash_free (s := s) hp)
  have hps : p ≤ s.size := by have := top_length s.data.toList; rw [hp, bs_len] at this; exact this
  obtain ⟨U, hU⟩ : ∃ U : ByteArray, (⟨(botOf s.data.toList).toArray⟩ : ByteArray) = U := ⟨_, rfl⟩
  have hUl : U.data.toList = botOf s.data.toList := by rw [← hU]
  have hUs : U.size ≤ 4200 := by rw [← bs_len, hUl]; have := bot_length s.data.toList; rw [bs_len] at this; omega
  obtain ⟨hpl, hs47⟩ := slash_at (s := s) hp h2
  have HTX2 := Lib.hid (cut_bot hp h2)
  rw [hU] at HTX2
  have hpz : (p : Int) < (s.size : Int) := by omega
  have HTL := Lib.hid hTl
  have HUL := Lib.hid hUl
  rw [← hTl] at h1
  have Xh1 := Lib.hid h1
  clear hT hTl hp h2 h1 hU hUl
  go_enter Tryz.func18, Tryz.ntmps18
  go_wp2_with fail
  obtain ⟨W1, hW, hs, hb, b0⟩ := alloc1 w (.cells #[.bool false, .slice none 0 0, .bool false, .slice none 0 0] 32)
  rw [← hW]
  have HB := Lib.hid hb
  have BR := Lib.hid b0
  clear hW hs hb b0
  go_wp2_with fail
  go_loop [4, 5] (fun at' iv => ∃ i : Nat, i ≤ s.size ∧ iv = .int .i64 i ∧ at' = .int .i64 ((if p < i then p else s.size : Nat) : Int)) (fun _ iv => s.size - (RowKit.intOf iv).toNat)
  case atStart => exact ⟨0, Nat.zero_le _, rfl, int_eq (by rw [if_neg (by omega)])⟩
  case round =>
    obtain ⟨i, hi, rfl, rfl⟩ := hrel
    by_cases hil : i < s.size
    · have hiz : (i : Int) < (s.size : Int) := by omega
      obtain ⟨d, hd⟩ : ∃ d, (s[i]'hil).toNat = d := ⟨_, rfl⟩
      have hnx := HPF.out i hil
      rw [hd] at hnx
      have h47 : i = p → d = 47 := fun q => by subst q; rw [← hd]; exact hs47
      rcases Nat.lt_trichotomy i p with q | q | q
      · have h1 : ((d : Int) == 47) = false := by rw [beq_eq_false_iff_ne]; have := hnx q; omega
        rw [if_neg (show ¬ p < i by omega)]
        clear h47 hnx
        go_wp2
        go_round
        case rel => exact ⟨i + 1, by omega, by go_num, int_eq (by rw [if_neg (show ¬ p < i + 1 by omega)])⟩
        case measure => simp [RowKit.intOf]; omega
      · obtain rfl := h47 q
        rw [if_neg (show ¬ p < i by omega)]
        clear h47 hnx
        go_wp2
        go_round
        case rel => exact ⟨i + 1, by omega, by go_num, int_eq (by rw [if_pos (show p < i + 1 by omega), q])⟩
        case measure => simp [RowKit.intOf]; omega
      · have h2 : ((p : Int) == (s.size : Int)) = false := by rw [beq_eq_false_iff_ne]; omega
        rw [if_pos q]
        clear h47 hnx
        by_cases h1 : d = 47
        · have h3 : ((d : Int) == 47) = true := by rw [h1]; rfl
          clear h1
          go_wp2
          go_round
          case rel => exact ⟨i + 1, by omega, by go_num, int_eq (by rw [if_pos (show p < i + 1 by omega)])⟩
          case measure => simp [RowKit.intOf]; omega
        · have h3 : ((d : Int) == 47) = false := by rw [beq_eq_false_iff_ne]; omega
          clear h1
          go_wp2
          go_round
          case rel => exact ⟨i + 1, by omega, by go_num, int_eq (by rw [if_pos (show p < i + 1 by omega)])⟩
          case measure => simp [RowKit.intOf]; omega
    · have hie : i = s.size := by omega
      subst i
      have hAT : (if p < s.size then p else s.size) = p := by split <;> omega
      rw [hAT]
      have hz0 : (0 : Int) ≤ (p : Int) := by omega
      have hz1 : (p : Int) ≤ (s.size : Int) := by omega
      have hx1 := HTX1.out
      clear hAT hil
      have hx2 := HTX2.out
      have hz2 : (0 : Int) ≤ (p : Int) + 1 := by omega
      have hz3 : (p : Int) + 1 ≤ (s.size : Int) := by omega
      have hp1 : ((p : Int) + 1).toNat = p + 1 := by omega
      go_wp2_with fail
      (with_reducible refine (rparse_any T (by omega)).mono ?_)
      rintro e w2 ⟨n_2, a_2, k_2, c_2, rfl, hu_2, hb⟩
      replace HB := Lib.hid (bt HB.out hb)
      replace BR := Lib.hid (blk_next BR.out hb)
      have HA := Lib.hid hu_2
      clear hu_2
      clear hb
      rw [Xh1.out]
      go_wp2_with fail
      have lt1_R : w.heap.size < w2.heap.size := (Array.getElem?_eq_some_iff.1 BR.out).1
      obtain ⟨W3, hW, hs, hb, b0⟩ := alloc1 w2 (.cells #[.bool n_2, .slice a_2 k_2 c_2] 30)
      rw [← hW]
      replace HB := Lib.hid (bt HB.out hb)
      replace HA := Lib.hid (HA.out.below hb)
      replace BR := Lib.hid (blk_next BR.out hb)
      have Ba := Lib.hid b0
      clear hW hs hb b0
      (with_reducible refine (rparse_any U (by omega)).mono ?_)
      rintro e w4 ⟨n_4, a_4, k_4, c_4, rfl, hu_4, hb⟩
      replace HB := Lib.hid (bt HB.out hb)
      replace HA := Lib.hid (HA.out.below hb)
      replace BR := Lib.hid (blk_next BR.out hb)
      replace Ba := Lib.hid (blk_next Ba.out hb)
      have HB1 := Lib.hid hu_4
      clear hu_4
      clear hb
      obtain ⟨f, hf⟩ : ∃ f, pcode U.data.toList = f := ⟨_, rfl⟩
      rw [hf]
      clear hf
      go_upto_region 13 with fail
      have lt2_R : w.heap.size < w4.heap.size := (Array.getElem?_eq_some_iff.1 BR.out).1
      have lt3_a : w2.heap.size < w4.heap.size := (Array.getElem?_eq_some_iff.1 Ba.out).1
      obtain ⟨W5, hW, hs, hb, b0⟩ := alloc1 w4 (.cells #[.bool n_4, .slice a_4 k_4 c_4] 30)
      rw [← hW]
      replace HB := Lib.hid (bt HB.out hb)
      replace HA := Lib.hid (HA.out.below hb)
      replace HB1 := Lib.hid (HB1.out.below hb)
      replace BR := Lib.hid (blk_next BR.out hb)
      replace Ba := Lib.hid (blk_next Ba.out hb)
      have Bb := Lib.hid b0
      clear hW hs hb b0
      have lt4_R : w.heap.size < W5.heap.size := (Array.getElem?_eq_some_iff.1 BR.out).1
      have lt5_a : w2.heap.size < W5.heap.size := (Array.getElem?_eq_some_iff.1 Ba.out).1
      have lt6_b : w4.heap.size < W5.heap.size := (Array.getElem?_eq_some_iff.1 Bb.out).1
      obtain ⟨⟨cR0, cR1, cR2, cR3⟩, fR0, fR1, fR2, fR3⟩ := res4_facts BR.out
      go_wp2
      try simp only [Exit.inBlock, Exit.then]
      refine bodyPost_ret (results_cell_slot rfl _ _ (w.heap.size) 32 _ (0, 0) _ (.int .i64 3) rfl rfl (res4_set BR.out) Tryz.underlying32 rfl (by kernel_rfl)) rfl ?_
      rw [HQ.out.1, HQ.out.2]
      exact ⟨false, none, 0, 0, false, none, 0, 0, rfl, rratR_zero _, fin4 HB.out (by omega)⟩

set_option maxHeartbeats 4000000 in
set_option maxRecDepth 100000 in
theorem rratparse_w6 {w : World} (s : ByteArray) (hs : s.size ≤ 4200) (h2 : slashed s.data.toList = false) (h1 : pcode (topOf s.data.toList) = 6) :
    Calls Tryz.prog 18 #[.string s] w (rGivesRE w (qval s.data.toList) (qcode s.data.toList)) := by
  have HQ := Lib.hid (q_whole6 h1 h2)
  obtain ⟨T, hT⟩ : ∃ T : ByteArray, (⟨(topOf s.data.toList).toArray⟩ : ByteArray) = T := ⟨_, rfl⟩
  have hTl : T.data.toList = topOf s.data.toList := by rw [← hT]
  have hTs : T.size ≤ 4200 := by rw [← bs_len, hTl]; have := top_length s.data.toList; rw [bs_len] at this; omega
  obtain ⟨p, hp⟩ : ∃ p, (topOf s.data.toList).length = p := ⟨_, rfl⟩
  have HTX1 := Lib.hid (cut_top hp)
  rw [hT] at HTX1
  have HPF := Lib.hid (slash_free (s := s) hp)
  have hps : p ≤ s.size := by have := top_length s.data.toList; rw [hp, bs_len] at this; exact this
  have hpe : p = s.size := by rw [← hp, no_slash h2, bs_len]
  have hpz : ¬ (p : Int) < (s.size : Int) := by omega
  have HPE := Lib.hid hpe
  clear hpe
  have HTL := Lib.hid hTl
  rw [← hTl] at h1
  have Xh1 := Lib.hid h1
  clear hT hTl hp h2 h1
  go_enter Tryz.func18, Tryz.ntmps18
  go_wp2_with fail
  obtain ⟨W1, hW, hs, hb, b0⟩ := alloc1 w (.cells #[.bool false, .slice none 0 0, .bool false, .slice none 0 0] 32)
  rw [← hW]
  have HB := Lib.hid hb
  have BR := Lib.hid b0
  clear hW hs hb b0
  go_wp2_with fail
  go_loop [4, 5] (fun at' iv => ∃ i : Nat, i ≤ s.size ∧ iv = .int .i64 i ∧ at' = .int .i64 ((if p < i then p else s.size : Nat) : Int)) (fun _ iv => s.size - (RowKit.intOf iv).toNat)
  case atStart => exact ⟨0, Nat.zero_le _, rfl, int_eq (by rw [if_neg (by omega)])⟩
  case round =>
    obtain ⟨i, hi, rfl, rfl⟩ := hrel
    by_cases hil : i < s.size
    · have hiz : (i : Int) < (s.size : Int) := by omega
      obtain ⟨d, hd⟩ : ∃ d, (s[i]'hil).toNat = d := ⟨_, rfl⟩
      have hnx := HPF.out i hil
      rw [hd] at hnx
      have h1 : ((d : Int) == 47) = false := by rw [beq_eq_false_iff_ne]; have := hnx (by have := HPE.out; omega); omega
      rw [if_neg (show ¬ p < i by have := HPE.out; omega)]
      clear hnx
      go_wp2
      go_round
      case rel => exact ⟨i + 1, by omega, by go_num, int_eq (by rw [if_neg (show ¬ p < i + 1 by have := HPE.out; omega)])⟩
      case measure => simp [RowKit.intOf]; omega
    · have hie : i = s.size := by omega
      subst i
      have hAT : (if p < s.size then p else s.size) = p := by have := HPE.out; split <;> omega
      rw [hAT]
      have hz0 : (0 : Int) ≤ (p : Int) := by omega
      have hz1 : (p : Int) ≤ (s.size : Int) := by omega
      have hx1 := HTX1.out
      clear hAT hil
      go_wp2_with fail
      (with_reducible refine (rparse_any T (by omega)).mono ?_)
      rintro e w2 ⟨n_2, a_2, k_2, c_2, rfl, hu_2, hb⟩
      replace HB := Lib.hid (bt HB.out hb)
      replace BR := Lib.hid (blk_next BR.out hb)
      have HA := Lib.hid hu_2
      clear hu_2
      clear hb
      rw [Xh1.out]
      go_wp2_with fail
      have lt1_R : w.heap.size < w2.heap.size := (Array.getElem?_eq_some_iff.1 BR.out).1
      obtain ⟨W3, hW, hs, hb, b0⟩ := alloc1 w2 (.cells #[.bool n_2, .slice a_2 k_2 c_2] 30)
      rw [← hW]
      replace HB := Lib.hid (bt HB.out hb)
      replace HA := Lib.hid (HA.out.below hb)
      replace BR := Lib.hid (blk_next BR.out hb)
      have Ba := Lib.hid b0
      clear hW hs hb b0
      (with_reducible refine (rparse_any ⟨#[49]⟩ (by decide)).mono ?_)
      rintro e w4 ⟨n_4, a_4, k_4, c_4, rfl, hu_4, hb⟩
      replace HB := Lib.hid (bt HB.out hb)
      replace HA := Lib.hid (HA.out.below hb)
      replace BR := Lib.hid (blk_next BR.out hb)
      replace Ba := Lib.hid (blk_next Ba.out hb)
      have HB1 := Lib.hid hu_4
      clear hu_4
      clear hb
      rw [show pcode (⟨#[49]⟩ : ByteArray).data.toList = 0 from pval_one.1]
      replace HB1 := Lib.hid (HB1.out.as (show pval (⟨#[49]⟩ : ByteArray).data.toList = 1 from pval_one.2))
      go_upto_region 13 with fail
      have lt2_R : w.heap.size < w4.heap.size := (Array.getElem?_eq_some_iff.1 BR.out).1
      have lt3_a : w2.heap.size < w4.heap.size := (Array.getElem?_eq_some_iff.1 Ba.out).1
      obtain ⟨W5, hW, hs, hb, b0⟩ := alloc1 w4 (.cells #[.bool n_4, .slice a_4 k_4 c_4] 30)
      rw [← hW]
      replace HB := Lib.hid (bt HB.out hb)
      replace HA := Lib.hid (HA.out.below hb)
      replace HB1 := Lib.hid (HB1.out.below hb)
      replace BR := Lib.hid (blk_next BR.out hb)
      replace Ba := Lib.hid (blk_next Ba.out hb)
      have Bb := Lib.hid b0
      clear hW hs hb b0
      have hsg : (1 : Int).sign = 1 := rfl
      have lt4_R : w.heap.size < W5.heap.size := (Array.getElem?_eq_some_iff.1 BR.out).1
      have lt5_a : w2.heap.size < W5.heap.size := (Array.getElem?_eq_some_iff.1 Ba.out).1
      have lt6_b : w4.heap.size < W5.heap.size := (Array.getElem?_eq_some_iff.1 Bb.out).1
      obtain ⟨cb0, cb1, fb0, fb1⟩ := res_facts Bb.out
      go_wp2_with fail
      clear cb0 cb1 fb0 fb1
      (with_reducible refine (rsign_any HB1.out).mono ?_)
      rintro e w6 ⟨rfl, hb⟩
      replace HB := Lib.hid (bt HB.out hb)
      replace HA := Lib.hid (HA.out.below hb)
      replace HB1 := Lib.hid (HB1.out.below hb)
      replace BR := Lib.hid (blk_next BR.out hb)
      replace Ba := Lib.hid (blk_next Ba.out hb)
      replace Bb := Lib.hid (blk_next Bb.out hb)
      clear hb
      rw [hsg]
      clear hsg
      have lt7_R : w.heap.size < w6.heap.size := (Array.getElem?_eq_some_iff.1 BR.out).1
      have lt8_a : w2.heap.size < w6.heap.size := (Array.getElem?_eq_some_iff.1 Ba.out).1
      have lt9_b : w4.heap.size < w6.heap.size := (Array.getElem?_eq_some_iff.1 Bb.out).1
      obtain ⟨⟨cR0, cR1, cR2, cR3⟩, fR0, fR1, fR2, fR3⟩ := res4_facts BR.out
      go_wp2
      try simp only [Exit.inBlock, Exit.then]
      refine bodyPost_ret (results_cell_slot rfl _ _ (w.heap.size) 32 _ (0, 0) _ (.int .i64 6) rfl rfl (res4_set BR.out) Tryz.underlying32 rfl (by kernel_rfl)) rfl ?_
      rw [HQ.out.1, HQ.out.2]
      exact ⟨false, none, 0, 0, false, none, 0, 0, rfl, rratR_zero _, fin4 HB.out (by omega)⟩

set_option maxHeartbeats 4000000 in
set_option maxRecDepth 100000 in
theorem rratparse_w0 {w : World} (s : ByteArray) (hs : s.size ≤ 4200) (h2 : slashed s.data.toList = false) (h1 : pcode (topOf s.data.toList) = 0) :
    Calls Tryz.prog 18 #[.string s] w (rGivesRE w (qval s.data.toList) (qcode s.data.toList)) := by
  have HQ := Lib.hid (q_whole0 h1 h2)
  have HTX := Lib.hid (whole_text h2 h1)
  obtain ⟨T, hT⟩ : ∃ T : ByteArray, (⟨(topOf s.data.toList).toArray⟩ : ByteArray) = T := ⟨_, rfl⟩
  have hTl : T.data.toList = topOf s.data.toList := by rw [← hT]
  have hTs : T.size ≤ 4200 := by rw [← bs_len, hTl]; have := top_length s.data.toList; rw [bs_len] at this; omega
  obtain ⟨p, hp⟩ : ∃ p, (topOf s.data.toList).length = p := ⟨_, rfl⟩
  have HTX1 := Lib.hid (cut_top hp)
  rw [hT] at HTX1
  have HPF := Lib.hid (slash_free (s := s) hp)
  have hps : p ≤ s.size := by have := top_length s.data.toList; rw [hp, bs_len] at this; exact this
  have hpe : p = s.size := by rw [← hp, no_slash h2, bs_len]
  have hpz : ¬ (p : Int) < (s.size : Int) := by omega
  have HPE := Lib.hid hpe
  clear hpe
  have HTL := Lib.hid hTl
  rw [← hTl] at h1
  rw [← hTl] at HTX
  have Xh1 := Lib.hid h1
  clear hT hTl hp h2 h1
  go_enter Tryz.func18, Tryz.ntmps18
  go_wp2_with fail
  obtain ⟨W1, hW, hs, hb, b0⟩ := alloc1 w (.cells #[.bool false, .slice none 0 0, .bool false, .slice none 0 0] 32)
  rw [← hW]
  have HB := Lib.hid hb
  have BR := Lib.hid b0
  clear hW hs hb b0
  go_wp2_with fail
  go_loop [4, 5] (fun at' iv => ∃ i : Nat, i ≤ s.size ∧ iv = .int .i64 i ∧ at' = .int .i64 ((if p < i then p else s.size : Nat) : Int)) (fun _ iv => s.size - (RowKit.intOf iv).toNat)
  case atStart => exact ⟨0, Nat.zero_le _, rfl, int_eq (by rw [if_neg (by omega)])⟩
  case round =>
    obtain ⟨i, hi, rfl, rfl⟩ := hrel
    by_cases hil : i < s.size
    · have hiz : (i : Int) < (s.size : Int) := by omega
      obtain ⟨d, hd⟩ : ∃ d, (s[i]'hil).toNat = d := ⟨_, rfl⟩
      have hnx := HPF.out i hil
      rw [hd] at hnx
      have h1 : ((d : Int) == 47) = false := by rw [beq_eq_false_iff_ne]; have := hnx (by have := HPE.out; omega); omega
      rw [if_neg (show ¬ p < i by have := HPE.out; omega)]
      clear hnx
      go_wp2
      go_round
      case rel => exact ⟨i + 1, by omega, by go_num, int_eq (by rw [if_neg (show ¬ p < i + 1 by have := HPE.out; omega)])⟩
      case measure => simp [RowKit.intOf]; omega
    · have hie : i = s.size := by omega
      subst i
      have hAT : (if p < s.size then p else s.size) = p := by have := HPE.out; split <;> omega
      rw [hAT]
      have hz0 : (0 : Int) ≤ (p : Int) := by omega
      have hz1 : (p : Int) ≤ (s.size : Int) := by omega
      have hx1 := HTX1.out
      clear hAT hil
      go_wp2_with fail
      (with_reducible refine (rparse_any T (by omega)).mono ?_)
      rintro e w2 ⟨n_2, a_2, k_2, c_2, rfl, hu_2, hb⟩
      replace HB := Lib.hid (bt HB.out hb)
      replace BR := Lib.hid (blk_next BR.out hb)
      have HA := Lib.hid hu_2
      clear hu_2
      clear hb
      rw [Xh1.out]
      go_wp2_with fail
      have lt1_R : w.heap.size < w2.heap.size := (Array.getElem?_eq_some_iff.1 BR.out).1
      obtain ⟨W3, hW, hs, hb, b0⟩ := alloc1 w2 (.cells #[.bool n_2, .slice a_2 k_2 c_2] 30)
      rw [← hW]
      replace HB := Lib.hid (bt HB.out hb)
      replace HA := Lib.hid (HA.out.below hb)
      replace BR := Lib.hid (blk_next BR.out hb)
      have Ba := Lib.hid b0
      clear hW hs hb b0
      (with_reducible refine (rparse_any ⟨#[49]⟩ (by decide)).mono ?_)
      rintro e w4 ⟨n_4, a_4, k_4, c_4, rfl, hu_4, hb⟩
      replace HB := Lib.hid (bt HB.out hb)
      replace HA := Lib.hid (HA.out.below hb)
      replace BR := Lib.hid (blk_next BR.out hb)
      replace Ba := Lib.hid (blk_next Ba.out hb)
      have HB1 := Lib.hid hu_4
      clear hu_4
      clear hb
      rw [show pcode (⟨#[49]⟩ : ByteArray).data.toList = 0 from pval_one.1]
      replace HB1 := Lib.hid (HB1.out.as (show pval (⟨#[49]⟩ : ByteArray).data.toList = 1 from pval_one.2))
      go_upto_region 13 with fail
      have lt2_R : w.heap.size < w4.heap.size := (Array.getElem?_eq_some_iff.1 BR.out).1
      have lt3_a : w2.heap.size < w4.heap.size := (Array.getElem?_eq_some_iff.1 Ba.out).1
      obtain ⟨W5, hW, hs, hb, b0⟩ := alloc1 w4 (.cells #[.bool n_4, .slice a_4 k_4 c_4] 30)
      rw [← hW]
      replace HB := Lib.hid (bt HB.out hb)
      replace HA := Lib.hid (HA.out.below hb)
      replace HB1 := Lib.hid (HB1.out.below hb)
      replace BR := Lib.hid (blk_next BR.out hb)
      replace Ba := Lib.hid (blk_next Ba.out hb)
      have Bb := Lib.hid b0
      clear hW hs hb b0
      have hsg : (1 : Int).sign = 1 := rfl
      have lt4_R : w.heap.size < W5.heap.size := (Array.getElem?_eq_some_iff.1 BR.out).1
      have lt5_a : w2.heap.size < W5.heap.size := (Array.getElem?_eq_some_iff.1 Ba.out).1
      have lt6_b : w4.heap.size < W5.heap.size := (Array.getElem?_eq_some_iff.1 Bb.out).1
      obtain ⟨cb0, cb1, fb0, fb1⟩ := res_facts Bb.out
      go_wp2_with fail
      clear cb0 cb1 fb0 fb1
      (with_reducible refine (rsign_any HB1.out).mono ?_)
      rintro e w6 ⟨rfl, hb⟩
      replace HB := Lib.hid (bt HB.out hb)
      replace HA := Lib.hid (HA.out.below hb)
      replace HB1 := Lib.hid (HB1.out.below hb)
      replace BR := Lib.hid (blk_next BR.out hb)
      replace Ba := Lib.hid (blk_next Ba.out hb)
      replace Bb := Lib.hid (blk_next Bb.out hb)
      clear hb
      rw [hsg]
      clear hsg
      have dT := dg_of_text (l := T.data.toList) (N := 4200) (by rw [bs_len]; omega)
      have dU : Dg 4200 (1 : Int) := (show Dg 1 (1 : Int) by unfold Dg; decide).mono (by omega)
      have HP0 := Lib.hid (show (1 : Int) ≠ 0 by decide)
      have RQ : Rg 4200 (Rat.divInt (pval T.data.toList) (1)) := Rg.of (fw_divInt HP0.out dT dU)
      have lt7_R : w.heap.size < w6.heap.size := (Array.getElem?_eq_some_iff.1 BR.out).1
      have lt8_a : w2.heap.size < w6.heap.size := (Array.getElem?_eq_some_iff.1 Ba.out).1
      have lt9_b : w4.heap.size < w6.heap.size := (Array.getElem?_eq_some_iff.1 Bb.out).1
      obtain ⟨ca0, ca1, fa0, fa1⟩ := res_facts Ba.out
      obtain ⟨cb0, cb1, fb0, fb1⟩ := res_facts Bb.out
      go_wp2_with fail
      clear ca0 ca1 fa0 fa1 cb0 cb1 fb0 fb1
      (with_reducible refine (rreduced_any HA.out HB1.out HP0.out dT dU (by omega)).mono ?_)
      rintro e w7 ⟨n_7, a_7, k_7, c_7, n2_7, a2_7, k2_7, c2_7, rfl, hu_7, hv_7, hb⟩
      replace HB := Lib.hid (bt HB.out hb)
      replace HA := Lib.hid (HA.out.below hb)
      replace HB1 := Lib.hid (HB1.out.below hb)
      replace BR := Lib.hid (blk_next BR.out hb)
      replace Ba := Lib.hid (blk_next Ba.out hb)
      replace Bb := Lib.hid (blk_next Bb.out hb)
      have HX := Lib.hid hu_7
      have HY := Lib.hid hv_7
      clear hu_7 hv_7
      clear hb
      have HXX := Lib.hid (RRatR.mk HX.out HY.out (.inl rfl))
      go_wp2_with fail
      have lt10_R : w.heap.size < w7.heap.size := (Array.getElem?_eq_some_iff.1 BR.out).1
      have lt11_a : w2.heap.size < w7.heap.size := (Array.getElem?_eq_some_iff.1 Ba.out).1
      have lt12_b : w4.heap.size < w7.heap.size := (Array.getElem?_eq_some_iff.1 Bb.out).1
      obtain ⟨W8, hW, hs, hb, b0⟩ := alloc1 w7 (.cells #[.bool n_7, .slice a_7 k_7 c_7, .bool n2_7, .slice a2_7 k2_7 c2_7] 32)
      rw [← hW]
      replace HB := Lib.hid (bt HB.out hb)
      replace HA := Lib.hid (HA.out.below hb)
      replace HB1 := Lib.hid (HB1.out.below hb)
      replace HX := Lib.hid (HX.out.below hb)
      replace HY := Lib.hid (HY.out.below hb)
      replace HXX := Lib.hid (HXX.out.below hb)
      replace BR := Lib.hid (blk_next BR.out hb)
      replace Ba := Lib.hid (blk_next Ba.out hb)
      replace Bb := Lib.hid (blk_next Bb.out hb)
      have Bx := Lib.hid b0
      clear hW hs hb b0
      have lt13_R : w.heap.size < W8.heap.size := (Array.getElem?_eq_some_iff.1 BR.out).1
      have lt14_a : w2.heap.size < W8.heap.size := (Array.getElem?_eq_some_iff.1 Ba.out).1
      have lt15_b : w4.heap.size < W8.heap.size := (Array.getElem?_eq_some_iff.1 Bb.out).1
      have lt16_x : w7.heap.size < W8.heap.size := (Array.getElem?_eq_some_iff.1 Bx.out).1
      obtain ⟨⟨cx0, cx1, cx2, cx3⟩, fx0, fx1, fx2, fx3⟩ := res4_facts Bx.out
      go_wp2_with fail
      clear cx0 cx1 cx2 cx3 fx0 fx1 fx2 fx3
      (with_reducible refine (rrattext_any HXX.out RQ (by omega)).mono ?_)
      rintro e w9 ⟨rfl, hb⟩
      replace HB := Lib.hid (bt HB.out hb)
      replace HA := Lib.hid (HA.out.below hb)
      replace HB1 := Lib.hid (HB1.out.below hb)
      replace HX := Lib.hid (HX.out.below hb)
      replace HY := Lib.hid (HY.out.below hb)
      replace HXX := Lib.hid (HXX.out.below hb)
      replace BR := Lib.hid (blk_next BR.out hb)
      replace Ba := Lib.hid (blk_next Ba.out hb)
      replace Bb := Lib.hid (blk_next Bb.out hb)
      replace Bx := Lib.hid (blk_next Bx.out hb)
      clear hb
      rw [show ratText (Rat.divInt (pval T.data.toList) (1)) = s from by rw [ratText_eq, HTX.out]]
      have lt17_R : w.heap.size < w9.heap.size := (Array.getElem?_eq_some_iff.1 BR.out).1
      have lt18_a : w2.heap.size < w9.heap.size := (Array.getElem?_eq_some_iff.1 Ba.out).1
      have lt19_b : w4.heap.size < w9.heap.size := (Array.getElem?_eq_some_iff.1 Bb.out).1
      have lt20_x : w7.heap.size < w9.heap.size := (Array.getElem?_eq_some_iff.1 Bx.out).1
      obtain ⟨⟨cx0, cx1, cx2, cx3⟩, fx0, fx1, fx2, fx3⟩ := res4_facts Bx.out
      obtain ⟨⟨cR0, cR1, cR2, cR3⟩, fR0, fR1, fR2, fR3⟩ := res4_facts BR.out
      go_wp2
      try simp only [Exit.inBlock, Exit.then]
      refine bodyPost_ret (results_cell_slot rfl _ _ (w.heap.size) 32 _ (0, 0) _ (.int .i64 0) rfl rfl (res4_set BR.out) Tryz.underlying32 rfl (by kernel_rfl)) rfl ?_
      exact ⟨_, _, _, _, _, _, _, _, by rw [HQ.out.1], (by rw [HQ.out.2, ← HTL.out]; exact RRatR.mk (HX.out.stay set4_stay (noInt_one (noInt4 BR.out))) (HY.out.stay set4_stay (noInt_one (noInt4 BR.out))) (.inl rfl)), (fin4 HB.out (by omega))⟩

set_option maxHeartbeats 4000000 in
set_option maxRecDepth 100000 in
theorem rratparse_b3 {w : World} (s : ByteArray) (hs : s.size ≤ 4200) (h2 : slashed s.data.toList = true) (h1 : pcode (topOf s.data.toList) ≠ 3) (h4 : pcode (botOf s.data.toList) = 3) :
    Calls Tryz.prog 18 #[.string s] w (rGivesRE w (qval s.data.toList) (qcode s.data.toList)) := by
  have HQ := Lib.hid (q_bot h1 h2 (.inl h4))
  obtain ⟨T, hT⟩ : ∃ T : ByteArray, (⟨(topOf s.data.toList).toArray⟩ : ByteArray) = T := ⟨_, rfl⟩
  have hTl : T.data.toList = topOf s.data.toList := by rw [← hT]
  have hTs : T.size ≤ 4200 := by rw [← bs_len, hTl]; have := top_length s.data.toList; rw [bs_len] at this; omega
  obtain ⟨p, hp⟩ : ∃ p, (topOf s.data.toList).length = p := ⟨_, rfl⟩
  have HTX1 := Lib.hid (cut_top hp)
  rw [hT] at HTX1
  have HPF := Lib.hid (slash_free (s := s) hp)
  have hps : p ≤ s.size := by have := top_length s.data.toList; rw [hp, bs_len] at this; exact this
  obtain ⟨U, hU⟩ : ∃ U : ByteArray, (⟨(botOf s.data.toList).toArray⟩ : ByteArray) = U := ⟨_, rfl⟩
  have hUl : U.data.toList = botOf s.data.toList := by rw [← hU]
  have hUs : U.size ≤ 4200 := by rw [← bs_len, hUl]; have := bot_length s.data.toList; rw [bs_len] at this; omega
  obtain ⟨hpl, hs47⟩ := slash_at (s := s) hp h2
  have HTX2 := Lib.hid (cut_bot hp h2)
  rw [hU] at HTX2
  have hpz : (p : Int) < (s.size : Int) := by omega
  have HTL := Lib.hid hTl
  have HUL := Lib.hid hUl
  rw [← hTl] at h1
  rw [← hUl] at h4
  have Xh1 := Lib.hid h1
  have Xh4 := Lib.hid h4
  clear hT hTl hp h2 h1 h4 hU hUl
  go_enter Tryz.func18, Tryz.ntmps18
  go_wp2_with fail
  obtain ⟨W1, hW, hs, hb, b0⟩ := alloc1 w (.cells #[.bool false, .slice none 0 0, .bool false, .slice none 0 0] 32)
  rw [← hW]
  have HB := Lib.hid hb
  have BR := Lib.hid b0
  clear hW hs hb b0
  go_wp2_with fail
  go_loop [4, 5] (fun at' iv => ∃ i : Nat, i ≤ s.size ∧ iv = .int .i64 i ∧ at' = .int .i64 ((if p < i then p else s.size : Nat) : Int)) (fun _ iv => s.size - (RowKit.intOf iv).toNat)
  case atStart => exact ⟨0, Nat.zero_le _, rfl, int_eq (by rw [if_neg (by omega)])⟩
  case round =>
    obtain ⟨i, hi, rfl, rfl⟩ := hrel
    by_cases hil : i < s.size
    · have hiz : (i : Int) < (s.size : Int) := by omega
      obtain ⟨d, hd⟩ : ∃ d, (s[i]'hil).toNat = d := ⟨_, rfl⟩
      have hnx := HPF.out i hil
      rw [hd] at hnx
      have h47 : i = p → d = 47 := fun q => by subst q; rw [← hd]; exact hs47
      rcases Nat.lt_trichotomy i p with q | q | q
      · have h1 : ((d : Int) == 47) = false := by rw [beq_eq_false_iff_ne]; have := hnx q; omega
        rw [if_neg (show ¬ p < i by omega)]
        clear h47 hnx
        go_wp2
        go_round
        case rel => exact ⟨i + 1, by omega, by go_num, int_eq (by rw [if_neg (show ¬ p < i + 1 by omega)])⟩
        case measure => simp [RowKit.intOf]; omega
      · obtain rfl := h47 q
        rw [if_neg (show ¬ p < i by omega)]
        clear h47 hnx
        go_wp2
        go_round
        case rel => exact ⟨i + 1, by omega, by go_num, int_eq (by rw [if_pos (show p < i + 1 by omega), q])⟩
        case measure => simp [RowKit.intOf]; omega
      · have h2 : ((p : Int) == (s.size : Int)) = false := by rw [beq_eq_false_iff_ne]; omega
        rw [if_pos q]
        clear h47 hnx
        by_cases h1 : d = 47
        · have h3 : ((d : Int) == 47) = true := by rw [h1]; rfl
          clear h1
          go_wp2
          go_round
          case rel => exact ⟨i + 1, by omega, by go_num, int_eq (by rw [if_pos (show p < i + 1 by omega)])⟩
          case measure => simp [RowKit.intOf]; omega
        · have h3 : ((d : Int) == 47) = false := by rw [beq_eq_false_iff_ne]; omega
          clear h1
          go_wp2
          go_round
          case rel => exact ⟨i + 1, by omega, by go_num, int_eq (by rw [if_pos (show p < i + 1 by omega)])⟩
          case measure => simp [RowKit.intOf]; omega
    · have hie : i = s.size := by omega
      subst i
      have hAT : (if p < s.size then p else s.size) = p := by split <;> omega
      rw [hAT]
      have hz0 : (0 : Int) ≤ (p : Int) := by omega
      have hz1 : (p : Int) ≤ (s.size : Int) := by omega
      have hx1 := HTX1.out
      clear hAT hil
      have hx2 := HTX2.out
      have hz2 : (0 : Int) ≤ (p : Int) + 1 := by omega
      have hz3 : (p : Int) + 1 ≤ (s.size : Int) := by omega
      have hp1 : ((p : Int) + 1).toNat = p + 1 := by omega
      go_wp2_with fail
      (with_reducible refine (rparse_any T (by omega)).mono ?_)
      rintro e w2 ⟨n_2, a_2, k_2, c_2, rfl, hu_2, hb⟩
      replace HB := Lib.hid (bt HB.out hb)
      replace BR := Lib.hid (blk_next BR.out hb)
      have HA := Lib.hid hu_2
      clear hu_2
      clear hb
      obtain ⟨e, he⟩ : ∃ e, pcode T.data.toList = e := ⟨_, rfl⟩
      have hXe := Xh1.out
      rw [he] at hXe ⊢
      have he3 : (e == 3) = false := by rw [beq_eq_false_iff_ne]; exact hXe
      clear hXe he
      go_wp2_with fail
      have lt1_R : w.heap.size < w2.heap.size := (Array.getElem?_eq_some_iff.1 BR.out).1
      obtain ⟨W3, hW, hs, hb, b0⟩ := alloc1 w2 (.cells #[.bool n_2, .slice a_2 k_2 c_2] 30)
      rw [← hW]
      replace HB := Lib.hid (bt HB.out hb)
      replace HA := Lib.hid (HA.out.below hb)
      replace BR := Lib.hid (blk_next BR.out hb)
      have Ba := Lib.hid b0
      clear hW hs hb b0
      (with_reducible refine (rparse_any U (by omega)).mono ?_)
      rintro e w4 ⟨n_4, a_4, k_4, c_4, rfl, hu_4, hb⟩
      replace HB := Lib.hid (bt HB.out hb)
      replace HA := Lib.hid (HA.out.below hb)
      replace BR := Lib.hid (blk_next BR.out hb)
      replace Ba := Lib.hid (blk_next Ba.out hb)
      have HB1 := Lib.hid hu_4
      clear hu_4
      clear hb
      rw [Xh4.out]
      go_upto_region 13 with fail
      have lt2_R : w.heap.size < w4.heap.size := (Array.getElem?_eq_some_iff.1 BR.out).1
      have lt3_a : w2.heap.size < w4.heap.size := (Array.getElem?_eq_some_iff.1 Ba.out).1
      obtain ⟨W5, hW, hs, hb, b0⟩ := alloc1 w4 (.cells #[.bool n_4, .slice a_4 k_4 c_4] 30)
      rw [← hW]
      replace HB := Lib.hid (bt HB.out hb)
      replace HA := Lib.hid (HA.out.below hb)
      replace HB1 := Lib.hid (HB1.out.below hb)
      replace BR := Lib.hid (blk_next BR.out hb)
      replace Ba := Lib.hid (blk_next Ba.out hb)
      have Bb := Lib.hid b0
      clear hW hs hb b0
      have lt4_R : w.heap.size < W5.heap.size := (Array.getElem?_eq_some_iff.1 BR.out).1
      have lt5_a : w2.heap.size < W5.heap.size := (Array.getElem?_eq_some_iff.1 Ba.out).1
      have lt6_b : w4.heap.size < W5.heap.size := (Array.getElem?_eq_some_iff.1 Bb.out).1
      obtain ⟨⟨cR0, cR1, cR2, cR3⟩, fR0, fR1, fR2, fR3⟩ := res4_facts BR.out
      go_wp2
      try simp only [Exit.inBlock, Exit.then]
      refine bodyPost_ret (results_cell_slot rfl _ _ (w.heap.size) 32 _ (0, 0) _ (.int .i64 3) rfl rfl (res4_set BR.out) Tryz.underlying32 rfl (by kernel_rfl)) rfl ?_
      rw [HQ.out.1, HQ.out.2]
      exact ⟨false, none, 0, 0, false, none, 0, 0, rfl, rratR_zero _, fin4 HB.out (by omega)⟩

set_option maxHeartbeats 4000000 in
set_option maxRecDepth 100000 in
theorem rratparse_np {w : World} (s : ByteArray) (hs : s.size ≤ 4200) (h2 : slashed s.data.toList = true) (h1 : pcode (topOf s.data.toList) ≠ 3) (h4 : pcode (botOf s.data.toList) = 0) (h5 : negOf (botOf s.data.toList) = true ∨ botOf s.data.toList = [48]) :
    Calls Tryz.prog 18 #[.string s] w (rGivesRE w (qval s.data.toList) (qcode s.data.toList)) := by
  have HQ := Lib.hid (q_bot h1 h2 (.inr (h5.elim .inl (fun q => .inr (.inl q)))))
  obtain ⟨T, hT⟩ : ∃ T : ByteArray, (⟨(topOf s.data.toList).toArray⟩ : ByteArray) = T := ⟨_, rfl⟩
  have hTl : T.data.toList = topOf s.data.toList := by rw [← hT]
  have hTs : T.size ≤ 4200 := by rw [← bs_len, hTl]; have := top_length s.data.toList; rw [bs_len] at this; omega
  obtain ⟨p, hp⟩ : ∃ p, (topOf s.data.toList).length = p := ⟨_, rfl⟩
  have HTX1 := Lib.hid (cut_top hp)
  rw [hT] at HTX1
  have HPF := Lib.hid (slash_free (s := s) hp)
  have hps : p ≤ s.size := by have := top_length s.data.toList; rw [hp, bs_len] at this; exact this
  obtain ⟨U, hU⟩ : ∃ U : ByteArray, (⟨(botOf s.data.toList).toArray⟩ : ByteArray) = U := ⟨_, rfl⟩
  have hUl : U.data.toList = botOf s.data.toList := by rw [← hU]
  have hUs : U.size ≤ 4200 := by rw [← bs_len, hUl]; have := bot_length s.data.toList; rw [bs_len] at this; omega
  obtain ⟨hpl, hs47⟩ := slash_at (s := s) hp h2
  have HTX2 := Lib.hid (cut_bot hp h2)
  rw [hU] at HTX2
  have hpz : (p : Int) < (s.size : Int) := by omega
  have HTL := Lib.hid hTl
  have HUL := Lib.hid hUl
  rw [← hTl] at h1
  rw [← hUl] at h4
  rw [← hUl] at h5
  have Xh1 := Lib.hid h1
  have Xh4 := Lib.hid h4
  have Xh5 := Lib.hid h5
  clear hT hTl hp h2 h1 h4 h5 hU hUl
  go_enter Tryz.func18, Tryz.ntmps18
  go_wp2_with fail
  obtain ⟨W1, hW, hs, hb, b0⟩ := alloc1 w (.cells #[.bool false, .slice none 0 0, .bool false, .slice none 0 0] 32)
  rw [← hW]
  have HB := Lib.hid hb
  have BR := Lib.hid b0
  clear hW hs hb b0
  go_wp2_with fail
  go_loop [4, 5] (fun at' iv => ∃ i : Nat, i ≤ s.size ∧ iv = .int .i64 i ∧ at' = .int .i64 ((if p < i then p else s.size : Nat) : Int)) (fun _ iv => s.size - (RowKit.intOf iv).toNat)
  case atStart => exact ⟨0, Nat.zero_le _, rfl, int_eq (by rw [if_neg (by omega)])⟩
  case round =>
    obtain ⟨i, hi, rfl, rfl⟩ := hrel
    by_cases hil : i < s.size
    · have hiz : (i : Int) < (s.size : Int) := by omega
      obtain ⟨d, hd⟩ : ∃ d, (s[i]'hil).toNat = d := ⟨_, rfl⟩
      have hnx := HPF.out i hil
      rw [hd] at hnx
      have h47 : i = p → d = 47 := fun q => by subst q; rw [← hd]; exact hs47
      rcases Nat.lt_trichotomy i p with q | q | q
      · have h1 : ((d : Int) == 47) = false := by rw [beq_eq_false_iff_ne]; have := hnx q; omega
        rw [if_neg (show ¬ p < i by omega)]
        clear h47 hnx
        go_wp2
        go_round
        case rel => exact ⟨i + 1, by omega, by go_num, int_eq (by rw [if_neg (show ¬ p < i + 1 by omega)])⟩
        case measure => simp [RowKit.intOf]; omega
      · obtain rfl := h47 q
        rw [if_neg (show ¬ p < i by omega)]
        clear h47 hnx
        go_wp2
        go_round
        case rel => exact ⟨i + 1, by omega, by go_num, int_eq (by rw [if_pos (show p < i + 1 by omega), q])⟩
        case measure => simp [RowKit.intOf]; omega
      · have h2 : ((p : Int) == (s.size : Int)) = false := by rw [beq_eq_false_iff_ne]; omega
        rw [if_pos q]
        clear h47 hnx
        by_cases h1 : d = 47
        · have h3 : ((d : Int) == 47) = true := by rw [h1]; rfl
          clear h1
          go_wp2
          go_round
          case rel => exact ⟨i + 1, by omega, by go_num, int_eq (by rw [if_pos (show p < i + 1 by omega)])⟩
          case measure => simp [RowKit.intOf]; omega
        · have h3 : ((d : Int) == 47) = false := by rw [beq_eq_false_iff_ne]; omega
          clear h1
          go_wp2
          go_round
          case rel => exact ⟨i + 1, by omega, by go_num, int_eq (by rw [if_pos (show p < i + 1 by omega)])⟩
          case measure => simp [RowKit.intOf]; omega
    · have hie : i = s.size := by omega
      subst i
      have hAT : (if p < s.size then p else s.size) = p := by split <;> omega
      rw [hAT]
      have hz0 : (0 : Int) ≤ (p : Int) := by omega
      have hz1 : (p : Int) ≤ (s.size : Int) := by omega
      have hx1 := HTX1.out
      clear hAT hil
      have hx2 := HTX2.out
      have hz2 : (0 : Int) ≤ (p : Int) + 1 := by omega
      have hz3 : (p : Int) + 1 ≤ (s.size : Int) := by omega
      have hp1 : ((p : Int) + 1).toNat = p + 1 := by omega
      go_wp2_with fail
      (with_reducible refine (rparse_any T (by omega)).mono ?_)
      rintro e w2 ⟨n_2, a_2, k_2, c_2, rfl, hu_2, hb⟩
      replace HB := Lib.hid (bt HB.out hb)
      replace BR := Lib.hid (blk_next BR.out hb)
      have HA := Lib.hid hu_2
      clear hu_2
      clear hb
      obtain ⟨e, he⟩ : ∃ e, pcode T.data.toList = e := ⟨_, rfl⟩
      have hXe := Xh1.out
      rw [he] at hXe ⊢
      have he3 : (e == 3) = false := by rw [beq_eq_false_iff_ne]; exact hXe
      clear hXe he
      go_wp2_with fail
      have lt1_R : w.heap.size < w2.heap.size := (Array.getElem?_eq_some_iff.1 BR.out).1
      obtain ⟨W3, hW, hs, hb, b0⟩ := alloc1 w2 (.cells #[.bool n_2, .slice a_2 k_2 c_2] 30)
      rw [← hW]
      replace HB := Lib.hid (bt HB.out hb)
      replace HA := Lib.hid (HA.out.below hb)
      replace BR := Lib.hid (blk_next BR.out hb)
      have Ba := Lib.hid b0
      clear hW hs hb b0
      (with_reducible refine (rparse_any U (by omega)).mono ?_)
      rintro e w4 ⟨n_4, a_4, k_4, c_4, rfl, hu_4, hb⟩
      replace HB := Lib.hid (bt HB.out hb)
      replace HA := Lib.hid (HA.out.below hb)
      replace BR := Lib.hid (blk_next BR.out hb)
      replace Ba := Lib.hid (blk_next Ba.out hb)
      have HB1 := Lib.hid hu_4
      clear hu_4
      clear hb
      rw [Xh4.out]
      go_upto_region 13 with fail
      have lt2_R : w.heap.size < w4.heap.size := (Array.getElem?_eq_some_iff.1 BR.out).1
      have lt3_a : w2.heap.size < w4.heap.size := (Array.getElem?_eq_some_iff.1 Ba.out).1
      obtain ⟨W5, hW, hs, hb, b0⟩ := alloc1 w4 (.cells #[.bool n_4, .slice a_4 k_4 c_4] 30)
      rw [← hW]
      replace HB := Lib.hid (bt HB.out hb)
      replace HA := Lib.hid (HA.out.below hb)
      replace HB1 := Lib.hid (HB1.out.below hb)
      replace BR := Lib.hid (blk_next BR.out hb)
      replace Ba := Lib.hid (blk_next Ba.out hb)
      have Bb := Lib.hid b0
      clear hW hs hb b0
      obtain ⟨sg, hsg⟩ : ∃ sg, (pval U.data.toList).sign = sg := ⟨_, rfl⟩
      have hsg0 : sg ≤ 0 := by
        rw [← hsg]
        rcases Xh5.out with q | q
        · rw [Int.sign_eq_neg_one_of_neg (pval_neg Xh4.out q)]; decide
        · rw [q, pval_zero.2]; decide
      have lt4_R : w.heap.size < W5.heap.size := (Array.getElem?_eq_some_iff.1 BR.out).1
      have lt5_a : w2.heap.size < W5.heap.size := (Array.getElem?_eq_some_iff.1 Ba.out).1
      have lt6_b : w4.heap.size < W5.heap.size := (Array.getElem?_eq_some_iff.1 Bb.out).1
      obtain ⟨cb0, cb1, fb0, fb1⟩ := res_facts Bb.out
      go_wp2_with fail
      clear cb0 cb1 fb0 fb1
      (with_reducible refine (rsign_any HB1.out).mono ?_)
      rintro e w6 ⟨rfl, hb⟩
      replace HB := Lib.hid (bt HB.out hb)
      replace HA := Lib.hid (HA.out.below hb)
      replace HB1 := Lib.hid (HB1.out.below hb)
      replace BR := Lib.hid (blk_next BR.out hb)
      replace Ba := Lib.hid (blk_next Ba.out hb)
      replace Bb := Lib.hid (blk_next Bb.out hb)
      clear hb
      rw [hsg]
      clear hsg
      have lt7_R : w.heap.size < w6.heap.size := (Array.getElem?_eq_some_iff.1 BR.out).1
      have lt8_a : w2.heap.size < w6.heap.size := (Array.getElem?_eq_some_iff.1 Ba.out).1
      have lt9_b : w4.heap.size < w6.heap.size := (Array.getElem?_eq_some_iff.1 Bb.out).1
      obtain ⟨⟨cR0, cR1, cR2, cR3⟩, fR0, fR1, fR2, fR3⟩ := res4_facts BR.out
      go_wp2
      try simp only [Exit.inBlock, Exit.then]
      refine bodyPost_ret (results_cell_slot rfl _ _ (w.heap.size) 32 _ (0, 0) _ (.int .i64 3) rfl rfl (res4_set BR.out) Tryz.underlying32 rfl (by kernel_rfl)) rfl ?_
      rw [HQ.out.1, HQ.out.2]
      exact ⟨false, none, 0, 0, false, none, 0, 0, rfl, rratR_zero _, fin4 HB.out (by omega)⟩

set_option maxHeartbeats 4000000 in
set_option maxRecDepth 100000 in
theorem rratparse_n6 {w : World} (s : ByteArray) (hs : s.size ≤ 4200) (h2 : slashed s.data.toList = true) (h1 : pcode (topOf s.data.toList) ≠ 3) (h4 : pcode (botOf s.data.toList) = 6) (h5 : negOf (botOf s.data.toList) = true) :
    Calls Tryz.prog 18 #[.string s] w (rGivesRE w (qval s.data.toList) (qcode s.data.toList)) := by
  have HQ := Lib.hid (q_bot h1 h2 (.inr (.inl h5)))
  obtain ⟨T, hT⟩ : ∃ T : ByteArray, (⟨(topOf s.data.toList).toArray⟩ : ByteArray) = T := ⟨_, rfl⟩
  have hTl : T.data.toList = topOf s.data.toList := by rw [← hT]
  have hTs : T.size ≤ 4200 := by rw [← bs_len, hTl]; have := top_length s.data.toList; rw [bs_len] at this; omega
  obtain ⟨p, hp⟩ : ∃ p, (topOf s.data.toList).length = p := ⟨_, rfl⟩
  have HTX1 := Lib.hid (cut_top hp)
  rw [hT] at HTX1
  have HPF := Lib.hid (slash_free (s := s) hp)
  have hps : p ≤ s.size := by have := top_length s.data.toList; rw [hp, bs_len] at this; exact this
  obtain ⟨U, hU⟩ : ∃ U : ByteArray, (⟨(botOf s.data.toList).toArray⟩ : ByteArray) = U := ⟨_, rfl⟩
  have hUl : U.data.toList = botOf s.data.toList := by rw [← hU]
  have hUs : U.size ≤ 4200 := by rw [← bs_len, hUl]; have := bot_length s.data.toList; rw [bs_len] at this; omega
  obtain ⟨hpl, hs47⟩ := slash_at (s := s) hp h2
  have HTX2 := Lib.hid (cut_bot hp h2)
  rw [hU] at HTX2
  have hpz : (p : Int) < (s.size : Int) := by omega
  have HTL := Lib.hid hTl
  have HUL := Lib.hid hUl
  rw [← hTl] at h1
  rw [← hUl] at h4
  rw [← hUl] at h5
  have Xh1 := Lib.hid h1
  have Xh4 := Lib.hid h4
  have Xh5 := Lib.hid h5
  obtain ⟨hu0, hu45⟩ := neg_head.1 h5
  have hu1 : 0 < U.size := by rw [← bs_len]; exact hu0
  have hu2 : (U[0]'hu1).toNat = 45 := hu45
  have hu3 : (0 : Int) < (U.size : Int) := by omega
  clear hT hTl hp h2 h1 h4 h5 hU hUl
  go_enter Tryz.func18, Tryz.ntmps18
  go_wp2_with fail
  obtain ⟨W1, hW, hs, hb, b0⟩ := alloc1 w (.cells #[.bool false, .slice none 0 0, .bool false, .slice none 0 0] 32)
  rw [← hW]
  have HB := Lib.hid hb
  have BR := Lib.hid b0
  clear hW hs hb b0
  go_wp2_with fail
  go_loop [4, 5] (fun at' iv => ∃ i : Nat, i ≤ s.size ∧ iv = .int .i64 i ∧ at' = .int .i64 ((if p < i then p else s.size : Nat) : Int)) (fun _ iv => s.size - (RowKit.intOf iv).toNat)
  case atStart => exact ⟨0, Nat.zero_le _, rfl, int_eq (by rw [if_neg (by omega)])⟩
  case round =>
    obtain ⟨i, hi, rfl, rfl⟩ := hrel
    by_cases hil : i < s.size
    · have hiz : (i : Int) < (s.size : Int) := by omega
      obtain ⟨d, hd⟩ : ∃ d, (s[i]'hil).toNat = d := ⟨_, rfl⟩
      have hnx := HPF.out i hil
      rw [hd] at hnx
      have h47 : i = p → d = 47 := fun q => by subst q; rw [← hd]; exact hs47
      rcases Nat.lt_trichotomy i p with q | q | q
      · have h1 : ((d : Int) == 47) = false := by rw [beq_eq_false_iff_ne]; have := hnx q; omega
        rw [if_neg (show ¬ p < i by omega)]
        clear h47 hnx
        go_wp2
        go_round
        case rel => exact ⟨i + 1, by omega, by go_num, int_eq (by rw [if_neg (show ¬ p < i + 1 by omega)])⟩
        case measure => simp [RowKit.intOf]; omega
      · obtain rfl := h47 q
        rw [if_neg (show ¬ p < i by omega)]
        clear h47 hnx
        go_wp2
        go_round
        case rel => exact ⟨i + 1, by omega, by go_num, int_eq (by rw [if_pos (show p < i + 1 by omega), q])⟩
        case measure => simp [RowKit.intOf]; omega
      · have h2 : ((p : Int) == (s.size : Int)) = false := by rw [beq_eq_false_iff_ne]; omega
        rw [if_pos q]
        clear h47 hnx
        by_cases h1 : d = 47
        · have h3 : ((d : Int) == 47) = true := by rw [h1]; rfl
          clear h1
          go_wp2
          go_round
          case rel => exact ⟨i + 1, by omega, by go_num, int_eq (by rw [if_pos (show p < i + 1 by omega)])⟩
          case measure => simp [RowKit.intOf]; omega
        · have h3 : ((d : Int) == 47) = false := by rw [beq_eq_false_iff_ne]; omega
          clear h1
          go_wp2
          go_round
          case rel => exact ⟨i + 1, by omega, by go_num, int_eq (by rw [if_pos (show p < i + 1 by omega)])⟩
          case measure => simp [RowKit.intOf]; omega
    · have hie : i = s.size := by omega
      subst i
      have hAT : (if p < s.size then p else s.size) = p := by split <;> omega
      rw [hAT]
      have hz0 : (0 : Int) ≤ (p : Int) := by omega
      have hz1 : (p : Int) ≤ (s.size : Int) := by omega
      have hx1 := HTX1.out
      clear hAT hil
      have hx2 := HTX2.out
      have hz2 : (0 : Int) ≤ (p : Int) + 1 := by omega
      have hz3 : (p : Int) + 1 ≤ (s.size : Int) := by omega
      have hp1 : ((p : Int) + 1).toNat = p + 1 := by omega
      go_wp2_with fail
      (with_reducible refine (rparse_any T (by omega)).mono ?_)
      rintro e w2 ⟨n_2, a_2, k_2, c_2, rfl, hu_2, hb⟩
      replace HB := Lib.hid (bt HB.out hb)
      replace BR := Lib.hid (blk_next BR.out hb)
      have HA := Lib.hid hu_2
      clear hu_2
      clear hb
      obtain ⟨e, he⟩ : ∃ e, pcode T.data.toList = e := ⟨_, rfl⟩
      have hXe := Xh1.out
      rw [he] at hXe ⊢
      have he3 : (e == 3) = false := by rw [beq_eq_false_iff_ne]; exact hXe
      clear hXe he
      go_wp2_with fail
      have lt1_R : w.heap.size < w2.heap.size := (Array.getElem?_eq_some_iff.1 BR.out).1
      obtain ⟨W3, hW, hs, hb, b0⟩ := alloc1 w2 (.cells #[.bool n_2, .slice a_2 k_2 c_2] 30)
      rw [← hW]
      replace HB := Lib.hid (bt HB.out hb)
      replace HA := Lib.hid (HA.out.below hb)
      replace BR := Lib.hid (blk_next BR.out hb)
      have Ba := Lib.hid b0
      clear hW hs hb b0
      (with_reducible refine (rparse_any U (by omega)).mono ?_)
      rintro e w4 ⟨n_4, a_4, k_4, c_4, rfl, hu_4, hb⟩
      replace HB := Lib.hid (bt HB.out hb)
      replace HA := Lib.hid (HA.out.below hb)
      replace BR := Lib.hid (blk_next BR.out hb)
      replace Ba := Lib.hid (blk_next Ba.out hb)
      have HB1 := Lib.hid hu_4
      clear hu_4
      clear hb
      rw [Xh4.out]
      go_upto_region 13 with fail
      have lt2_R : w.heap.size < w4.heap.size := (Array.getElem?_eq_some_iff.1 BR.out).1
      have lt3_a : w2.heap.size < w4.heap.size := (Array.getElem?_eq_some_iff.1 Ba.out).1
      obtain ⟨W5, hW, hs, hb, b0⟩ := alloc1 w4 (.cells #[.bool n_4, .slice a_4 k_4 c_4] 30)
      rw [← hW]
      replace HB := Lib.hid (bt HB.out hb)
      replace HA := Lib.hid (HA.out.below hb)
      replace HB1 := Lib.hid (HB1.out.below hb)
      replace BR := Lib.hid (blk_next BR.out hb)
      replace Ba := Lib.hid (blk_next Ba.out hb)
      have Bb := Lib.hid b0
      clear hW hs hb b0
      have lt4_R : w.heap.size < W5.heap.size := (Array.getElem?_eq_some_iff.1 BR.out).1
      have lt5_a : w2.heap.size < W5.heap.size := (Array.getElem?_eq_some_iff.1 Ba.out).1
      have lt6_b : w4.heap.size < W5.heap.size := (Array.getElem?_eq_some_iff.1 Bb.out).1
      obtain ⟨⟨cR0, cR1, cR2, cR3⟩, fR0, fR1, fR2, fR3⟩ := res4_facts BR.out
      go_wp2
      try simp only [Exit.inBlock, Exit.then]
      refine bodyPost_ret (results_cell_slot rfl _ _ (w.heap.size) 32 _ (0, 0) _ (.int .i64 3) rfl rfl (res4_set BR.out) Tryz.underlying32 rfl (by kernel_rfl)) rfl ?_
      rw [HQ.out.1, HQ.out.2]
      exact ⟨false, none, 0, 0, false, none, 0, 0, rfl, rratR_zero _, fin4 HB.out (by omega)⟩

set_option maxHeartbeats 4000000 in
set_option maxRecDepth 100000 in
theorem rratparse_l601 {w : World} (s : ByteArray) (hs : s.size ≤ 4200) (h2 : slashed s.data.toList = true) (h1 : pcode (topOf s.data.toList) = 6) (h4 : pcode (botOf s.data.toList) = 0) (hnb : ¬ (pcode (botOf s.data.toList) = 3 ∨ negOf (botOf s.data.toList) = true ∨ botOf s.data.toList = [48] ∨ botOf s.data.toList = [49])) (h9 : (lval (topOf s.data.toList)).gcd (lval (botOf s.data.toList)) = 1) :
    Calls Tryz.prog 18 #[.string s] w (rGivesRE w (qval s.data.toList) (qcode s.data.toList)) := by
  have HQ := Lib.hid (show qcode s.data.toList = 6 ∧ qval s.data.toList = 0 from by have := q_lim (l := s.data.toList) (by rw [h1]; decide) h2 hnb (by rw [h1, h4]; decide); rwa [if_pos h9] at this)
  obtain ⟨T, hT⟩ : ∃ T : ByteArray, (⟨(topOf s.data.toList).toArray⟩ : ByteArray) = T := ⟨_, rfl⟩
  have hTl : T.data.toList = topOf s.data.toList := by rw [← hT]
  have hTs : T.size ≤ 4200 := by rw [← bs_len, hTl]; have := top_length s.data.toList; rw [bs_len] at this; omega
  obtain ⟨p, hp⟩ : ∃ p, (topOf s.data.toList).length = p := ⟨_, rfl⟩
  have HTX1 := Lib.hid (cut_top hp)
  rw [hT] at HTX1
  have HPF := Lib.hid (slash_free (s := s) hp)
  have hps : p ≤ s.size := by have := top_length s.data.toList; rw [hp, bs_len] at this; exact this
  obtain ⟨U, hU⟩ : ∃ U : ByteArray, (⟨(botOf s.data.toList).toArray⟩ : ByteArray) = U := ⟨_, rfl⟩
  have hUl : U.data.toList = botOf s.data.toList := by rw [← hU]
  have hUs : U.size ≤ 4200 := by rw [← bs_len, hUl]; have := bot_length s.data.toList; rw [bs_len] at this; omega
  obtain ⟨hpl, hs47⟩ := slash_at (s := s) hp h2
  have HTX2 := Lib.hid (cut_bot hp h2)
  rw [hU] at HTX2
  have hpz : (p : Int) < (s.size : Int) := by omega
  have HTL := Lib.hid hTl
  have HUL := Lib.hid hUl
  rw [← hTl] at h1
  rw [← hUl] at h4
  rw [← hTl, ← hUl] at h9
  rw [← hUl] at hnb
  have Xh1 := Lib.hid h1
  have Xh4 := Lib.hid h4
  have Xh9 := Lib.hid h9
  have Xhnb := Lib.hid hnb
  clear hT hTl hp h2 h1 h4 h9 hnb hU hUl
  go_enter Tryz.func18, Tryz.ntmps18
  go_wp2_with fail
  obtain ⟨W1, hW, hs, hb, b0⟩ := alloc1 w (.cells #[.bool false, .slice none 0 0, .bool false, .slice none 0 0] 32)
  rw [← hW]
  have HB := Lib.hid hb
  have BR := Lib.hid b0
  clear hW hs hb b0
  go_wp2_with fail
  go_loop [4, 5] (fun at' iv => ∃ i : Nat, i ≤ s.size ∧ iv = .int .i64 i ∧ at' = .int .i64 ((if p < i then p else s.size : Nat) : Int)) (fun _ iv => s.size - (RowKit.intOf iv).toNat)
  case atStart => exact ⟨0, Nat.zero_le _, rfl, int_eq (by rw [if_neg (by omega)])⟩
  case round =>
    obtain ⟨i, hi, rfl, rfl⟩ := hrel
    by_cases hil : i < s.size
    · have hiz : (i : Int) < (s.size : Int) := by omega
      obtain ⟨d, hd⟩ : ∃ d, (s[i]'hil).toNat = d := ⟨_, rfl⟩
      have hnx := HPF.out i hil
      rw [hd] at hnx
      have h47 : i = p → d = 47 := fun q => by subst q; rw [← hd]; exact hs47
      rcases Nat.lt_trichotomy i p with q | q | q
      · have h1 : ((d : Int) == 47) = false := by rw [beq_eq_false_iff_ne]; have := hnx q; omega
        rw [if_neg (show ¬ p < i by omega)]
        clear h47 hnx
        go_wp2
        go_round
        case rel => exact ⟨i + 1, by omega, by go_num, int_eq (by rw [if_neg (show ¬ p < i + 1 by omega)])⟩
        case measure => simp [RowKit.intOf]; omega
      · obtain rfl := h47 q
        rw [if_neg (show ¬ p < i by omega)]
        clear h47 hnx
        go_wp2
        go_round
        case rel => exact ⟨i + 1, by omega, by go_num, int_eq (by rw [if_pos (show p < i + 1 by omega), q])⟩
        case measure => simp [RowKit.intOf]; omega
      · have h2 : ((p : Int) == (s.size : Int)) = false := by rw [beq_eq_false_iff_ne]; omega
        rw [if_pos q]
        clear h47 hnx
        by_cases h1 : d = 47
        · have h3 : ((d : Int) == 47) = true := by rw [h1]; rfl
          clear h1
          go_wp2
          go_round
          case rel => exact ⟨i + 1, by omega, by go_num, int_eq (by rw [if_pos (show p < i + 1 by omega)])⟩
          case measure => simp [RowKit.intOf]; omega
        · have h3 : ((d : Int) == 47) = false := by rw [beq_eq_false_iff_ne]; omega
          clear h1
          go_wp2
          go_round
          case rel => exact ⟨i + 1, by omega, by go_num, int_eq (by rw [if_pos (show p < i + 1 by omega)])⟩
          case measure => simp [RowKit.intOf]; omega
    · have hie : i = s.size := by omega
      subst i
      have hAT : (if p < s.size then p else s.size) = p := by split <;> omega
      rw [hAT]
      have hz0 : (0 : Int) ≤ (p : Int) := by omega
      have hz1 : (p : Int) ≤ (s.size : Int) := by omega
      have hx1 := HTX1.out
      clear hAT hil
      have hx2 := HTX2.out
      have hz2 : (0 : Int) ≤ (p : Int) + 1 := by omega
      have hz3 : (p : Int) + 1 ≤ (s.size : Int) := by omega
      have hp1 : ((p : Int) + 1).toNat = p + 1 := by omega
      go_wp2_with fail
      (with_reducible refine (rparse_any T (by omega)).mono ?_)
      rintro e w2 ⟨n_2, a_2, k_2, c_2, rfl, hu_2, hb⟩
      replace HB := Lib.hid (bt HB.out hb)
      replace BR := Lib.hid (blk_next BR.out hb)
      have HA := Lib.hid hu_2
      clear hu_2
      clear hb
      rw [Xh1.out]
      go_wp2_with fail
      have lt1_R : w.heap.size < w2.heap.size := (Array.getElem?_eq_some_iff.1 BR.out).1
      obtain ⟨W3, hW, hs, hb, b0⟩ := alloc1 w2 (.cells #[.bool n_2, .slice a_2 k_2 c_2] 30)
      rw [← hW]
      replace HB := Lib.hid (bt HB.out hb)
      replace HA := Lib.hid (HA.out.below hb)
      replace BR := Lib.hid (blk_next BR.out hb)
      have Ba := Lib.hid b0
      clear hW hs hb b0
      (with_reducible refine (rparse_any U (by omega)).mono ?_)
      rintro e w4 ⟨n_4, a_4, k_4, c_4, rfl, hu_4, hb⟩
      replace HB := Lib.hid (bt HB.out hb)
      replace HA := Lib.hid (HA.out.below hb)
      replace BR := Lib.hid (blk_next BR.out hb)
      replace Ba := Lib.hid (blk_next Ba.out hb)
      have HB1 := Lib.hid hu_4
      clear hu_4
      clear hb
      rw [Xh4.out]
      go_upto_region 13 with fail
      have lt2_R : w.heap.size < w4.heap.size := (Array.getElem?_eq_some_iff.1 BR.out).1
      have lt3_a : w2.heap.size < w4.heap.size := (Array.getElem?_eq_some_iff.1 Ba.out).1
      obtain ⟨W5, hW, hs, hb, b0⟩ := alloc1 w4 (.cells #[.bool n_4, .slice a_4 k_4 c_4] 30)
      rw [← hW]
      replace HB := Lib.hid (bt HB.out hb)
      replace HA := Lib.hid (HA.out.below hb)
      replace HB1 := Lib.hid (HB1.out.below hb)
      replace BR := Lib.hid (blk_next BR.out hb)
      replace Ba := Lib.hid (blk_next Ba.out hb)
      have Bb := Lib.hid b0
      clear hW hs hb b0
      have hsg : (pval U.data.toList).sign = 1 := Int.sign_eq_one_of_pos (pval_pos Xh4.out (by have := Xhnb.out; simp only [not_or] at this; simpa using this.2.1) (fun q => Xhnb.out (.inr (.inr (.inl q)))))
      have lt4_R : w.heap.size < W5.heap.size := (Array.getElem?_eq_some_iff.1 BR.out).1
      have lt5_a : w2.heap.size < W5.heap.size := (Array.getElem?_eq_some_iff.1 Ba.out).1
      have lt6_b : w4.heap.size < W5.heap.size := (Array.getElem?_eq_some_iff.1 Bb.out).1
      obtain ⟨cb0, cb1, fb0, fb1⟩ := res_facts Bb.out
      go_wp2_with fail
      clear cb0 cb1 fb0 fb1
      (with_reducible refine (rsign_any HB1.out).mono ?_)
      rintro e w6 ⟨rfl, hb⟩
      replace HB := Lib.hid (bt HB.out hb)
      replace HA := Lib.hid (HA.out.below hb)
      replace HB1 := Lib.hid (HB1.out.below hb)
      replace BR := Lib.hid (blk_next BR.out hb)
      replace Ba := Lib.hid (blk_next Ba.out hb)
      replace Bb := Lib.hid (blk_next Bb.out hb)
      clear hb
      rw [hsg]
      clear hsg
      have HDT := Lib.hid (body_digits (l := T.data.toList) (by rw [Xh1.out]; decide))
      have HDU := Lib.hid (body_digits (l := U.data.toList) (by rw [Xh4.out]; decide))
      have HEV := Lib.hid ((decide_eq_true (p := U.data.toList ≠ [49] ∧ (lval T.data.toList).gcd (lval U.data.toList) = 1) ⟨fun q => Xhnb.out (.inr (.inr (.inr q))), Xh9.out⟩).symm)
      go_wp2_with fail
      (with_reducible refine (rcoprime_any T U (by omega) (by omega) HDT.out HDU.out true HEV.out).mono ?_)
      rintro e w7 ⟨rfl, hb⟩
      replace HB := Lib.hid (bt HB.out hb)
      replace HA := Lib.hid (HA.out.below hb)
      replace HB1 := Lib.hid (HB1.out.below hb)
      replace BR := Lib.hid (blk_next BR.out hb)
      replace Ba := Lib.hid (blk_next Ba.out hb)
      replace Bb := Lib.hid (blk_next Bb.out hb)
      clear hb
      have lt7_R : w.heap.size < w7.heap.size := (Array.getElem?_eq_some_iff.1 BR.out).1
      have lt8_a : w2.heap.size < w7.heap.size := (Array.getElem?_eq_some_iff.1 Ba.out).1
      have lt9_b : w4.heap.size < w7.heap.size := (Array.getElem?_eq_some_iff.1 Bb.out).1
      obtain ⟨⟨cR0, cR1, cR2, cR3⟩, fR0, fR1, fR2, fR3⟩ := res4_facts BR.out
      go_wp2
      try simp only [Exit.inBlock, Exit.then]
      refine bodyPost_ret (results_cell_slot rfl _ _ (w.heap.size) 32 _ (0, 0) _ (.int .i64 6) rfl rfl (res4_set BR.out) Tryz.underlying32 rfl (by kernel_rfl)) rfl ?_
      rw [HQ.out.1, HQ.out.2]
      exact ⟨false, none, 0, 0, false, none, 0, 0, rfl, rratR_zero _, fin4 HB.out (by omega)⟩

set_option maxHeartbeats 4000000 in
set_option maxRecDepth 100000 in
theorem rratparse_l600 {w : World} (s : ByteArray) (hs : s.size ≤ 4200) (h2 : slashed s.data.toList = true) (h1 : pcode (topOf s.data.toList) = 6) (h4 : pcode (botOf s.data.toList) = 0) (hnb : ¬ (pcode (botOf s.data.toList) = 3 ∨ negOf (botOf s.data.toList) = true ∨ botOf s.data.toList = [48] ∨ botOf s.data.toList = [49])) (h9 : ¬ (lval (topOf s.data.toList)).gcd (lval (botOf s.data.toList)) = 1) :
    Calls Tryz.prog 18 #[.string s] w (rGivesRE w (qval s.data.toList) (qcode s.data.toList)) := by
  have HQ := Lib.hid (show qcode s.data.toList = 3 ∧ qval s.data.toList = 0 from by have := q_lim (l := s.data.toList) (by rw [h1]; decide) h2 hnb (by rw [h1, h4]; decide); rwa [if_neg h9] at this)
  obtain ⟨T, hT⟩ : ∃ T : ByteArray, (⟨(topOf s.data.toList).toArray⟩ : ByteArray) = T := ⟨_, rfl⟩
  have hTl : T.data.toList = topOf s.data.toList := by rw [← hT]
  have hTs : T.size ≤ 4200 := by rw [← bs_len, hTl]; have := top_length s.data.toList; rw [bs_len] at this; omega
  obtain ⟨p, hp⟩ : ∃ p, (topOf s.data.toList).length = p := ⟨_, rfl⟩
  have HTX1 := Lib.hid (cut_top hp)
  rw [hT] at HTX1
  have HPF := Lib.hid (slash_free (s := s) hp)
  have hps : p ≤ s.size := by have := top_length s.data.toList; rw [hp, bs_len] at this; exact this
  obtain ⟨U, hU⟩ : ∃ U : ByteArray, (⟨(botOf s.data.toList).toArray⟩ : ByteArray) = U := ⟨_, rfl⟩
  have hUl : U.data.toList = botOf s.data.toList := by rw [← hU]
  have hUs : U.size ≤ 4200 := by rw [← bs_len, hUl]; have := bot_length s.data.toList; rw [bs_len] at this; omega
  obtain ⟨hpl, hs47⟩ := slash_at (s := s) hp h2
  have HTX2 := Lib.hid (cut_bot hp h2)
  rw [hU] at HTX2
  have hpz : (p : Int) < (s.size : Int) := by omega
  have HTL := Lib.hid hTl
  have HUL := Lib.hid hUl
  rw [← hTl] at h1
  rw [← hUl] at h4
  rw [← hTl, ← hUl] at h9
  rw [← hUl] at hnb
  have Xh1 := Lib.hid h1
  have Xh4 := Lib.hid h4
  have Xh9 := Lib.hid h9
  have Xhnb := Lib.hid hnb
  clear hT hTl hp h2 h1 h4 h9 hnb hU hUl
  go_enter Tryz.func18, Tryz.ntmps18
  go_wp2_with fail
  obtain ⟨W1, hW, hs, hb, b0⟩ := alloc1 w (.cells #[.bool false, .slice none 0 0, .bool false, .slice none 0 0] 32)
  rw [← hW]
  have HB := Lib.hid hb
  have BR := Lib.hid b0
  clear hW hs hb b0
  go_wp2_with fail
  go_loop [4, 5] (fun at' iv => ∃ i : Nat, i ≤ s.size ∧ iv = .int .i64 i ∧ at' = .int .i64 ((if p < i then p else s.size : Nat) : Int)) (fun _ iv => s.size - (RowKit.intOf iv).toNat)
  case atStart => exact ⟨0, Nat.zero_le _, rfl, int_eq (by rw [if_neg (by omega)])⟩
  case round =>
    obtain ⟨i, hi, rfl, rfl⟩ := hrel
    by_cases hil : i < s.size
    · have hiz : (i : Int) < (s.size : Int) := by omega
      obtain ⟨d, hd⟩ : ∃ d, (s[i]'hil).toNat = d := ⟨_, rfl⟩
      have hnx := HPF.out i hil
      rw [hd] at hnx
      have h47 : i = p → d = 47 := fun q => by subst q; rw [← hd]; exact hs47
      rcases Nat.lt_trichotomy i p with q | q | q
      · have h1 : ((d : Int) == 47) = false := by rw [beq_eq_false_iff_ne]; have := hnx q; omega
        rw [if_neg (show ¬ p < i by omega)]
        clear h47 hnx
        go_wp2
        go_round
        case rel => exact ⟨i + 1, by omega, by go_num, int_eq (by rw [if_neg (show ¬ p < i + 1 by omega)])⟩
        case measure => simp [RowKit.intOf]; omega
      · obtain rfl := h47 q
        rw [if_neg (show ¬ p < i by omega)]
        clear h47 hnx
        go_wp2
        go_round
        case rel => exact ⟨i + 1, by omega, by go_num, int_eq (by rw [if_pos (show p < i + 1 by omega), q])⟩
        case measure => simp [RowKit.intOf]; omega
      · have h2 : ((p : Int) == (s.size : Int)) = false := by rw [beq_eq_false_iff_ne]; omega
        rw [if_pos q]
        clear h47 hnx
        by_cases h1 : d = 47
        · have h3 : ((d : Int) == 47) = true := by rw [h1]; rfl
          clear h1
          go_wp2
          go_round
          case rel => exact ⟨i + 1, by omega, by go_num, int_eq (by rw [if_pos (show p < i + 1 by omega)])⟩
          case measure => simp [RowKit.intOf]; omega
        · have h3 : ((d : Int) == 47) = false := by rw [beq_eq_false_iff_ne]; omega
          clear h1
          go_wp2
          go_round
          case rel => exact ⟨i + 1, by omega, by go_num, int_eq (by rw [if_pos (show p < i + 1 by omega)])⟩
          case measure => simp [RowKit.intOf]; omega
    · have hie : i = s.size := by omega
      subst i
      have hAT : (if p < s.size then p else s.size) = p := by split <;> omega
      rw [hAT]
      have hz0 : (0 : Int) ≤ (p : Int) := by omega
      have hz1 : (p : Int) ≤ (s.size : Int) := by omega
      have hx1 := HTX1.out
      clear hAT hil
      have hx2 := HTX2.out
      have hz2 : (0 : Int) ≤ (p : Int) + 1 := by omega
      have hz3 : (p : Int) + 1 ≤ (s.size : Int) := by omega
      have hp1 : ((p : Int) + 1).toNat = p + 1 := by omega
      go_wp2_with fail
      (with_reducible refine (rparse_any T (by omega)).mono ?_)
      rintro e w2 ⟨n_2, a_2, k_2, c_2, rfl, hu_2, hb⟩
      replace HB := Lib.hid (bt HB.out hb)
      replace BR := Lib.hid (blk_next BR.out hb)
      have HA := Lib.hid hu_2
      clear hu_2
      clear hb
      rw [Xh1.out]
      go_wp2_with fail
      have lt1_R : w.heap.size < w2.heap.size := (Array.getElem?_eq_some_iff.1 BR.out).1
      obtain ⟨W3, hW, hs, hb, b0⟩ := alloc1 w2 (.cells #[.bool n_2, .slice a_2 k_2 c_2] 30)
      rw [← hW]
      replace HB := Lib.hid (bt HB.out hb)
      replace HA := Lib.hid (HA.out.below hb)
      replace BR := Lib.hid (blk_next BR.out hb)
      have Ba := Lib.hid b0
      clear hW hs hb b0
      (with_reducible refine (rparse_any U (by omega)).mono ?_)
      rintro e w4 ⟨n_4, a_4, k_4, c_4, rfl, hu_4, hb⟩
      replace HB := Lib.hid (bt HB.out hb)
      replace HA := Lib.hid (HA.out.below hb)
      replace BR := Lib.hid (blk_next BR.out hb)
      replace Ba := Lib.hid (blk_next Ba.out hb)
      have HB1 := Lib.hid hu_4
      clear hu_4
      clear hb
      rw [Xh4.out]
      go_upto_region 13 with fail
      have lt2_R : w.heap.size < w4.heap.size := (Array.getElem?_eq_some_iff.1 BR.out).1
      have lt3_a : w2.heap.size < w4.heap.size := (Array.getElem?_eq_some_iff.1 Ba.out).1
      obtain ⟨W5, hW, hs, hb, b0⟩ := alloc1 w4 (.cells #[.bool n_4, .slice a_4 k_4 c_4] 30)
      rw [← hW]
      replace HB := Lib.hid (bt HB.out hb)
      replace HA := Lib.hid (HA.out.below hb)
      replace HB1 := Lib.hid (HB1.out.below hb)
      replace BR := Lib.hid (blk_next BR.out hb)
      replace Ba := Lib.hid (blk_next Ba.out hb)
      have Bb := Lib.hid b0
      clear hW hs hb b0
      have hsg : (pval U.data.toList).sign = 1 := Int.sign_eq_one_of_pos (pval_pos Xh4.out (by have := Xhnb.out; simp only [not_or] at this; simpa using this.2.1) (fun q => Xhnb.out (.inr (.inr (.inl q)))))
      have lt4_R : w.heap.size < W5.heap.size := (Array.getElem?_eq_some_iff.1 BR.out).1
      have lt5_a : w2.heap.size < W5.heap.size := (Array.getElem?_eq_some_iff.1 Ba.out).1
      have lt6_b : w4.heap.size < W5.heap.size := (Array.getElem?_eq_some_iff.1 Bb.out).1
      obtain ⟨cb0, cb1, fb0, fb1⟩ := res_facts Bb.out
      go_wp2_with fail
      clear cb0 cb1 fb0 fb1
      (with_reducible refine (rsign_any HB1.out).mono ?_)
      rintro e w6 ⟨rfl, hb⟩
      replace HB := Lib.hid (bt HB.out hb)
      replace HA := Lib.hid (HA.out.below hb)
      replace HB1 := Lib.hid (HB1.out.below hb)
      replace BR := Lib.hid (blk_next BR.out hb)
      replace Ba := Lib.hid (blk_next Ba.out hb)
      replace Bb := Lib.hid (blk_next Bb.out hb)
      clear hb
      rw [hsg]
      clear hsg
      have HDT := Lib.hid (body_digits (l := T.data.toList) (by rw [Xh1.out]; decide))
      have HDU := Lib.hid (body_digits (l := U.data.toList) (by rw [Xh4.out]; decide))
      have HEV := Lib.hid ((decide_eq_false (p := U.data.toList ≠ [49] ∧ (lval T.data.toList).gcd (lval U.data.toList) = 1) fun q => Xh9.out q.2).symm)
      go_wp2_with fail
      (with_reducible refine (rcoprime_any T U (by omega) (by omega) HDT.out HDU.out false HEV.out).mono ?_)
      rintro e w7 ⟨rfl, hb⟩
      replace HB := Lib.hid (bt HB.out hb)
      replace HA := Lib.hid (HA.out.below hb)
      replace HB1 := Lib.hid (HB1.out.below hb)
      replace BR := Lib.hid (blk_next BR.out hb)
      replace Ba := Lib.hid (blk_next Ba.out hb)
      replace Bb := Lib.hid (blk_next Bb.out hb)
      clear hb
      have lt7_R : w.heap.size < w7.heap.size := (Array.getElem?_eq_some_iff.1 BR.out).1
      have lt8_a : w2.heap.size < w7.heap.size := (Array.getElem?_eq_some_iff.1 Ba.out).1
      have lt9_b : w4.heap.size < w7.heap.size := (Array.getElem?_eq_some_iff.1 Bb.out).1
      obtain ⟨⟨cR0, cR1, cR2, cR3⟩, fR0, fR1, fR2, fR3⟩ := res4_facts BR.out
      go_wp2
      try simp only [Exit.inBlock, Exit.then]
      refine bodyPost_ret (results_cell_slot rfl _ _ (w.heap.size) 32 _ (0, 0) _ (.int .i64 3) rfl rfl (res4_set BR.out) Tryz.underlying32 rfl (by kernel_rfl)) rfl ?_
      rw [HQ.out.1, HQ.out.2]
      exact ⟨false, none, 0, 0, false, none, 0, 0, rfl, rratR_zero _, fin4 HB.out (by omega)⟩

set_option maxHeartbeats 4000000 in
set_option maxRecDepth 100000 in
theorem rratparse_l061 {w : World} (s : ByteArray) (hs : s.size ≤ 4200) (h2 : slashed s.data.toList = true) (h1 : pcode (topOf s.data.toList) = 0) (h4 : pcode (botOf s.data.toList) = 6) (hnb : ¬ (pcode (botOf s.data.toList) = 3 ∨ negOf (botOf s.data.toList) = true ∨ botOf s.data.toList = [48] ∨ botOf s.data.toList = [49])) (h9 : (lval (topOf s.data.toList)).gcd (lval (botOf s.data.toList)) = 1) :
    Calls Tryz.prog 18 #[.string s] w (rGivesRE w (qval s.data.toList) (qcode s.data.toList)) := by
  have HQ := Lib.hid (show qcode s.data.toList = 6 ∧ qval s.data.toList = 0 from by have := q_lim (l := s.data.toList) (by rw [h1]; decide) h2 hnb (by rw [h1, h4]; decide); rwa [if_pos h9] at this)
  obtain ⟨T, hT⟩ : ∃ T : ByteArray, (⟨(topOf s.data.toList).toArray⟩ : ByteArray) = T := ⟨_, rfl⟩
  have hTl : T.data.toList = topOf s.data.toList := by rw [← hT]
  have hTs : T.size ≤ 4200 := by rw [← bs_len, hTl]; have := top_length s.data.toList; rw [bs_len] at this; omega
  obtain ⟨p, hp⟩ : ∃ p, (topOf s.data.toList).length = p := ⟨_, rfl⟩
  have HTX1 := Lib.hid (cut_top hp)
  rw [hT] at HTX1
  have HPF := Lib.hid (slash_free (s := s) hp)
  have hps : p ≤ s.size := by have := top_length s.data.toList; rw [hp, bs_len] at this; exact this
  obtain ⟨U, hU⟩ : ∃ U : ByteArray, (⟨(botOf s.data.toList).toArray⟩ : ByteArray) = U := ⟨_, rfl⟩
  have hUl : U.data.toList = botOf s.data.toList := by rw [← hU]
  have hUs : U.size ≤ 4200 := by rw [← bs_len, hUl]; have := bot_length s.data.toList; rw [bs_len] at this; omega
  obtain ⟨hpl, hs47⟩ := slash_at (s := s) hp h2
  have HTX2 := Lib.hid (cut_bot hp h2)
  rw [hU] at HTX2
  have hpz : (p : Int) < (s.size : Int) := by omega
  have HTL := Lib.hid hTl
  have HUL := Lib.hid hUl
  rw [← hTl] at h1
  rw [← hUl] at h4
  rw [← hTl, ← hUl] at h9
  rw [← hUl] at hnb
  have Xh1 := Lib.hid h1
  have Xh4 := Lib.hid h4
  have Xh9 := Lib.hid h9
  have Xhnb := Lib.hid hnb
  have hung : negOf U.data.toList = false := by simp only [not_or] at hnb; simpa using hnb.2.1
  have hu1 : 0 < U.size := by
      rw [← bs_len]
      rcases hh : U.data.toList with _ | ⟨c, l⟩
      · rw [hh] at h4; exact absurd h4 (by decide +kernel)
      · simp
  have hu4 : (((U[0]'hu1).toNat : Int) == 45) = false := by
      rw [beq_eq_false_iff_ne]
      intro q
      have := neg_head.2 ⟨by rw [bs_len]; exact hu1, (by exact_mod_cast q : (U.data.toList[0]'(by rw [bs_len]; exact hu1)).toNat = 45)⟩
      rw [hung] at this; cases this
  have hu3 : (0 : Int) < (U.size : Int) := by omega
  clear hung
  clear hT hTl hp h2 h1 h4 h9 hnb hU hUl
  go_enter Tryz.func18, Tryz.ntmps18
  go_wp2_with fail
  obtain ⟨W1, hW, hs, hb, b0⟩ := alloc1 w (.cells #[.bool false, .slice none 0 0, .bool false, .slice none 0 0] 32)
  rw [← hW]
  have HB := Lib.hid hb
  have BR := Lib.hid b0
  clear hW hs hb b0
  go_wp2_with fail
  go_loop [4, 5] (fun at' iv => ∃ i : Nat, i ≤ s.size ∧ iv = .int .i64 i ∧ at' = .int .i64 ((if p < i then p else s.size : Nat) : Int)) (fun _ iv => s.size - (RowKit.intOf iv).toNat)
  case atStart => exact ⟨0, Nat.zero_le _, rfl, int_eq (by rw [if_neg (by omega)])⟩
  case round =>
    obtain ⟨i, hi, rfl, rfl⟩ := hrel
    by_cases hil : i < s.size
    · have hiz : (i : Int) < (s.size : Int) := by omega
      obtain ⟨d, hd⟩ : ∃ d, (s[i]'hil).toNat = d := ⟨_, rfl⟩
      have hnx := HPF.out i hil
      rw [hd] at hnx
      have h47 : i = p → d = 47 := fun q => by subst q; rw [← hd]; exact hs47
      rcases Nat.lt_trichotomy i p with q | q | q
      · have h1 : ((d : Int) == 47) = false := by rw [beq_eq_false_iff_ne]; have := hnx q; omega
        rw [if_neg (show ¬ p < i by omega)]
        clear h47 hnx
        go_wp2
        go_round
        case rel => exact ⟨i + 1, by omega, by go_num, int_eq (by rw [if_neg (show ¬ p < i + 1 by omega)])⟩
        case measure => simp [RowKit.intOf]; omega
      · obtain rfl := h47 q
        rw [if_neg (show ¬ p < i by omega)]
        clear h47 hnx
        go_wp2
        go_round
        case rel => exact ⟨i + 1, by omega, by go_num, int_eq (by rw [if_pos (show p < i + 1 by omega), q])⟩
        case measure => simp [RowKit.intOf]; omega
      · have h2 : ((p : Int) == (s.size : Int)) = false := by rw [beq_eq_false_iff_ne]; omega
        rw [if_pos q]
        clear h47 hnx
        by_cases h1 : d = 47
        · have h3 : ((d : Int) == 47) = true := by rw [h1]; rfl
          clear h1
          go_wp2
          go_round
          case rel => exact ⟨i + 1, by omega, by go_num, int_eq (by rw [if_pos (show p < i + 1 by omega)])⟩
          case measure => simp [RowKit.intOf]; omega
        · have h3 : ((d : Int) == 47) = false := by rw [beq_eq_false_iff_ne]; omega
          clear h1
          go_wp2
          go_round
          case rel => exact ⟨i + 1, by omega, by go_num, int_eq (by rw [if_pos (show p < i + 1 by omega)])⟩
          case measure => simp [RowKit.intOf]; omega
    · have hie : i = s.size := by omega
      subst i
      have hAT : (if p < s.size then p else s.size) = p := by split <;> omega
      rw [hAT]
      have hz0 : (0 : Int) ≤ (p : Int) := by omega
      have hz1 : (p : Int) ≤ (s.size : Int) := by omega
      have hx1 := HTX1.out
      clear hAT hil
      have hx2 := HTX2.out
      have hz2 : (0 : Int) ≤ (p : Int) + 1 := by omega
      have hz3 : (p : Int) + 1 ≤ (s.size : Int) := by omega
      have hp1 : ((p : Int) + 1).toNat = p + 1 := by omega
      go_wp2_with fail
      (with_reducible refine (rparse_any T (by omega)).mono ?_)
      rintro e w2 ⟨n_2, a_2, k_2, c_2, rfl, hu_2, hb⟩
      replace HB := Lib.hid (bt HB.out hb)
      replace BR := Lib.hid (blk_next BR.out hb)
      have HA := Lib.hid hu_2
      clear hu_2
      clear hb
      rw [Xh1.out]
      go_wp2_with fail
      have lt1_R : w.heap.size < w2.heap.size := (Array.getElem?_eq_some_iff.1 BR.out).1
      obtain ⟨W3, hW, hs, hb, b0⟩ := alloc1 w2 (.cells #[.bool n_2, .slice a_2 k_2 c_2] 30)
      rw [← hW]
      replace HB := Lib.hid (bt HB.out hb)
      replace HA := Lib.hid (HA.out.below hb)
      replace BR := Lib.hid (blk_next BR.out hb)
      have Ba := Lib.hid b0
      clear hW hs hb b0
      (with_reducible refine (rparse_any U (by omega)).mono ?_)
      rintro e w4 ⟨n_4, a_4, k_4, c_4, rfl, hu_4, hb⟩
      replace HB := Lib.hid (bt HB.out hb)
      replace HA := Lib.hid (HA.out.below hb)
      replace BR := Lib.hid (blk_next BR.out hb)
      replace Ba := Lib.hid (blk_next Ba.out hb)
      have HB1 := Lib.hid hu_4
      clear hu_4
      clear hb
      rw [Xh4.out]
      go_upto_region 13 with fail
      have lt2_R : w.heap.size < w4.heap.size := (Array.getElem?_eq_some_iff.1 BR.out).1
      have lt3_a : w2.heap.size < w4.heap.size := (Array.getElem?_eq_some_iff.1 Ba.out).1
      obtain ⟨W5, hW, hs, hb, b0⟩ := alloc1 w4 (.cells #[.bool n_4, .slice a_4 k_4 c_4] 30)
      rw [← hW]
      replace HB := Lib.hid (bt HB.out hb)
      replace HA := Lib.hid (HA.out.below hb)
      replace HB1 := Lib.hid (HB1.out.below hb)
      replace BR := Lib.hid (blk_next BR.out hb)
      replace Ba := Lib.hid (blk_next Ba.out hb)
      have Bb := Lib.hid b0
      clear hW hs hb b0
      have HDT := Lib.hid (body_digits (l := T.data.toList) (by rw [Xh1.out]; decide))
      have HDU := Lib.hid (body_digits (l := U.data.toList) (by rw [Xh4.out]; decide))
      have HEV := Lib.hid ((decide_eq_true (p := U.data.toList ≠ [49] ∧ (lval T.data.toList).gcd (lval U.data.toList) = 1) ⟨fun q => Xhnb.out (.inr (.inr (.inr q))), Xh9.out⟩).symm)
      go_wp2_with fail
      (with_reducible refine (rcoprime_any T U (by omega) (by omega) HDT.out HDU.out true HEV.out).mono ?_)
      rintro e w6 ⟨rfl, hb⟩
      replace HB := Lib.hid (bt HB.out hb)
      replace HA := Lib.hid (HA.out.below hb)
      replace HB1 := Lib.hid (HB1.out.below hb)
      replace BR := Lib.hid (blk_next BR.out hb)
      replace Ba := Lib.hid (blk_next Ba.out hb)
      replace Bb := Lib.hid (blk_next Bb.out hb)
      clear hb
      have lt4_R : w.heap.size < w6.heap.size := (Array.getElem?_eq_some_iff.1 BR.out).1
      have lt5_a : w2.heap.size < w6.heap.size := (Array.getElem?_eq_some_iff.1 Ba.out).1
      have lt6_b : w4.heap.size < w6.heap.size := (Array.getElem?_eq_some_iff.1 Bb.out).1
      obtain ⟨⟨cR0, cR1, cR2, cR3⟩, fR0, fR1, fR2, fR3⟩ := res4_facts BR.out
      go_wp2
      try simp only [Exit.inBlock, Exit.then]
      refine bodyPost_ret (results_cell_slot rfl _ _ (w.heap.size) 32 _ (0, 0) _ (.int .i64 6) rfl rfl (res4_set BR.out) Tryz.underlying32 rfl (by kernel_rfl)) rfl ?_
      rw [HQ.out.1, HQ.out.2]
      exact ⟨false, none, 0, 0, false, none, 0, 0, rfl, rratR_zero _, fin4 HB.out (by omega)⟩

set_option maxHeartbeats 4000000 in
set_option maxRecDepth 100000 in
theorem rratparse_l060 {w : World} (s : ByteArray) (hs : s.size ≤ 4200) (h2 : slashed s.data.toList = true) (h1 : pcode (topOf s.data.toList) = 0) (h4 : pcode (botOf s.data.toList) = 6) (hnb : ¬ (pcode (botOf s.data.toList) = 3 ∨ negOf (botOf s.data.toList) = true ∨ botOf s.data.toList = [48] ∨ botOf s.data.toList = [49])) (h9 : ¬ (lval (topOf s.data.toList)).gcd (lval (botOf s.data.toList)) = 1) :
    Calls Tryz.prog 18 #[.string s] w (rGivesRE w (qval s.data.toList) (qcode s.data.toList)) := by
  have HQ := Lib.hid (show qcode s.data.toList = 3 ∧ qval s.data.toList = 0 from by have := q_lim (l := s.data.toList) (by rw [h1]; decide) h2 hnb (by rw [h1, h4]; decide); rwa [if_neg h9] at this)
  obtain ⟨T, hT⟩ : ∃ T : ByteArray, (⟨(topOf s.data.toList).toArray⟩ : ByteArray) = T := ⟨_, rfl⟩
  have hTl : T.data.toList = topOf s.data.toList := by rw [← hT]
  have hTs : T.size ≤ 4200 := by rw [← bs_len, hTl]; have := top_length s.data.toList; rw [bs_len] at this; omega
  obtain ⟨p, hp⟩ : ∃ p, (topOf s.data.toList).length = p := ⟨_, rfl⟩
  have HTX1 := Lib.hid (cut_top hp)
  rw [hT] at HTX1
  have HPF := Lib.hid (slash_free (s := s) hp)
  have hps : p ≤ s.size := by have := top_length s.data.toList; rw [hp, bs_len] at this; exact this
  obtain ⟨U, hU⟩ : ∃ U : ByteArray, (⟨(botOf s.data.toList).toArray⟩ : ByteArray) = U := ⟨_, rfl⟩
  have hUl : U.data.toList = botOf s.data.toList := by rw [← hU]
  have hUs : U.size ≤ 4200 := by rw [← bs_len, hUl]; have := bot_length s.data.toList; rw [bs_len] at this; omega
  obtain ⟨hpl, hs47⟩ := slash_at (s := s) hp h2
  have HTX2 := Lib.hid (cut_bot hp h2)
  rw [hU] at HTX2
  have hpz : (p : Int) < (s.size : Int) := by omega
  have HTL := Lib.hid hTl
  have HUL := Lib.hid hUl
  rw [← hTl] at h1
  rw [← hUl] at h4
  rw [← hTl, ← hUl] at h9
  rw [← hUl] at hnb
  have Xh1 := Lib.hid h1
  have Xh4 := Lib.hid h4
  have Xh9 := Lib.hid h9
  have Xhnb := Lib.hid hnb
  have hung : negOf U.data.toList = false := by simp only [not_or] at hnb; simpa using hnb.2.1
  have hu1 : 0 < U.size := by
      rw [← bs_len]
      rcases hh : U.data.toList with _ | ⟨c, l⟩
      · rw [hh] at h4; exact absurd h4 (by decide +kernel)
      · simp
  have hu4 : (((U[0]'hu1).toNat : Int) == 45) = false := by
      rw [beq_eq_false_iff_ne]
      intro q
      have := neg_head.2 ⟨by rw [bs_len]; exact hu1, (by exact_mod_cast q : (U.data.toList[0]'(by rw [bs_len]; exact hu1)).toNat = 45)⟩
      rw [hung] at this; cases this
  have hu3 : (0 : Int) < (U.size : Int) := by omega
  clear hung
  clear hT hTl hp h2 h1 h4 h9 hnb hU hUl
  go_enter Tryz.func18, Tryz.ntmps18
  go_wp2_with fail
  obtain ⟨W1, hW, hs, hb, b0⟩ := alloc1 w (.cells #[.bool false, .slice none 0 0, .bool false, .slice none 0 0] 32)
  rw [← hW]
  have HB := Lib.hid hb
  have BR := Lib.hid b0
  clear hW hs hb b0
  go_wp2_with fail
  go_loop [4, 5] (fun at' iv => ∃ i : Nat, i ≤ s.size ∧ iv = .int .i64 i ∧ at' = .int .i64 ((if p < i then p else s.size : Nat) : Int)) (fun _ iv => s.size - (RowKit.intOf iv).toNat)
  case atStart => exact ⟨0, Nat.zero_le _, rfl, int_eq (by rw [if_neg (by omega)])⟩
  case round =>
    obtain ⟨i, hi, rfl, rfl⟩ := hrel
    by_cases hil : i < s.size
    · have hiz : (i : Int) < (s.size : Int) := by omega
      obtain ⟨d, hd⟩ : ∃ d, (s[i]'hil).toNat = d := ⟨_, rfl⟩
      have hnx := HPF.out i hil
      rw [hd] at hnx
      have h47 : i = p → d = 47 := fun q => by subst q; rw [← hd]; exact hs47
      rcases Nat.lt_trichotomy i p with q | q | q
      · have h1 : ((d : Int) == 47) = false := by rw [beq_eq_false_iff_ne]; have := hnx q; omega
        rw [if_neg (show ¬ p < i by omega)]
        clear h47 hnx
        go_wp2
        go_round
        case rel => exact ⟨i + 1, by omega, by go_num, int_eq (by rw [if_neg (show ¬ p < i + 1 by omega)])⟩
        case measure => simp [RowKit.intOf]; omega
      · obtain rfl := h47 q
        rw [if_neg (show ¬ p < i by omega)]
        clear h47 hnx
        go_wp2
        go_round
        case rel => exact ⟨i + 1, by omega, by go_num, int_eq (by rw [if_pos (show p < i + 1 by omega), q])⟩
        case measure => simp [RowKit.intOf]; omega
      · have h2 : ((p : Int) == (s.size : Int)) = false := by rw [beq_eq_false_iff_ne]; omega
        rw [if_pos q]
        clear h47 hnx
        by_cases h1 : d = 47
        · have h3 : ((d : Int) == 47) = true := by rw [h1]; rfl
          clear h1
          go_wp2
          go_round
          case rel => exact ⟨i + 1, by omega, by go_num, int_eq (by rw [if_pos (show p < i + 1 by omega)])⟩
          case measure => simp [RowKit.intOf]; omega
        · have h3 : ((d : Int) == 47) = false := by rw [beq_eq_false_iff_ne]; omega
          clear h1
          go_wp2
          go_round
          case rel => exact ⟨i + 1, by omega, by go_num, int_eq (by rw [if_pos (show p < i + 1 by omega)])⟩
          case measure => simp [RowKit.intOf]; omega
    · have hie : i = s.size := by omega
      subst i
      have hAT : (if p < s.size then p else s.size) = p := by split <;> omega
      rw [hAT]
      have hz0 : (0 : Int) ≤ (p : Int) := by omega
      have hz1 : (p : Int) ≤ (s.size : Int) := by omega
      have hx1 := HTX1.out
      clear hAT hil
      have hx2 := HTX2.out
      have hz2 : (0 : Int) ≤ (p : Int) + 1 := by omega
      have hz3 : (p : Int) + 1 ≤ (s.size : Int) := by omega
      have hp1 : ((p : Int) + 1).toNat = p + 1 := by omega
      go_wp2_with fail
      (with_reducible refine (rparse_any T (by omega)).mono ?_)
      rintro e w2 ⟨n_2, a_2, k_2, c_2, rfl, hu_2, hb⟩
      replace HB := Lib.hid (bt HB.out hb)
      replace BR := Lib.hid (blk_next BR.out hb)
      have HA := Lib.hid hu_2
      clear hu_2
      clear hb
      rw [Xh1.out]
      go_wp2_with fail
      have lt1_R : w.heap.size < w2.heap.size := (Array.getElem?_eq_some_iff.1 BR.out).1
      obtain ⟨W3, hW, hs, hb, b0⟩ := alloc1 w2 (.cells #[.bool n_2, .slice a_2 k_2 c_2] 30)
      rw [← hW]
      replace HB := Lib.hid (bt HB.out hb)
      replace HA := Lib.hid (HA.out.below hb)
      replace BR := Lib.hid (blk_next BR.out hb)
      have Ba := Lib.hid b0
      clear hW hs hb b0
      (with_reducible refine (rparse_any U (by omega)).mono ?_)
      rintro e w4 ⟨n_4, a_4, k_4, c_4, rfl, hu_4, hb⟩
      replace HB := Lib.hid (bt HB.out hb)
      replace HA := Lib.hid (HA.out.below hb)
      replace BR := Lib.hid (blk_next BR.out hb)
      replace Ba := Lib.hid (blk_next Ba.out hb)
      have HB1 := Lib.hid hu_4
      clear hu_4
      clear hb
      rw [Xh4.out]
      go_upto_region 13 with fail
      have lt2_R : w.heap.size < w4.heap.size := (Array.getElem?_eq_some_iff.1 BR.out).1
      have lt3_a : w2.heap.size < w4.heap.size := (Array.getElem?_eq_some_iff.1 Ba.out).1
      obtain ⟨W5, hW, hs, hb, b0⟩ := alloc1 w4 (.cells #[.bool n_4, .slice a_4 k_4 c_4] 30)
      rw [← hW]
      replace HB := Lib.hid (bt HB.out hb)
      replace HA := Lib.hid (HA.out.below hb)
      replace HB1 := Lib.hid (HB1.out.below hb)
      replace BR := Lib.hid (blk_next BR.out hb)
      replace Ba := Lib.hid (blk_next Ba.out hb)
      have Bb := Lib.hid b0
      clear hW hs hb b0
      have HDT := Lib.hid (body_digits (l := T.data.toList) (by rw [Xh1.out]; decide))
      have HDU := Lib.hid (body_digits (l := U.data.toList) (by rw [Xh4.out]; decide))
      have HEV := Lib.hid ((decide_eq_false (p := U.data.toList ≠ [49] ∧ (lval T.data.toList).gcd (lval U.data.toList) = 1) fun q => Xh9.out q.2).symm)
      go_wp2_with fail
      (with_reducible refine (rcoprime_any T U (by omega) (by omega) HDT.out HDU.out false HEV.out).mono ?_)
      rintro e w6 ⟨rfl, hb⟩
      replace HB := Lib.hid (bt HB.out hb)
      replace HA := Lib.hid (HA.out.below hb)
      replace HB1 := Lib.hid (HB1.out.below hb)
      replace BR := Lib.hid (blk_next BR.out hb)
      replace Ba := Lib.hid (blk_next Ba.out hb)
      replace Bb := Lib.hid (blk_next Bb.out hb)
      clear hb
      have lt4_R : w.heap.size < w6.heap.size := (Array.getElem?_eq_some_iff.1 BR.out).1
      have lt5_a : w2.heap.size < w6.heap.size := (Array.getElem?_eq_some_iff.1 Ba.out).1
      have lt6_b : w4.heap.size < w6.heap.size := (Array.getElem?_eq_some_iff.1 Bb.out).1
      obtain ⟨⟨cR0, cR1, cR2, cR3⟩, fR0, fR1, fR2, fR3⟩ := res4_facts BR.out
      go_wp2
      try simp only [Exit.inBlock, Exit.then]
      refine bodyPost_ret (results_cell_slot rfl _ _ (w.heap.size) 32 _ (0, 0) _ (.int .i64 3) rfl rfl (res4_set BR.out) Tryz.underlying32 rfl (by kernel_rfl)) rfl ?_
      rw [HQ.out.1, HQ.out.2]
      exact ⟨false, none, 0, 0, false, none, 0, 0, rfl, rratR_zero _, fin4 HB.out (by omega)⟩

set_option maxHeartbeats 4000000 in
set_option maxRecDepth 100000 in
theorem rratparse_l661 {w : World} (s : ByteArray) (hs : s.size ≤ 4200) (h2 : slashed s.data.toList = true) (h1 : pcode (topOf s.data.toList) = 6) (h4 : pcode (botOf s.data.toList) = 6) (hnb : ¬ (pcode (botOf s.data.toList) = 3 ∨ negOf (botOf s.data.toList) = true ∨ botOf s.data.toList = [48] ∨ botOf s.data.toList = [49])) (h9 : (lval (topOf s.data.toList)).gcd (lval (botOf s.data.toList)) = 1) :
    Calls Tryz.prog 18 #[.string s] w (rGivesRE w (qval s.data.toList) (qcode s.data.toList)) := by
  have HQ := Lib.hid (show qcode s.data.toList = 6 ∧ qval s.data.toList = 0 from by have := q_lim (l := s.data.toList) (by rw [h1]; decide) h2 hnb (by rw [h1, h4]; decide); rwa [if_pos h9] at this)
  obtain ⟨T, hT⟩ : ∃ T : ByteArray, (⟨(topOf s.data.toList).toArray⟩ : ByteArray) = T := ⟨_, rfl⟩
  have hTl : T.data.toList = topOf s.data.toList := by rw [← hT]
  have hTs : T.size ≤ 4200 := by rw [← bs_len, hTl]; have := top_length s.data.toList; rw [bs_len] at this; omega
  obtain ⟨p, hp⟩ : ∃ p, (topOf s.data.toList).length = p := ⟨_, rfl⟩
  have HTX1 := Lib.hid (cut_top hp)
  rw [hT] at HTX1
  have HPF := Lib.hid (slash_free (s := s) hp)
  have hps : p ≤ s.size := by have := top_length s.data.toList; rw [hp, bs_len] at this; exact this
  obtain ⟨U, hU⟩ : ∃ U : ByteArray, (⟨(botOf s.data.toList).toArray⟩ : ByteArray) = U := ⟨_, rfl⟩
  have hUl : U.data.toList = botOf s.data.toList := by rw [← hU]
  have hUs : U.size ≤ 4200 := by rw [← bs_len, hUl]; have := bot_length s.data.toList; rw [bs_len] at this; omega
  obtain ⟨hpl, hs47⟩ := slash_at (s := s) hp h2
  have HTX2 := Lib.hid (cut_bot hp h2)
  rw [hU] at HTX2
  have hpz : (p : Int) < (s.size : Int) := by omega
  have HTL := Lib.hid hTl
  have HUL := Lib.hid hUl
  rw [← hTl] at h1
  rw [← hUl] at h4
  rw [← hTl, ← hUl] at h9
  rw [← hUl] at hnb
  have Xh1 := Lib.hid h1
  have Xh4 := Lib.hid h4
  have Xh9 := Lib.hid h9
  have Xhnb := Lib.hid hnb
  have hung : negOf U.data.toList = false := by simp only [not_or] at hnb; simpa using hnb.2.1
  have hu1 : 0 < U.size := by
      rw [← bs_len]
      rcases hh : U.data.toList with _ | ⟨c, l⟩
      · rw [hh] at h4; exact absurd h4 (by decide +kernel)
      · simp
  have hu4 : (((U[0]'hu1).toNat : Int) == 45) = false := by
      rw [beq_eq_false_iff_ne]
      intro q
      have := neg_head.2 ⟨by rw [bs_len]; exact hu1, (by exact_mod_cast q : (U.data.toList[0]'(by rw [bs_len]; exact hu1)).toNat = 45)⟩
      rw [hung] at this; cases this
  have hu3 : (0 : Int) < (U.size : Int) := by omega
  clear hung
  clear hT hTl hp h2 h1 h4 h9 hnb hU hUl
  go_enter Tryz.func18, Tryz.ntmps18
  go_wp2_with fail
  obtain ⟨W1, hW, hs, hb, b0⟩ := alloc1 w (.cells #[.bool false, .slice none 0 0, .bool false, .slice none 0 0] 32)
  rw [← hW]
  have HB := Lib.hid hb
  have BR := Lib.hid b0
  clear hW hs hb b0
  go_wp2_with fail
  go_loop [4, 5] (fun at' iv => ∃ i : Nat, i ≤ s.size ∧ iv = .int .i64 i ∧ at' = .int .i64 ((if p < i then p else s.size : Nat) : Int)) (fun _ iv => s.size - (RowKit.intOf iv).toNat)
  case atStart => exact ⟨0, Nat.zero_le _, rfl, int_eq (by rw [if_neg (by omega)])⟩
  case round =>
    obtain ⟨i, hi, rfl, rfl⟩ := hrel
    by_cases hil : i < s.size
    · have hiz : (i : Int) < (s.size : Int) := by omega
      obtain ⟨d, hd⟩ : ∃ d, (s[i]'hil).toNat = d := ⟨_, rfl⟩
      have hnx := HPF.out i hil
      rw [hd] at hnx
      have h47 : i = p → d = 47 := fun q => by subst q; rw [← hd]; exact hs47
      rcases Nat.lt_trichotomy i p with q | q | q
      · have h1 : ((d : Int) == 47) = false := by rw [beq_eq_false_iff_ne]; have := hnx q; omega
        rw [if_neg (show ¬ p < i by omega)]
        clear h47 hnx
        go_wp2
        go_round
        case rel => exact ⟨i + 1, by omega, by go_num, int_eq (by rw [if_neg (show ¬ p < i + 1 by omega)])⟩
        case measure => simp [RowKit.intOf]; omega
      · obtain rfl := h47 q
        rw [if_neg (show ¬ p < i by omega)]
        clear h47 hnx
        go_wp2
        go_round
        case rel => exact ⟨i + 1, by omega, by go_num, int_eq (by rw [if_pos (show p < i + 1 by omega), q])⟩
        case measure => simp [RowKit.intOf]; omega
      · have h2 : ((p : Int) == (s.size : Int)) = false := by rw [beq_eq_false_iff_ne]; omega
        rw [if_pos q]
        clear h47 hnx
        by_cases h1 : d = 47
        · have h3 : ((d : Int) == 47) = true := by rw [h1]; rfl
          clear h1
          go_wp2
          go_round
          case rel => exact ⟨i + 1, by omega, by go_num, int_eq (by rw [if_pos (show p < i + 1 by omega)])⟩
          case measure => simp [RowKit.intOf]; omega
        · have h3 : ((d : Int) == 47) = false := by rw [beq_eq_false_iff_ne]; omega
          clear h1
          go_wp2
          go_round
          case rel => exact ⟨i + 1, by omega, by go_num, int_eq (by rw [if_pos (show p < i + 1 by omega)])⟩
          case measure => simp [RowKit.intOf]; omega
    · have hie : i = s.size := by omega
      subst i
      have hAT : (if p < s.size then p else s.size) = p := by split <;> omega
      rw [hAT]
      have hz0 : (0 : Int) ≤ (p : Int) := by omega
      have hz1 : (p : Int) ≤ (s.size : Int) := by omega
      have hx1 := HTX1.out
      clear hAT hil
      have hx2 := HTX2.out
      have hz2 : (0 : Int) ≤ (p : Int) + 1 := by omega
      have hz3 : (p : Int) + 1 ≤ (s.size : Int) := by omega
      have hp1 : ((p : Int) + 1).toNat = p + 1 := by omega
      go_wp2_with fail
      (with_reducible refine (rparse_any T (by omega)).mono ?_)
      rintro e w2 ⟨n_2, a_2, k_2, c_2, rfl, hu_2, hb⟩
      replace HB := Lib.hid (bt HB.out hb)
      replace BR := Lib.hid (blk_next BR.out hb)
      have HA := Lib.hid hu_2
      clear hu_2
      clear hb
      rw [Xh1.out]
      go_wp2_with fail
      have lt1_R : w.heap.size < w2.heap.size := (Array.getElem?_eq_some_iff.1 BR.out).1
      obtain ⟨W3, hW, hs, hb, b0⟩ := alloc1 w2 (.cells #[.bool n_2, .slice a_2 k_2 c_2] 30)
      rw [← hW]
      replace HB := Lib.hid (bt HB.out hb)
      replace HA := Lib.hid (HA.out.below hb)
      replace BR := Lib.hid (blk_next BR.out hb)
      have Ba := Lib.hid b0
      clear hW hs hb b0
      (with_reducible refine (rparse_any U (by omega)).mono ?_)
      rintro e w4 ⟨n_4, a_4, k_4, c_4, rfl, hu_4, hb⟩
      replace HB := Lib.hid (bt HB.out hb)
      replace HA := Lib.hid (HA.out.below hb)
      replace BR := Lib.hid (blk_next BR.out hb)
      replace Ba := Lib.hid (blk_next Ba.out hb)
      have HB1 := Lib.hid hu_4
      clear hu_4
      clear hb
      rw [Xh4.out]
      go_upto_region 13 with fail
      have lt2_R : w.heap.size < w4.heap.size := (Array.getElem?_eq_some_iff.1 BR.out).1
      have lt3_a : w2.heap.size < w4.heap.size := (Array.getElem?_eq_some_iff.1 Ba.out).1
      obtain ⟨W5, hW, hs, hb, b0⟩ := alloc1 w4 (.cells #[.bool n_4, .slice a_4 k_4 c_4] 30)
      rw [← hW]
      replace HB := Lib.hid (bt HB.out hb)
      replace HA := Lib.hid (HA.out.below hb)
      replace HB1 := Lib.hid (HB1.out.below hb)
      replace BR := Lib.hid (blk_next BR.out hb)
      replace Ba := Lib.hid (blk_next Ba.out hb)
      have Bb := Lib.hid b0
      clear hW hs hb b0
      have HDT := Lib.hid (body_digits (l := T.data.toList) (by rw [Xh1.out]; decide))
      have HDU := Lib.hid (body_digits (l := U.data.toList) (by rw [Xh4.out]; decide))
      have HEV := Lib.hid ((decide_eq_true (p := U.data.toList ≠ [49] ∧ (lval T.data.toList).gcd (lval U.data.toList) = 1) ⟨fun q => Xhnb.out (.inr (.inr (.inr q))), Xh9.out⟩).symm)
      go_wp2_with fail
      (with_reducible refine (rcoprime_any T U (by omega) (by omega) HDT.out HDU.out true HEV.out).mono ?_)
      rintro e w6 ⟨rfl, hb⟩
      replace HB := Lib.hid (bt HB.out hb)
      replace HA := Lib.hid (HA.out.below hb)
      replace HB1 := Lib.hid (HB1.out.below hb)
      replace BR := Lib.hid (blk_next BR.out hb)
      replace Ba := Lib.hid (blk_next Ba.out hb)
      replace Bb := Lib.hid (blk_next Bb.out hb)
      clear hb
      have lt4_R : w.heap.size < w6.heap.size := (Array.getElem?_eq_some_iff.1 BR.out).1
      have lt5_a : w2.heap.size < w6.heap.size := (Array.getElem?_eq_some_iff.1 Ba.out).1
      have lt6_b : w4.heap.size < w6.heap.size := (Array.getElem?_eq_some_iff.1 Bb.out).1
      obtain ⟨⟨cR0, cR1, cR2, cR3⟩, fR0, fR1, fR2, fR3⟩ := res4_facts BR.out
      go_wp2
      try simp only [Exit.inBlock, Exit.then]
      refine bodyPost_ret (results_cell_slot rfl _ _ (w.heap.size) 32 _ (0, 0) _ (.int .i64 6) rfl rfl (res4_set BR.out) Tryz.underlying32 rfl (by kernel_rfl)) rfl ?_
      rw [HQ.out.1, HQ.out.2]
      exact ⟨false, none, 0, 0, false, none, 0, 0, rfl, rratR_zero _, fin4 HB.out (by omega)⟩

set_option maxHeartbeats 4000000 in
set_option maxRecDepth 100000 in
theorem rratparse_l660 {w : World} (s : ByteArray) (hs : s.size ≤ 4200) (h2 : slashed s.data.toList = true) (h1 : pcode (topOf s.data.toList) = 6) (h4 : pcode (botOf s.data.toList) = 6) (hnb : ¬ (pcode (botOf s.data.toList) = 3 ∨ negOf (botOf s.data.toList) = true ∨ botOf s.data.toList = [48] ∨ botOf s.data.toList = [49])) (h9 : ¬ (lval (topOf s.data.toList)).gcd (lval (botOf s.data.toList)) = 1) :
    Calls Tryz.prog 18 #[.string s] w (rGivesRE w (qval s.data.toList) (qcode s.data.toList)) := by
  have HQ := Lib.hid (show qcode s.data.toList = 3 ∧ qval s.data.toList = 0 from by have := q_lim (l := s.data.toList) (by rw [h1]; decide) h2 hnb (by rw [h1, h4]; decide); rwa [if_neg h9] at this)
  obtain ⟨T, hT⟩ : ∃ T : ByteArray, (⟨(topOf s.data.toList).toArray⟩ : ByteArray) = T := ⟨_, rfl⟩
  have hTl : T.data.toList = topOf s.data.toList := by rw [← hT]
  have hTs : T.size ≤ 4200 := by rw [← bs_len, hTl]; have := top_length s.data.toList; rw [bs_len] at this; omega
  obtain ⟨p, hp⟩ : ∃ p, (topOf s.data.toList).length = p := ⟨_, rfl⟩
  have HTX1 := Lib.hid (cut_top hp)
  rw [hT] at HTX1
  have HPF := Lib.hid (slash_free (s := s) hp)
  have hps : p ≤ s.size := by have := top_length s.data.toList; rw [hp, bs_len] at this; exact this
  obtain ⟨U, hU⟩ : ∃ U : ByteArray, (⟨(botOf s.data.toList).toArray⟩ : ByteArray) = U := ⟨_, rfl⟩
  have hUl : U.data.toList = botOf s.data.toList := by rw [← hU]
  have hUs : U.size ≤ 4200 := by rw [← bs_len, hUl]; have := bot_length s.data.toList; rw [bs_len] at this; omega
  obtain ⟨hpl, hs47⟩ := slash_at (s := s) hp h2
  have HTX2 := Lib.hid (cut_bot hp h2)
  rw [hU] at HTX2
  have hpz : (p : Int) < (s.size : Int) := by omega
  have HTL := Lib.hid hTl
  have HUL := Lib.hid hUl
  rw [← hTl] at h1
  rw [← hUl] at h4
  rw [← hTl, ← hUl] at h9
  rw [← hUl] at hnb
  have Xh1 := Lib.hid h1
  have Xh4 := Lib.hid h4
  have Xh9 := Lib.hid h9
  have Xhnb := Lib.hid hnb
  have hung : negOf U.data.toList = false := by simp only [not_or] at hnb; simpa using hnb.2.1
  have hu1 : 0 < U.size := by
      rw [← bs_len]
      rcases hh : U.data.toList with _ | ⟨c, l⟩
      · rw [hh] at h4; exact absurd h4 (by decide +kernel)
      · simp
  have hu4 : (((U[0]'hu1).toNat : Int) == 45) = false := by
      rw [beq_eq_false_iff_ne]
      intro q
      have := neg_head.2 ⟨by rw [bs_len]; exact hu1, (by exact_mod_cast q : (U.data.toList[0]'(by rw [bs_len]; exact hu1)).toNat = 45)⟩
      rw [hung] at this; cases this
  have hu3 : (0 : Int) < (U.size : Int) := by omega
  clear hung
  clear hT hTl hp h2 h1 h4 h9 hnb hU hUl
  go_enter Tryz.func18, Tryz.ntmps18
  go_wp2_with fail
  obtain ⟨W1, hW, hs, hb, b0⟩ := alloc1 w (.cells #[.bool false, .slice none 0 0, .bool false, .slice none 0 0] 32)
  rw [← hW]
  have HB := Lib.hid hb
  have BR := Lib.hid b0
  clear hW hs hb b0
  go_wp2_with fail
  go_loop [4, 5] (fun at' iv => ∃ i : Nat, i ≤ s.size ∧ iv = .int .i64 i ∧ at' = .int .i64 ((if p < i then p else s.size : Nat) : Int)) (fun _ iv => s.size - (RowKit.intOf iv).toNat)
  case atStart => exact ⟨0, Nat.zero_le _, rfl, int_eq (by rw [if_neg (by omega)])⟩
  case round =>
    obtain ⟨i, hi, rfl, rfl⟩ := hrel
    by_cases hil : i < s.size
    · have hiz : (i : Int) < (s.size : Int) := by omega
      obtain ⟨d, hd⟩ : ∃ d, (s[i]'hil).toNat = d := ⟨_, rfl⟩
      have hnx := HPF.out i hil
      rw [hd] at hnx
      have h47 : i = p → d = 47 := fun q => by subst q; rw [← hd]; exact hs47
      rcases Nat.lt_trichotomy i p with q | q | q
      · have h1 : ((d : Int) == 47) = false := by rw [beq_eq_false_iff_ne]; have := hnx q; omega
        rw [if_neg (show ¬ p < i by omega)]
        clear h47 hnx
        go_wp2
        go_round
        case rel => exact ⟨i + 1, by omega, by go_num, int_eq (by rw [if_neg (show ¬ p < i + 1 by omega)])⟩
        case measure => simp [RowKit.intOf]; omega
      · obtain rfl := h47 q
        rw [if_neg (show ¬ p < i by omega)]
        clear h47 hnx
        go_wp2
        go_round
        case rel => exact ⟨i + 1, by omega, by go_num, int_eq (by rw [if_pos (show p < i + 1 by omega), q])⟩
        case measure => simp [RowKit.intOf]; omega
      · have h2 : ((p : Int) == (s.size : Int)) = false := by rw [beq_eq_false_iff_ne]; omega
        rw [if_pos q]
        clear h47 hnx
        by_cases h1 : d = 47
        · have h3 : ((d : Int) == 47) = true := by rw [h1]; rfl
          clear h1
          go_wp2
          go_round
          case rel => exact ⟨i + 1, by omega, by go_num, int_eq (by rw [if_pos (show p < i + 1 by omega)])⟩
          case measure => simp [RowKit.intOf]; omega
        · have h3 : ((d : Int) == 47) = false := by rw [beq_eq_false_iff_ne]; omega
          clear h1
          go_wp2
          go_round
          case rel => exact ⟨i + 1, by omega, by go_num, int_eq (by rw [if_pos (show p < i + 1 by omega)])⟩
          case measure => simp [RowKit.intOf]; omega
    · have hie : i = s.size := by omega
      subst i
      have hAT : (if p < s.size then p else s.size) = p := by split <;> omega
      rw [hAT]
      have hz0 : (0 : Int) ≤ (p : Int) := by omega
      have hz1 : (p : Int) ≤ (s.size : Int) := by omega
      have hx1 := HTX1.out
      clear hAT hil
      have hx2 := HTX2.out
      have hz2 : (0 : Int) ≤ (p : Int) + 1 := by omega
      have hz3 : (p : Int) + 1 ≤ (s.size : Int) := by omega
      have hp1 : ((p : Int) + 1).toNat = p + 1 := by omega
      go_wp2_with fail
      (with_reducible refine (rparse_any T (by omega)).mono ?_)
      rintro e w2 ⟨n_2, a_2, k_2, c_2, rfl, hu_2, hb⟩
      replace HB := Lib.hid (bt HB.out hb)
      replace BR := Lib.hid (blk_next BR.out hb)
      have HA := Lib.hid hu_2
      clear hu_2
      clear hb
      rw [Xh1.out]
      go_wp2_with fail
      have lt1_R : w.heap.size < w2.heap.size := (Array.getElem?_eq_some_iff.1 BR.out).1
      obtain ⟨W3, hW, hs, hb, b0⟩ := alloc1 w2 (.cells #[.bool n_2, .slice a_2 k_2 c_2] 30)
      rw [← hW]
      replace HB := Lib.hid (bt HB.out hb)
      replace HA := Lib.hid (HA.out.below hb)
      replace BR := Lib.hid (blk_next BR.out hb)
      have Ba := Lib.hid b0
      clear hW hs hb b0
      (with_reducible refine (rparse_any U (by omega)).mono ?_)
      rintro e w4 ⟨n_4, a_4, k_4, c_4, rfl, hu_4, hb⟩
      replace HB := Lib.hid (bt HB.out hb)
      replace HA := Lib.hid (HA.out.below hb)
      replace BR := Lib.hid (blk_next BR.out hb)
      replace Ba := Lib.hid (blk_next Ba.out hb)
      have HB1 := Lib.hid hu_4
      clear hu_4
      clear hb
      rw [Xh4.out]
      go_upto_region 13 with fail
      have lt2_R : w.heap.size < w4.heap.size := (Array.getElem?_eq_some_iff.1 BR.out).1
      have lt3_a : w2.heap.size < w4.heap.size := (Array.getElem?_eq_some_iff.1 Ba.out).1
      obtain ⟨W5, hW, hs, hb, b0⟩ := alloc1 w4 (.cells #[.bool n_4, .slice a_4 k_4 c_4] 30)
      rw [← hW]
      replace HB := Lib.hid (bt HB.out hb)
      replace HA := Lib.hid (HA.out.below hb)
      replace HB1 := Lib.hid (HB1.out.below hb)
      replace BR := Lib.hid (blk_next BR.out hb)
      replace Ba := Lib.hid (blk_next Ba.out hb)
      have Bb := Lib.hid b0
      clear hW hs hb b0
      have HDT := Lib.hid (body_digits (l := T.data.toList) (by rw [Xh1.out]; decide))
      have HDU := Lib.hid (body_digits (l := U.data.toList) (by rw [Xh4.out]; decide))
      have HEV := Lib.hid ((decide_eq_false (p := U.data.toList ≠ [49] ∧ (lval T.data.toList).gcd (lval U.data.toList) = 1) fun q => Xh9.out q.2).symm)
      go_wp2_with fail
      (with_reducible refine (rcoprime_any T U (by omega) (by omega) HDT.out HDU.out false HEV.out).mono ?_)
      rintro e w6 ⟨rfl, hb⟩
      replace HB := Lib.hid (bt HB.out hb)
      replace HA := Lib.hid (HA.out.below hb)
      replace HB1 := Lib.hid (HB1.out.below hb)
      replace BR := Lib.hid (blk_next BR.out hb)
      replace Ba := Lib.hid (blk_next Ba.out hb)
      replace Bb := Lib.hid (blk_next Bb.out hb)
      clear hb
      have lt4_R : w.heap.size < w6.heap.size := (Array.getElem?_eq_some_iff.1 BR.out).1
      have lt5_a : w2.heap.size < w6.heap.size := (Array.getElem?_eq_some_iff.1 Ba.out).1
      have lt6_b : w4.heap.size < w6.heap.size := (Array.getElem?_eq_some_iff.1 Bb.out).1
      obtain ⟨⟨cR0, cR1, cR2, cR3⟩, fR0, fR1, fR2, fR3⟩ := res4_facts BR.out
      go_wp2
      try simp only [Exit.inBlock, Exit.then]
      refine bodyPost_ret (results_cell_slot rfl _ _ (w.heap.size) 32 _ (0, 0) _ (.int .i64 3) rfl rfl (res4_set BR.out) Tryz.underlying32 rfl (by kernel_rfl)) rfl ?_
      rw [HQ.out.1, HQ.out.2]
      exact ⟨false, none, 0, 0, false, none, 0, 0, rfl, rratR_zero _, fin4 HB.out (by omega)⟩

set_option maxHeartbeats 4000000 in
set_option maxRecDepth 100000 in
theorem rratparse_l49 {w : World} (s : ByteArray) (hs : s.size ≤ 4200) (h2 : slashed s.data.toList = true) (h1 : pcode (topOf s.data.toList) = 6) (h6 : botOf s.data.toList = [49]) :
    Calls Tryz.prog 18 #[.string s] w (rGivesRE w (qval s.data.toList) (qcode s.data.toList)) := by
  have HQ := Lib.hid (q_bot (by rw [h1]; decide) h2 (.inr (.inr (.inr h6))))
  obtain ⟨T, hT⟩ : ∃ T : ByteArray, (⟨(topOf s.data.toList).toArray⟩ : ByteArray) = T := ⟨_, rfl⟩
  have hTl : T.data.toList = topOf s.data.toList := by rw [← hT]
  have hTs : T.size ≤ 4200 := by rw [← bs_len, hTl]; have := top_length s.data.toList; rw [bs_len] at this; omega
  obtain ⟨p, hp⟩ : ∃ p, (topOf s.data.toList).length = p := ⟨_, rfl⟩
  have HTX1 := Lib.hid (cut_top hp)
  rw [hT] at HTX1
  have HPF := Lib.hid (slash_free (s := s) hp)
  have hps : p ≤ s.size := by have := top_length s.data.toList; rw [hp, bs_len] at this; exact this
  obtain ⟨U, hU⟩ : ∃ U : ByteArray, (⟨(botOf s.data.toList).toArray⟩ : ByteArray) = U := ⟨_, rfl⟩
  have hUl : U.data.toList = botOf s.data.toList := by rw [← hU]
  have hUs : U.size ≤ 4200 := by rw [← bs_len, hUl]; have := bot_length s.data.toList; rw [bs_len] at this; omega
  obtain ⟨hpl, hs47⟩ := slash_at (s := s) hp h2
  have HTX2 := Lib.hid (cut_bot hp h2)
  rw [hU] at HTX2
  have hpz : (p : Int) < (s.size : Int) := by omega
  have HTL := Lib.hid hTl
  have HUL := Lib.hid hUl
  rw [← hTl] at h1
  rw [← hUl] at h6
  have Xh1 := Lib.hid h1
  have Xh6 := Lib.hid h6
  clear hT hTl hp h2 h1 h6 hU hUl
  go_enter Tryz.func18, Tryz.ntmps18
  go_wp2_with fail
  obtain ⟨W1, hW, hs, hb, b0⟩ := alloc1 w (.cells #[.bool false, .slice none 0 0, .bool false, .slice none 0 0] 32)
  rw [← hW]
  have HB := Lib.hid hb
  have BR := Lib.hid b0
  clear hW hs hb b0
  go_wp2_with fail
  go_loop [4, 5] (fun at' iv => ∃ i : Nat, i ≤ s.size ∧ iv = .int .i64 i ∧ at' = .int .i64 ((if p < i then p else s.size : Nat) : Int)) (fun _ iv => s.size - (RowKit.intOf iv).toNat)
  case atStart => exact ⟨0, Nat.zero_le _, rfl, int_eq (by rw [if_neg (by omega)])⟩
  case round =>
    obtain ⟨i, hi, rfl, rfl⟩ := hrel
    by_cases hil : i < s.size
    · have hiz : (i : Int) < (s.size : Int) := by omega
      obtain ⟨d, hd⟩ : ∃ d, (s[i]'hil).toNat = d := ⟨_, rfl⟩
      have hnx := HPF.out i hil
      rw [hd] at hnx
      have h47 : i = p → d = 47 := fun q => by subst q; rw [← hd]; exact hs47
      rcases Nat.lt_trichotomy i p with q | q | q
      · have h1 : ((d : Int) == 47) = false := by rw [beq_eq_false_iff_ne]; have := hnx q; omega
        rw [if_neg (show ¬ p < i by omega)]
        clear h47 hnx
        go_wp2
        go_round
        case rel => exact ⟨i + 1, by omega, by go_num, int_eq (by rw [if_neg (show ¬ p < i + 1 by omega)])⟩
        case measure => simp [RowKit.intOf]; omega
      · obtain rfl := h47 q
        rw [if_neg (show ¬ p < i by omega)]
        clear h47 hnx
        go_wp2
        go_round
        case rel => exact ⟨i + 1, by omega, by go_num, int_eq (by rw [if_pos (show p < i + 1 by omega), q])⟩
        case measure => simp [RowKit.intOf]; omega
      · have h2 : ((p : Int) == (s.size : Int)) = false := by rw [beq_eq_false_iff_ne]; omega
        rw [if_pos q]
        clear h47 hnx
        by_cases h1 : d = 47
        · have h3 : ((d : Int) == 47) = true := by rw [h1]; rfl
          clear h1
          go_wp2
          go_round
          case rel => exact ⟨i + 1, by omega, by go_num, int_eq (by rw [if_pos (show p < i + 1 by omega)])⟩
          case measure => simp [RowKit.intOf]; omega
        · have h3 : ((d : Int) == 47) = false := by rw [beq_eq_false_iff_ne]; omega
          clear h1
          go_wp2
          go_round
          case rel => exact ⟨i + 1, by omega, by go_num, int_eq (by rw [if_pos (show p < i + 1 by omega)])⟩
          case measure => simp [RowKit.intOf]; omega
    · have hie : i = s.size := by omega
      subst i
      have hAT : (if p < s.size then p else s.size) = p := by split <;> omega
      rw [hAT]
      have hz0 : (0 : Int) ≤ (p : Int) := by omega
      have hz1 : (p : Int) ≤ (s.size : Int) := by omega
      have hx1 := HTX1.out
      clear hAT hil
      have hx2 := HTX2.out
      have hz2 : (0 : Int) ≤ (p : Int) + 1 := by omega
      have hz3 : (p : Int) + 1 ≤ (s.size : Int) := by omega
      have hp1 : ((p : Int) + 1).toNat = p + 1 := by omega
      go_wp2_with fail
      (with_reducible refine (rparse_any T (by omega)).mono ?_)
      rintro e w2 ⟨n_2, a_2, k_2, c_2, rfl, hu_2, hb⟩
      replace HB := Lib.hid (bt HB.out hb)
      replace BR := Lib.hid (blk_next BR.out hb)
      have HA := Lib.hid hu_2
      clear hu_2
      clear hb
      rw [Xh1.out]
      go_wp2_with fail
      have lt1_R : w.heap.size < w2.heap.size := (Array.getElem?_eq_some_iff.1 BR.out).1
      obtain ⟨W3, hW, hs, hb, b0⟩ := alloc1 w2 (.cells #[.bool n_2, .slice a_2 k_2 c_2] 30)
      rw [← hW]
      replace HB := Lib.hid (bt HB.out hb)
      replace HA := Lib.hid (HA.out.below hb)
      replace BR := Lib.hid (blk_next BR.out hb)
      have Ba := Lib.hid b0
      clear hW hs hb b0
      (with_reducible refine (rparse_any U (by omega)).mono ?_)
      rintro e w4 ⟨n_4, a_4, k_4, c_4, rfl, hu_4, hb⟩
      replace HB := Lib.hid (bt HB.out hb)
      replace HA := Lib.hid (HA.out.below hb)
      replace BR := Lib.hid (blk_next BR.out hb)
      replace Ba := Lib.hid (blk_next Ba.out hb)
      have HB1 := Lib.hid hu_4
      clear hu_4
      clear hb
      rw [show pcode U.data.toList = 0 from by rw [Xh6.out]; exact pval_one.1]
      go_upto_region 13 with fail
      have lt2_R : w.heap.size < w4.heap.size := (Array.getElem?_eq_some_iff.1 BR.out).1
      have lt3_a : w2.heap.size < w4.heap.size := (Array.getElem?_eq_some_iff.1 Ba.out).1
      obtain ⟨W5, hW, hs, hb, b0⟩ := alloc1 w4 (.cells #[.bool n_4, .slice a_4 k_4 c_4] 30)
      rw [← hW]
      replace HB := Lib.hid (bt HB.out hb)
      replace HA := Lib.hid (HA.out.below hb)
      replace HB1 := Lib.hid (HB1.out.below hb)
      replace BR := Lib.hid (blk_next BR.out hb)
      replace Ba := Lib.hid (blk_next Ba.out hb)
      have Bb := Lib.hid b0
      clear hW hs hb b0
      have hsg : (pval U.data.toList).sign = 1 := by rw [Xh6.out, pval_one.2]; rfl
      have lt4_R : w.heap.size < W5.heap.size := (Array.getElem?_eq_some_iff.1 BR.out).1
      have lt5_a : w2.heap.size < W5.heap.size := (Array.getElem?_eq_some_iff.1 Ba.out).1
      have lt6_b : w4.heap.size < W5.heap.size := (Array.getElem?_eq_some_iff.1 Bb.out).1
      obtain ⟨cb0, cb1, fb0, fb1⟩ := res_facts Bb.out
      go_wp2_with fail
      clear cb0 cb1 fb0 fb1
      (with_reducible refine (rsign_any HB1.out).mono ?_)
      rintro e w6 ⟨rfl, hb⟩
      replace HB := Lib.hid (bt HB.out hb)
      replace HA := Lib.hid (HA.out.below hb)
      replace HB1 := Lib.hid (HB1.out.below hb)
      replace BR := Lib.hid (blk_next BR.out hb)
      replace Ba := Lib.hid (blk_next Ba.out hb)
      replace Bb := Lib.hid (blk_next Bb.out hb)
      clear hb
      rw [hsg]
      clear hsg
      have HDT := Lib.hid (body_digits (l := T.data.toList) (by rw [Xh1.out]; decide))
      have HDU := Lib.hid (body_digits (l := U.data.toList) (by rw [Xh6.out, pval_one.1]; decide))
      have HEV := Lib.hid ((decide_eq_false (p := U.data.toList ≠ [49] ∧ (lval T.data.toList).gcd (lval U.data.toList) = 1) fun q => q.1 Xh6.out).symm)
      go_wp2_with fail
      (with_reducible refine (rcoprime_any T U (by omega) (by omega) HDT.out HDU.out false HEV.out).mono ?_)
      rintro e w7 ⟨rfl, hb⟩
      replace HB := Lib.hid (bt HB.out hb)
      replace HA := Lib.hid (HA.out.below hb)
      replace HB1 := Lib.hid (HB1.out.below hb)
      replace BR := Lib.hid (blk_next BR.out hb)
      replace Ba := Lib.hid (blk_next Ba.out hb)
      replace Bb := Lib.hid (blk_next Bb.out hb)
      clear hb
      have lt7_R : w.heap.size < w7.heap.size := (Array.getElem?_eq_some_iff.1 BR.out).1
      have lt8_a : w2.heap.size < w7.heap.size := (Array.getElem?_eq_some_iff.1 Ba.out).1
      have lt9_b : w4.heap.size < w7.heap.size := (Array.getElem?_eq_some_iff.1 Bb.out).1
      obtain ⟨⟨cR0, cR1, cR2, cR3⟩, fR0, fR1, fR2, fR3⟩ := res4_facts BR.out
      go_wp2
      try simp only [Exit.inBlock, Exit.then]
      refine bodyPost_ret (results_cell_slot rfl _ _ (w.heap.size) 32 _ (0, 0) _ (.int .i64 3) rfl rfl (res4_set BR.out) Tryz.underlying32 rfl (by kernel_rfl)) rfl ?_
      rw [HQ.out.1, HQ.out.2]
      exact ⟨false, none, 0, 0, false, none, 0, 0, rfl, rratR_zero _, fin4 HB.out (by omega)⟩

set_option maxHeartbeats 4000000 in
set_option maxRecDepth 100000 in
theorem rratparse_g1 {w : World} (s : ByteArray) (hs : s.size ≤ 4200) (h2 : slashed s.data.toList = true) (h1 : pcode (topOf s.data.toList) = 0) (h4 : pcode (botOf s.data.toList) = 0) (hnb : ¬ (pcode (botOf s.data.toList) = 3 ∨ negOf (botOf s.data.toList) = true ∨ botOf s.data.toList = [48] ∨ botOf s.data.toList = [49])) (h9 : (pval (topOf s.data.toList)).gcd (pval (botOf s.data.toList)) = 1) :
    Calls Tryz.prog 18 #[.string s] w (rGivesRE w (qval s.data.toList) (qcode s.data.toList)) := by
  have HQ := Lib.hid (q_low h1 h2 hnb h4 h9)
  have HTX := Lib.hid ((slash_text h2 h1 h4 (pval_pos h4 (by simp only [not_or] at hnb; simpa using hnb.2.1) (fun q => hnb (.inr (.inr (.inl q)))))).2 ⟨h9, fun q => hnb (.inr (.inr (.inr q)))⟩)
  obtain ⟨T, hT⟩ : ∃ T : ByteArray, (⟨(topOf s.data.toList).toArray⟩ : ByteArray) = T := ⟨_, rfl⟩
  have hTl : T.data.toList = topOf s.data.toList := by rw [← hT]
  have hTs : T.size ≤ 4200 := by rw [← bs_len, hTl]; have := top_length s.data.toList; rw [bs_len] at this; omega
  obtain ⟨p, hp⟩ : ∃ p, (topOf s.data.toList).length = p := ⟨_, rfl⟩
  have HTX1 := Lib.hid (cut_top hp)
  rw [hT] at HTX1
  have HPF := Lib.hid (slash_free (s := s) hp)
  have hps : p ≤ s.size := by have := top_length s.data.toList; rw [hp, bs_len] at this; exact this
  obtain ⟨U, hU⟩ : ∃ U : ByteArray, (⟨(botOf s.data.toList).toArray⟩ : ByteArray) = U := ⟨_, rfl⟩
  have hUl : U.data.toList = botOf s.data.toList := by rw [← hU]
  have hUs : U.size ≤ 4200 := by rw [← bs_len, hUl]; have := bot_length s.data.toList; rw [bs_len] at this; omega
  obtain ⟨hpl, hs47⟩ := slash_at (s := s) hp h2
  have HTX2 := Lib.hid (cut_bot hp h2)
  rw [hU] at HTX2
  have hpz : (p : Int) < (s.size : Int) := by omega
  have HTL := Lib.hid hTl
  have HUL := Lib.hid hUl
  rw [← hTl] at h1
  rw [← hUl] at h4
  rw [← hTl, ← hUl] at h9
  rw [← hUl] at hnb
  rw [← hTl, ← hUl] at HTX
  have Xh1 := Lib.hid h1
  have Xh4 := Lib.hid h4
  have Xh9 := Lib.hid h9
  have Xhnb := Lib.hid hnb
  clear hT hTl hp h2 h1 h4 h9 hnb hU hUl
  go_enter Tryz.func18, Tryz.ntmps18
  go_wp2_with fail
  obtain ⟨W1, hW, hs, hb, b0⟩ := alloc1 w (.cells #[.bool false, .slice none 0 0, .bool false, .slice none 0 0] 32)
  rw [← hW]
  have HB := Lib.hid hb
  have BR := Lib.hid b0
  clear hW hs hb b0
  go_wp2_with fail
  go_loop [4, 5] (fun at' iv => ∃ i : Nat, i ≤ s.size ∧ iv = .int .i64 i ∧ at' = .int .i64 ((if p < i then p else s.size : Nat) : Int)) (fun _ iv => s.size - (RowKit.intOf iv).toNat)
  case atStart => exact ⟨0, Nat.zero_le _, rfl, int_eq (by rw [if_neg (by omega)])⟩
  case round =>
    obtain ⟨i, hi, rfl, rfl⟩ := hrel
    by_cases hil : i < s.size
    · have hiz : (i : Int) < (s.size : Int) := by omega
      obtain ⟨d, hd⟩ : ∃ d, (s[i]'hil).toNat = d := ⟨_, rfl⟩
      have hnx := HPF.out i hil
      rw [hd] at hnx
      have h47 : i = p → d = 47 := fun q => by subst q; rw [← hd]; exact hs47
      rcases Nat.lt_trichotomy i p with q | q | q
      · have h1 : ((d : Int) == 47) = false := by rw [beq_eq_false_iff_ne]; have := hnx q; omega
        rw [if_neg (show ¬ p < i by omega)]
        clear h47 hnx
        go_wp2
        go_round
        case rel => exact ⟨i + 1, by omega, by go_num, int_eq (by rw [if_neg (show ¬ p < i + 1 by omega)])⟩
        case measure => simp [RowKit.intOf]; omega
      · obtain rfl := h47 q
        rw [if_neg (show ¬ p < i by omega)]
        clear h47 hnx
        go_wp2
        go_round
        case rel => exact ⟨i + 1, by omega, by go_num, int_eq (by rw [if_pos (show p < i + 1 by omega), q])⟩
        case measure => simp [RowKit.intOf]; omega
      · have h2 : ((p : Int) == (s.size : Int)) = false := by rw [beq_eq_false_iff_ne]; omega
        rw [if_pos q]
        clear h47 hnx
        by_cases h1 : d = 47
        · have h3 : ((d : Int) == 47) = true := by rw [h1]; rfl
          clear h1
          go_wp2
          go_round
          case rel => exact ⟨i + 1, by omega, by go_num, int_eq (by rw [if_pos (show p < i + 1 by omega)])⟩
          case measure => simp [RowKit.intOf]; omega
        · have h3 : ((d : Int) == 47) = false := by rw [beq_eq_false_iff_ne]; omega
          clear h1
          go_wp2
          go_round
          case rel => exact ⟨i + 1, by omega, by go_num, int_eq (by rw [if_pos (show p < i + 1 by omega)])⟩
          case measure => simp [RowKit.intOf]; omega
    · have hie : i = s.size := by omega
      subst i
      have hAT : (if p < s.size then p else s.size) = p := by split <;> omega
      rw [hAT]
      have hz0 : (0 : Int) ≤ (p : Int) := by omega
      have hz1 : (p : Int) ≤ (s.size : Int) := by omega
      have hx1 := HTX1.out
      clear hAT hil
      have hx2 := HTX2.out
      have hz2 : (0 : Int) ≤ (p : Int) + 1 := by omega
      have hz3 : (p : Int) + 1 ≤ (s.size : Int) := by omega
      have hp1 : ((p : Int) + 1).toNat = p + 1 := by omega
      go_wp2_with fail
      (with_reducible refine (rparse_any T (by omega)).mono ?_)
      rintro e w2 ⟨n_2, a_2, k_2, c_2, rfl, hu_2, hb⟩
      replace HB := Lib.hid (bt HB.out hb)
      replace BR := Lib.hid (blk_next BR.out hb)
      have HA := Lib.hid hu_2
      clear hu_2
      clear hb
      rw [Xh1.out]
      go_wp2_with fail
      have lt1_R : w.heap.size < w2.heap.size := (Array.getElem?_eq_some_iff.1 BR.out).1
      obtain ⟨W3, hW, hs, hb, b0⟩ := alloc1 w2 (.cells #[.bool n_2, .slice a_2 k_2 c_2] 30)
      rw [← hW]
      replace HB := Lib.hid (bt HB.out hb)
      replace HA := Lib.hid (HA.out.below hb)
      replace BR := Lib.hid (blk_next BR.out hb)
      have Ba := Lib.hid b0
      clear hW hs hb b0
      (with_reducible refine (rparse_any U (by omega)).mono ?_)
      rintro e w4 ⟨n_4, a_4, k_4, c_4, rfl, hu_4, hb⟩
      replace HB := Lib.hid (bt HB.out hb)
      replace HA := Lib.hid (HA.out.below hb)
      replace BR := Lib.hid (blk_next BR.out hb)
      replace Ba := Lib.hid (blk_next Ba.out hb)
      have HB1 := Lib.hid hu_4
      clear hu_4
      clear hb
      rw [Xh4.out]
      go_upto_region 13 with fail
      have lt2_R : w.heap.size < w4.heap.size := (Array.getElem?_eq_some_iff.1 BR.out).1
      have lt3_a : w2.heap.size < w4.heap.size := (Array.getElem?_eq_some_iff.1 Ba.out).1
      obtain ⟨W5, hW, hs, hb, b0⟩ := alloc1 w4 (.cells #[.bool n_4, .slice a_4 k_4 c_4] 30)
      rw [← hW]
      replace HB := Lib.hid (bt HB.out hb)
      replace HA := Lib.hid (HA.out.below hb)
      replace HB1 := Lib.hid (HB1.out.below hb)
      replace BR := Lib.hid (blk_next BR.out hb)
      replace Ba := Lib.hid (blk_next Ba.out hb)
      have Bb := Lib.hid b0
      clear hW hs hb b0
      have hsg : (pval U.data.toList).sign = 1 := Int.sign_eq_one_of_pos (pval_pos Xh4.out (by have := Xhnb.out; simp only [not_or] at this; simpa using this.2.1) (fun q => Xhnb.out (.inr (.inr (.inl q)))))
      have lt4_R : w.heap.size < W5.heap.size := (Array.getElem?_eq_some_iff.1 BR.out).1
      have lt5_a : w2.heap.size < W5.heap.size := (Array.getElem?_eq_some_iff.1 Ba.out).1
      have lt6_b : w4.heap.size < W5.heap.size := (Array.getElem?_eq_some_iff.1 Bb.out).1
      obtain ⟨cb0, cb1, fb0, fb1⟩ := res_facts Bb.out
      go_wp2_with fail
      clear cb0 cb1 fb0 fb1
      (with_reducible refine (rsign_any HB1.out).mono ?_)
      rintro e w6 ⟨rfl, hb⟩
      replace HB := Lib.hid (bt HB.out hb)
      replace HA := Lib.hid (HA.out.below hb)
      replace HB1 := Lib.hid (HB1.out.below hb)
      replace BR := Lib.hid (blk_next BR.out hb)
      replace Ba := Lib.hid (blk_next Ba.out hb)
      replace Bb := Lib.hid (blk_next Bb.out hb)
      clear hb
      rw [hsg]
      clear hsg
      have dT := dg_of_text (l := T.data.toList) (N := 4200) (by rw [bs_len]; omega)
      have dU := dg_of_text (l := U.data.toList) (N := 4200) (by rw [bs_len]; omega)
      have HP0 := Lib.hid (show pval U.data.toList ≠ 0 from by
        intro q
        have := pval_pos Xh4.out (by have := Xhnb.out; simp only [not_or] at this; simpa using this.2.1) (fun q => Xhnb.out (.inr (.inr (.inl q))))
        omega)
      have RQ : Rg 4200 (Rat.divInt (pval T.data.toList) (pval U.data.toList)) := Rg.of (fw_divInt HP0.out dT dU)
      have lt7_R : w.heap.size < w6.heap.size := (Array.getElem?_eq_some_iff.1 BR.out).1
      have lt8_a : w2.heap.size < w6.heap.size := (Array.getElem?_eq_some_iff.1 Ba.out).1
      have lt9_b : w4.heap.size < w6.heap.size := (Array.getElem?_eq_some_iff.1 Bb.out).1
      obtain ⟨ca0, ca1, fa0, fa1⟩ := res_facts Ba.out
      obtain ⟨cb0, cb1, fb0, fb1⟩ := res_facts Bb.out
      go_wp2_with fail
      clear ca0 ca1 fa0 fa1 cb0 cb1 fb0 fb1
      (with_reducible refine (rreduced_any HA.out HB1.out HP0.out dT dU (by omega)).mono ?_)
      rintro e w7 ⟨n_7, a_7, k_7, c_7, n2_7, a2_7, k2_7, c2_7, rfl, hu_7, hv_7, hb⟩
      replace HB := Lib.hid (bt HB.out hb)
      replace HA := Lib.hid (HA.out.below hb)
      replace HB1 := Lib.hid (HB1.out.below hb)
      replace BR := Lib.hid (blk_next BR.out hb)
      replace Ba := Lib.hid (blk_next Ba.out hb)
      replace Bb := Lib.hid (blk_next Bb.out hb)
      have HX := Lib.hid hu_7
      have HY := Lib.hid hv_7
      clear hu_7 hv_7
      clear hb
      have HXX := Lib.hid (RRatR.mk HX.out HY.out (.inl rfl))
      go_wp2_with fail
      have lt10_R : w.heap.size < w7.heap.size := (Array.getElem?_eq_some_iff.1 BR.out).1
      have lt11_a : w2.heap.size < w7.heap.size := (Array.getElem?_eq_some_iff.1 Ba.out).1
      have lt12_b : w4.heap.size < w7.heap.size := (Array.getElem?_eq_some_iff.1 Bb.out).1
      obtain ⟨W8, hW, hs, hb, b0⟩ := alloc1 w7 (.cells #[.bool n_7, .slice a_7 k_7 c_7, .bool n2_7, .slice a2_7 k2_7 c2_7] 32)
      rw [← hW]
      replace HB := Lib.hid (bt HB.out hb)
      replace HA := Lib.hid (HA.out.below hb)
      replace HB1 := Lib.hid (HB1.out.below hb)
      replace HX := Lib.hid (HX.out.below hb)
      replace HY := Lib.hid (HY.out.below hb)
      replace HXX := Lib.hid (HXX.out.below hb)
      replace BR := Lib.hid (blk_next BR.out hb)
      replace Ba := Lib.hid (blk_next Ba.out hb)
      replace Bb := Lib.hid (blk_next Bb.out hb)
      have Bx := Lib.hid b0
      clear hW hs hb b0
      have lt13_R : w.heap.size < W8.heap.size := (Array.getElem?_eq_some_iff.1 BR.out).1
      have lt14_a : w2.heap.size < W8.heap.size := (Array.getElem?_eq_some_iff.1 Ba.out).1
      have lt15_b : w4.heap.size < W8.heap.size := (Array.getElem?_eq_some_iff.1 Bb.out).1
      have lt16_x : w7.heap.size < W8.heap.size := (Array.getElem?_eq_some_iff.1 Bx.out).1
      obtain ⟨⟨cx0, cx1, cx2, cx3⟩, fx0, fx1, fx2, fx3⟩ := res4_facts Bx.out
      go_wp2_with fail
      clear cx0 cx1 cx2 cx3 fx0 fx1 fx2 fx3
      (with_reducible refine (rrattext_any HXX.out RQ (by omega)).mono ?_)
      rintro e w9 ⟨rfl, hb⟩
      replace HB := Lib.hid (bt HB.out hb)
      replace HA := Lib.hid (HA.out.below hb)
      replace HB1 := Lib.hid (HB1.out.below hb)
      replace HX := Lib.hid (HX.out.below hb)
      replace HY := Lib.hid (HY.out.below hb)
      replace HXX := Lib.hid (HXX.out.below hb)
      replace BR := Lib.hid (blk_next BR.out hb)
      replace Ba := Lib.hid (blk_next Ba.out hb)
      replace Bb := Lib.hid (blk_next Bb.out hb)
      replace Bx := Lib.hid (blk_next Bx.out hb)
      clear hb
      rw [show ratText (Rat.divInt (pval T.data.toList) (pval U.data.toList)) = s from by rw [ratText_eq, HTX.out]]
      have lt17_R : w.heap.size < w9.heap.size := (Array.getElem?_eq_some_iff.1 BR.out).1
      have lt18_a : w2.heap.size < w9.heap.size := (Array.getElem?_eq_some_iff.1 Ba.out).1
      have lt19_b : w4.heap.size < w9.heap.size := (Array.getElem?_eq_some_iff.1 Bb.out).1
      have lt20_x : w7.heap.size < w9.heap.size := (Array.getElem?_eq_some_iff.1 Bx.out).1
      obtain ⟨⟨cx0, cx1, cx2, cx3⟩, fx0, fx1, fx2, fx3⟩ := res4_facts Bx.out
      obtain ⟨⟨cR0, cR1, cR2, cR3⟩, fR0, fR1, fR2, fR3⟩ := res4_facts BR.out
      go_wp2
      try simp only [Exit.inBlock, Exit.then]
      refine bodyPost_ret (results_cell_slot rfl _ _ (w.heap.size) 32 _ (0, 0) _ (.int .i64 0) rfl rfl (res4_set BR.out) Tryz.underlying32 rfl (by kernel_rfl)) rfl ?_
      exact ⟨_, _, _, _, _, _, _, _, by rw [HQ.out.1], (by rw [HQ.out.2, ← HTL.out, ← HUL.out]; exact RRatR.mk (HX.out.stay set4_stay (noInt_one (noInt4 BR.out))) (HY.out.stay set4_stay (noInt_one (noInt4 BR.out))) (.inl rfl)), (fin4 HB.out (by omega))⟩

set_option maxHeartbeats 4000000 in
set_option maxRecDepth 100000 in
theorem rratparse_g0 {w : World} (s : ByteArray) (hs : s.size ≤ 4200) (h2 : slashed s.data.toList = true) (h1 : pcode (topOf s.data.toList) = 0) (h4 : pcode (botOf s.data.toList) = 0) (h5 : negOf (botOf s.data.toList) = false) (h6 : botOf s.data.toList ≠ [48]) (h9 : ¬ ((pval (topOf s.data.toList)).gcd (pval (botOf s.data.toList)) = 1 ∧ botOf s.data.toList ≠ [49])) :
    Calls Tryz.prog 18 #[.string s] w (rGivesRE w (qval s.data.toList) (qcode s.data.toList)) := by
  have HQ := Lib.hid (show qcode s.data.toList = 3 ∧ qval s.data.toList = 0 from by
      by_cases h7 : botOf s.data.toList = [49]
      · exact q_bot (by rw [h1]; decide) h2 (.inr (.inr (.inr h7)))
      · exact q_high h1 h2 (by rintro (q | q | q | q)
                               · rw [h4] at q; cases q
                               · rw [h5] at q; cases q
                               · exact h6 q
                               · exact h7 q) h4 (fun q => h9 ⟨q, h7⟩))
  have HTX := Lib.hid (show ¬ ratL (Rat.divInt (pval (topOf s.data.toList)) (pval (botOf s.data.toList))) = s.data.toList from fun q => h9 ((slash_text h2 h1 h4 (pval_pos h4 h5 h6)).1 q))
  obtain ⟨T, hT⟩ : ∃ T : ByteArray, (⟨(topOf s.data.toList).toArray⟩ : ByteArray) = T := ⟨_, rfl⟩
  have hTl : T.data.toList = topOf s.data.toList := by rw [← hT]
  have hTs : T.size ≤ 4200 := by rw [← bs_len, hTl]; have := top_length s.data.toList; rw [bs_len] at this; omega
  obtain ⟨p, hp⟩ : ∃ p, (topOf s.data.toList).length = p := ⟨_, rfl⟩
  have HTX1 := Lib.hid (cut_top hp)
  rw [hT] at HTX1
  have HPF := Lib.hid (slash_free (s := s) hp)
  have hps : p ≤ s.size := by have := top_length s.data.toList; rw [hp, bs_len] at this; exact this
  obtain ⟨U, hU⟩ : ∃ U : ByteArray, (⟨(botOf s.data.toList).toArray⟩ : ByteArray) = U := ⟨_, rfl⟩
  have hUl : U.data.toList = botOf s.data.toList := by rw [← hU]
  have hUs : U.size ≤ 4200 := by rw [← bs_len, hUl]; have := bot_length s.data.toList; rw [bs_len] at this; omega
  obtain ⟨hpl, hs47⟩ := slash_at (s := s) hp h2
  have HTX2 := Lib.hid (cut_bot hp h2)
  rw [hU] at HTX2
  have hpz : (p : Int) < (s.size : Int) := by omega
  have HTL := Lib.hid hTl
  have HUL := Lib.hid hUl
  rw [← hTl] at h1
  rw [← hUl] at h4
  rw [← hUl] at h5
  rw [← hUl] at h6
  rw [← hTl, ← hUl] at h9
  rw [← hTl, ← hUl] at HTX
  have Xh1 := Lib.hid h1
  have Xh4 := Lib.hid h4
  have Xh5 := Lib.hid h5
  have Xh6 := Lib.hid h6
  have Xh9 := Lib.hid h9
  clear hT hTl hp h2 h1 h4 h5 h6 h9 hU hUl
  go_enter Tryz.func18, Tryz.ntmps18
  go_wp2_with fail
  obtain ⟨W1, hW, hs, hb, b0⟩ := alloc1 w (.cells #[.bool false, .slice none 0 0, .bool false, .slice none 0 0] 32)
  rw [← hW]
  have HB := Lib.hid hb
  have BR := Lib.hid b0
  clear hW hs hb b0
  go_wp2_with fail
  go_loop [4, 5] (fun at' iv => ∃ i : Nat, i ≤ s.size ∧ iv = .int .i64 i ∧ at' = .int .i64 ((if p < i then p else s.size : Nat) : Int)) (fun _ iv => s.size - (RowKit.intOf iv).toNat)
  case atStart => exact ⟨0, Nat.zero_le _, rfl, int_eq (by rw [if_neg (by omega)])⟩
  case round =>
    obtain ⟨i, hi, rfl, rfl⟩ := hrel
    by_cases hil : i < s.size
    · have hiz : (i : Int) < (s.size : Int) := by omega
      obtain ⟨d, hd⟩ : ∃ d, (s[i]'hil).toNat = d := ⟨_, rfl⟩
      have hnx := HPF.out i hil
      rw [hd] at hnx
      have h47 : i = p → d = 47 := fun q => by subst q; rw [← hd]; exact hs47
      rcases Nat.lt_trichotomy i p with q | q | q
      · have h1 : ((d : Int) == 47) = false := by rw [beq_eq_false_iff_ne]; have := hnx q; omega
        rw [if_neg (show ¬ p < i by omega)]
        clear h47 hnx
        go_wp2
        go_round
        case rel => exact ⟨i + 1, by omega, by go_num, int_eq (by rw [if_neg (show ¬ p < i + 1 by omega)])⟩
        case measure => simp [RowKit.intOf]; omega
      · obtain rfl := h47 q
        rw [if_neg (show ¬ p < i by omega)]
        clear h47 hnx
        go_wp2
        go_round
        case rel => exact ⟨i + 1, by omega, by go_num, int_eq (by rw [if_pos (show p < i + 1 by omega), q])⟩
        case measure => simp [RowKit.intOf]; omega
      · have h2 : ((p : Int) == (s.size : Int)) = false := by rw [beq_eq_false_iff_ne]; omega
        rw [if_pos q]
        clear h47 hnx
        by_cases h1 : d = 47
        · have h3 : ((d : Int) == 47) = true := by rw [h1]; rfl
          clear h1
          go_wp2
          go_round
          case rel => exact ⟨i + 1, by omega, by go_num, int_eq (by rw [if_pos (show p < i + 1 by omega)])⟩
          case measure => simp [RowKit.intOf]; omega
        · have h3 : ((d : Int) == 47) = false := by rw [beq_eq_false_iff_ne]; omega
          clear h1
          go_wp2
          go_round
          case rel => exact ⟨i + 1, by omega, by go_num, int_eq (by rw [if_pos (show p < i + 1 by omega)])⟩
          case measure => simp [RowKit.intOf]; omega
    · have hie : i = s.size := by omega
      subst i
      have hAT : (if p < s.size then p else s.size) = p := by split <;> omega
      rw [hAT]
      have hz0 : (0 : Int) ≤ (p : Int) := by omega
      have hz1 : (p : Int) ≤ (s.size : Int) := by omega
      have hx1 := HTX1.out
      clear hAT hil
      have hx2 := HTX2.out
      have hz2 : (0 : Int) ≤ (p : Int) + 1 := by omega
      have hz3 : (p : Int) + 1 ≤ (s.size : Int) := by omega
      have hp1 : ((p : Int) + 1).toNat = p + 1 := by omega
      go_wp2_with fail
      (with_reducible refine (rparse_any T (by omega)).mono ?_)
      rintro e w2 ⟨n_2, a_2, k_2, c_2, rfl, hu_2, hb⟩
      replace HB := Lib.hid (bt HB.out hb)
      replace BR := Lib.hid (blk_next BR.out hb)
      have HA := Lib.hid hu_2
      clear hu_2
      clear hb
      rw [Xh1.out]
      go_wp2_with fail
      have lt1_R : w.heap.size < w2.heap.size := (Array.getElem?_eq_some_iff.1 BR.out).1
      obtain ⟨W3, hW, hs, hb, b0⟩ := alloc1 w2 (.cells #[.bool n_2, .slice a_2 k_2 c_2] 30)
      rw [← hW]
      replace HB := Lib.hid (bt HB.out hb)
      replace HA := Lib.hid (HA.out.below hb)
      replace BR := Lib.hid (blk_next BR.out hb)
      have Ba := Lib.hid b0
      clear hW hs hb b0
      (with_reducible refine (rparse_any U (by omega)).mono ?_)
      rintro e w4 ⟨n_4, a_4, k_4, c_4, rfl, hu_4, hb⟩
      replace HB := Lib.hid (bt HB.out hb)
      replace HA := Lib.hid (HA.out.below hb)
      replace BR := Lib.hid (blk_next BR.out hb)
      replace Ba := Lib.hid (blk_next Ba.out hb)
      have HB1 := Lib.hid hu_4
      clear hu_4
      clear hb
      rw [Xh4.out]
      go_upto_region 13 with fail
      have lt2_R : w.heap.size < w4.heap.size := (Array.getElem?_eq_some_iff.1 BR.out).1
      have lt3_a : w2.heap.size < w4.heap.size := (Array.getElem?_eq_some_iff.1 Ba.out).1
      obtain ⟨W5, hW, hs, hb, b0⟩ := alloc1 w4 (.cells #[.bool n_4, .slice a_4 k_4 c_4] 30)
      rw [← hW]
      replace HB := Lib.hid (bt HB.out hb)
      replace HA := Lib.hid (HA.out.below hb)
      replace HB1 := Lib.hid (HB1.out.below hb)
      replace BR := Lib.hid (blk_next BR.out hb)
      replace Ba := Lib.hid (blk_next Ba.out hb)
      have Bb := Lib.hid b0
      clear hW hs hb b0
      have hsg : (pval U.data.toList).sign = 1 := Int.sign_eq_one_of_pos (pval_pos Xh4.out Xh5.out Xh6.out)
      have lt4_R : w.heap.size < W5.heap.size := (Array.getElem?_eq_some_iff.1 BR.out).1
      have lt5_a : w2.heap.size < W5.heap.size := (Array.getElem?_eq_some_iff.1 Ba.out).1
      have lt6_b : w4.heap.size < W5.heap.size := (Array.getElem?_eq_some_iff.1 Bb.out).1
      obtain ⟨cb0, cb1, fb0, fb1⟩ := res_facts Bb.out
      go_wp2_with fail
      clear cb0 cb1 fb0 fb1
      (with_reducible refine (rsign_any HB1.out).mono ?_)
      rintro e w6 ⟨rfl, hb⟩
      replace HB := Lib.hid (bt HB.out hb)
      replace HA := Lib.hid (HA.out.below hb)
      replace HB1 := Lib.hid (HB1.out.below hb)
      replace BR := Lib.hid (blk_next BR.out hb)
      replace Ba := Lib.hid (blk_next Ba.out hb)
      replace Bb := Lib.hid (blk_next Bb.out hb)
      clear hb
      rw [hsg]
      clear hsg
      have dT := dg_of_text (l := T.data.toList) (N := 4200) (by rw [bs_len]; omega)
      have dU := dg_of_text (l := U.data.toList) (N := 4200) (by rw [bs_len]; omega)
      have HP0 := Lib.hid (show pval U.data.toList ≠ 0 from by
        intro q
        have := pval_pos Xh4.out Xh5.out Xh6.out
        omega)
      have RQ : Rg 4200 (Rat.divInt (pval T.data.toList) (pval U.data.toList)) := Rg.of (fw_divInt HP0.out dT dU)
      have lt7_R : w.heap.size < w6.heap.size := (Array.getElem?_eq_some_iff.1 BR.out).1
      have lt8_a : w2.heap.size < w6.heap.size := (Array.getElem?_eq_some_iff.1 Ba.out).1
      have lt9_b : w4.heap.size < w6.heap.size := (Array.getElem?_eq_some_iff.1 Bb.out).1
      obtain ⟨ca0, ca1, fa0, fa1⟩ := res_facts Ba.out
      obtain ⟨cb0, cb1, fb0, fb1⟩ := res_facts Bb.out
      go_wp2_with fail
      clear ca0 ca1 fa0 fa1 cb0 cb1 fb0 fb1
      (with_reducible refine (rreduced_any HA.out HB1.out HP0.out dT dU (by omega)).mono ?_)
      rintro e w7 ⟨n_7, a_7, k_7, c_7, n2_7, a2_7, k2_7, c2_7, rfl, hu_7, hv_7, hb⟩
      replace HB := Lib.hid (bt HB.out hb)
      replace HA := Lib.hid (HA.out.below hb)
      replace HB1 := Lib.hid (HB1.out.below hb)
      replace BR := Lib.hid (blk_next BR.out hb)
      replace Ba := Lib.hid (blk_next Ba.out hb)
      replace Bb := Lib.hid (blk_next Bb.out hb)
      have HX := Lib.hid hu_7
      have HY := Lib.hid hv_7
      clear hu_7 hv_7
      clear hb
      have HXX := Lib.hid (RRatR.mk HX.out HY.out (.inl rfl))
      go_wp2_with fail
      have lt10_R : w.heap.size < w7.heap.size := (Array.getElem?_eq_some_iff.1 BR.out).1
      have lt11_a : w2.heap.size < w7.heap.size := (Array.getElem?_eq_some_iff.1 Ba.out).1
      have lt12_b : w4.heap.size < w7.heap.size := (Array.getElem?_eq_some_iff.1 Bb.out).1
      obtain ⟨W8, hW, hs, hb, b0⟩ := alloc1 w7 (.cells #[.bool n_7, .slice a_7 k_7 c_7, .bool n2_7, .slice a2_7 k2_7 c2_7] 32)
      rw [← hW]
      replace HB := Lib.hid (bt HB.out hb)
      replace HA := Lib.hid (HA.out.below hb)
      replace HB1 := Lib.hid (HB1.out.below hb)
      replace HX := Lib.hid (HX.out.below hb)
      replace HY := Lib.hid (HY.out.below hb)
      replace HXX := Lib.hid (HXX.out.below hb)
      replace BR := Lib.hid (blk_next BR.out hb)
      replace Ba := Lib.hid (blk_next Ba.out hb)
      replace Bb := Lib.hid (blk_next Bb.out hb)
      have Bx := Lib.hid b0
      clear hW hs hb b0
      have lt13_R : w.heap.size < W8.heap.size := (Array.getElem?_eq_some_iff.1 BR.out).1
      have lt14_a : w2.heap.size < W8.heap.size := (Array.getElem?_eq_some_iff.1 Ba.out).1
      have lt15_b : w4.heap.size < W8.heap.size := (Array.getElem?_eq_some_iff.1 Bb.out).1
      have lt16_x : w7.heap.size < W8.heap.size := (Array.getElem?_eq_some_iff.1 Bx.out).1
      obtain ⟨⟨cx0, cx1, cx2, cx3⟩, fx0, fx1, fx2, fx3⟩ := res4_facts Bx.out
      go_wp2_with fail
      clear cx0 cx1 cx2 cx3 fx0 fx1 fx2 fx3
      (with_reducible refine (rrattext_any HXX.out RQ (by omega)).mono ?_)
      rintro e w9 ⟨rfl, hb⟩
      replace HB := Lib.hid (bt HB.out hb)
      replace HA := Lib.hid (HA.out.below hb)
      replace HB1 := Lib.hid (HB1.out.below hb)
      replace HX := Lib.hid (HX.out.below hb)
      replace HY := Lib.hid (HY.out.below hb)
      replace HXX := Lib.hid (HXX.out.below hb)
      replace BR := Lib.hid (blk_next BR.out hb)
      replace Ba := Lib.hid (blk_next Ba.out hb)
      replace Bb := Lib.hid (blk_next Bb.out hb)
      replace Bx := Lib.hid (blk_next Bx.out hb)
      clear hb
      obtain ⟨Z, hZ⟩ : ∃ Z, ratText (Rat.divInt (pval T.data.toList) (pval U.data.toList)) = Z := ⟨_, rfl⟩
      rw [hZ]
      have hne : (Z.toList == s.toList) = false := by
        rw [beq_eq_false_iff_ne, Lib.toList_data, Lib.toList_data, ← hZ, ratText_eq]
        intro q
        exact HTX.out (by simpa using q)
      have hne2 : Z ≠ s := by rintro rfl; simp at hne
      clear hZ
      have lt17_R : w.heap.size < w9.heap.size := (Array.getElem?_eq_some_iff.1 BR.out).1
      have lt18_a : w2.heap.size < w9.heap.size := (Array.getElem?_eq_some_iff.1 Ba.out).1
      have lt19_b : w4.heap.size < w9.heap.size := (Array.getElem?_eq_some_iff.1 Bb.out).1
      have lt20_x : w7.heap.size < w9.heap.size := (Array.getElem?_eq_some_iff.1 Bx.out).1
      obtain ⟨⟨cx0, cx1, cx2, cx3⟩, fx0, fx1, fx2, fx3⟩ := res4_facts Bx.out
      clear cx0 cx1 cx2 cx3 fx0 fx1 fx2 fx3
      obtain ⟨⟨cR0, cR1, cR2, cR3⟩, fR0, fR1, fR2, fR3⟩ := res4_facts BR.out
      go_wp2
      try simp only [Exit.inBlock, Exit.then]
      refine bodyPost_ret (results_cell_slot rfl _ _ (w.heap.size) 32 _ (0, 0) _ (.int .i64 3) rfl rfl (res4_set BR.out) Tryz.underlying32 rfl (by kernel_rfl)) rfl ?_
      rw [HQ.out.1, HQ.out.2]
      exact ⟨false, none, 0, 0, false, none, 0, 0, rfl, rratR_zero _, fin4 HB.out (by omega)⟩

theorem rratparse_any {w : World} (s : ByteArray) (hs : s.size ≤ 4200) : Calls Tryz.prog 18 #[.string s] w (rGivesRE w (qval s.data.toList) (qcode s.data.toList)) := by
  rcases h2 : slashed s.data.toList with _ | _
  · rcases pcode_three (topOf s.data.toList) with q | q | q
    · exact rratparse_w0 s hs h2 q
    · exact rratparse_t3w s hs h2 q
    · exact rratparse_w6 s hs h2 q
  by_cases h1 : pcode (topOf s.data.toList) = 3
  · exact rratparse_t3s s hs h2 h1
  rcases pcode_three (botOf s.data.toList) with h4 | h4 | h4
  · by_cases h5 : negOf (botOf s.data.toList) = true ∨ botOf s.data.toList = [48]
    · exact rratparse_np s hs h2 h1 h4 h5
    simp only [not_or] at h5
    have h50 : negOf (botOf s.data.toList) = false := by simpa using h5.1
    rcases pcode_three (topOf s.data.toList) with q | q | q
    · by_cases h9 : (pval (topOf s.data.toList)).gcd (pval (botOf s.data.toList)) = 1 ∧ botOf s.data.toList ≠ [49]
      · refine rratparse_g1 s hs h2 q h4 ?_ h9.1
        rintro (k | k | k | k)
        · rw [h4] at k; cases k
        · rw [h50] at k; cases k
        · exact h5.2 k
        · exact h9.2 k
      · exact rratparse_g0 s hs h2 q h4 h50 h5.2 h9
    · exact absurd q h1
    · by_cases h7 : botOf s.data.toList = [49]
      · exact rratparse_l49 s hs h2 q h7
      · have hnb : ¬ (pcode (botOf s.data.toList) = 3 ∨ negOf (botOf s.data.toList) = true ∨ botOf s.data.toList = [48] ∨ botOf s.data.toList = [49]) := by
          rintro (k | k | k | k)
          · rw [h4] at k; cases k
          · rw [h50] at k; cases k
          · exact h5.2 k
          · exact h7 k
        by_cases h9 : (lval (topOf s.data.toList)).gcd (lval (botOf s.data.toList)) = 1
        · exact rratparse_l601 s hs h2 q h4 hnb h9
        · exact rratparse_l600 s hs h2 q h4 hnb h9
  · exact rratparse_b3 s hs h2 h1 h4
  · by_cases h5 : negOf (botOf s.data.toList) = true
    · exact rratparse_n6 s hs h2 h1 h4 h5
    have h50 : negOf (botOf s.data.toList) = false := by simpa using h5
    have hnb : ¬ (pcode (botOf s.data.toList) = 3 ∨ negOf (botOf s.data.toList) = true ∨ botOf s.data.toList = [48] ∨ botOf s.data.toList = [49]) := by
      rintro (k | k | k | k)
      · rw [h4] at k; cases k
      · rw [h50] at k; cases k
      · rw [k, pval_zero.1] at h4; cases h4
      · rw [k, pval_one.1] at h4; cases h4
    rcases pcode_three (topOf s.data.toList) with q | q | q
    · by_cases h9 : (lval (topOf s.data.toList)).gcd (lval (botOf s.data.toList)) = 1
      · exact rratparse_l061 s hs h2 q h4 hnb h9
      · exact rratparse_l060 s hs h2 q h4 hnb h9
    · exact absurd q h1
    · by_cases h9 : (lval (topOf s.data.toList)).gcd (lval (botOf s.data.toList)) = 1
      · exact rratparse_l661 s hs h2 q h4 hnb h9
      · exact rratparse_l660 s hs h2 q h4 hnb h9

end Go.Proofs.YtikpafocankggaaGreatDoor
