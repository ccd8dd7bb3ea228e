/- The program's Parse of numbers. -/
import Derived.Test.YtikpafocankggaaGreatDoorRatPart
import Derived.Deep.DeepCutAuto
namespace Go.Proofs.YtikpafocankggaaGreatDoor
open Go.RowKit Tally Go.Lib
theorem part_n {w : World} (s : ByteArray) (g : Nat) (b l : Bool) (hs : s.size ≤ 9223372036854775807) (hg : w.heap[g]? = some (.cells #[.bool b] 4 (0, 0))) (hc : pcode s.data.toList ≠ 3) (hl : (b || decide (pcode s.data.toList = 6)) = l) :
  Calls Tryz.prog 53 #[.string s, .pointer (some ⟨g, 0, none⟩)] w fun e w' => ∃ (n : Bool) (a : Option Addr) (k c : Nat), e = .returned (.tuple #[.agg #[.bool n, .slice a k c], .bool true]) ∧ IntR w' (.agg #[.bool n, .slice a k c]) (pval s.data.toList) ∧ Stay g (g + 1) w w' ∧ w'.heap[g]? = some (.cells #[.bool l] 4 (0, 0)) :=
 (part_any s g b hs hg).mono fun e w' ⟨n, a, k, c, he, hu, hst, hl'⟩ => ⟨n, a, k, c, by rw [he, decide_eq_true hc], hu, hst, by rw [hl', hl]⟩
theorem part_3 {w : World} (s : ByteArray) (g : Nat) (b : Bool) (hs : s.size ≤ 9223372036854775807) (hg : w.heap[g]? = some (.cells #[.bool b] 4 (0, 0))) (hc : pcode s.data.toList = 3) :
  Calls Tryz.prog 53 #[.string s, .pointer (some ⟨g, 0, none⟩)] w fun e w' => ∃ (n : Bool) (a : Option Addr) (k c : Nat), e = .returned (.tuple #[.agg #[.bool n, .slice a k c], .bool false]) ∧ IntR w' (.agg #[.bool n, .slice a k c]) (pval s.data.toList) ∧ Stay g (g + 1) w w' ∧ w'.heap[g]? = some (.cells #[.bool b] 4 (0, 0)) :=
 (part_any s g b hs hg).mono fun e w' ⟨n, a, k, c, he, hu, hst, hl⟩ => ⟨n, a, k, c, by rw [he, hc]; rfl, hu, hst, by rw [hl, hc]; cases b <;> rfl⟩
def Mlen (w : World) : Prop := ∃ m, w.cell? ⟨0, 0, none⟩ = some (.int .i64 m)
theorem Mlen.below {w w' : World} (h : Mlen w) (hb : Below w.heap.size w w') : Mlen w' := by
 obtain ⟨m, hm⟩ := h; exact ⟨m, keepc hb hm⟩
theorem cut_any {w : World} (s : ByteArray) (hs : s.size < 4294967281) (hm : Mlen w) :
  Calls Tryz.prog 54 #[.string s, .string ⟨#[47]⟩] w fun e w' => e = .returned (.tuple #[.string ⟨(topOf s.data.toList).toArray⟩, .string ⟨(botOf s.data.toList).toArray⟩, .bool (slashed s.data.toList)]) ∧ Below w.heap.size w w' := by
 obtain ⟨m, hm⟩ := hm
 refine (Tryz.strings_Cut s ⟨#[47]⟩ m w hs hm).mono ?_
 rintro e w' ⟨rfl, n, rfl⟩
 rw [show (⟨#[47]⟩ : ByteArray).data.toList = [47] from rfl, cut_slash]
 exact ⟨rfl, Below.drewN' (Below.refl _ _) n⟩
theorem dg_of_text {N : Nat} {l : List UInt8} (h : l.length ≤ N) : Dg N (pval l) := Nat.lt_of_lt_of_le (pval_few l) (Nat.pow_le_pow_right (by decide) h)
set_option maxHeartbeats 4000000 in
set_option maxRecDepth 100000 in
theorem ratparse_t3 {w : World} (s : ByteArray) (hs : s.size ≤ 4200) (hm : Mlen w) (h1 : pcode (topOf s.data.toList) = 3) :
  Calls Tryz.prog 17 #[.string s] w (GivesRE w (qval s.data.toList) (qcode s.data.toList)) := by
 have HQ := hid (q_top3 h1)
 obtain ⟨T, hT⟩ : ∃ T : ByteArray, (⟨(topOf s.data.toList).toArray⟩ : ByteArray) = T := ⟨_, rfl⟩
 obtain ⟨U, hU⟩ : ∃ U : ByteArray, (⟨(botOf s.data.toList).toArray⟩ : ByteArray) = U := ⟨_, rfl⟩
 have hTl : T.data.toList = topOf s.data.toList := by rw [← hT]
 have hUl : U.data.toList = botOf s.data.toList := by rw [← hU]
 have hTs : T.size ≤ 4200 := by rw [← bs_len, hTl]; have := top_length s.data.toList; rw [bs_len] at this; omega
 have hUs : U.size ≤ 4200 := by rw [← bs_len, hUl]; have := bot_length s.data.toList; rw [bs_len] at this; omega
 obtain ⟨sl, hsl⟩ : ∃ b, slashed s.data.toList = b := ⟨_, rfl⟩
 have HCUT := hid (fun (W : World) (h : Mlen W) => cut_any (w := W) s (by omega) h)
 rw [hT, hU, hsl] at HCUT
 have HTL := hid hTl
 have HUL := hid hUl
 have HM := hid hm
 rw [← hTl] at h1
 have Xh1 := hid h1
 clear hT hU hTl hUl hsl hm h1
 go_enter Tryz.func17, Tryz.ntmps17
 go_wp2_with fail
 obtain ⟨W1, hW, hs, hb, b0, b1⟩ := alloc2 w (.cells #[.bool false, .slice none 0 0, .bool false, .slice none 0 0] 27) (.cells #[.bool false] 4)
 rw [← hW]
 have HB := hid hb
 have BR := hid b0
 have BL := hid b1
 clear hW hs hb b0 b1
 replace HM := hid (HM.out.below HB.out)
 (with_reducible refine (HCUT.out _ HM.out).mono ?_)
 rintro e w2 ⟨rfl, hb⟩
 replace HB := hid (bt HB.out hb)
 replace BR := hid (blk_next BR.out hb)
 replace BL := hid (blk_next BL.out hb)
 clear hb HM HCUT
 go_wp2_with fail
 have lt1_R : w.heap.size < w2.heap.size := (Array.getElem?_eq_some_iff.1 BR.out).1
 have lt2_L : w.heap.size + 1 < w2.heap.size := (Array.getElem?_eq_some_iff.1 BL.out).1
 (with_reducible refine (part_3 T (w.heap.size + 1) false (by omega) BL.out Xh1.out).mono ?_)
 rintro e w3 ⟨n_3, a_3, k_3, c_3, rfl, hu, hst, hl⟩
 have hni := noInt_one (bool_noInt BL.out)
 have hsb := hst.below (show w.heap.size ≤ w.heap.size + 1 by omega) HB.out.size
 replace BR := hid ((hst.block (w.heap.size) (Array.getElem?_eq_some_iff.1 BR.out).1 (by omega)).trans BR.out)
 replace HB := hid (HB.out.trans hsb)
 replace BL := hid hl
 have HA := hid hu
 clear hu hst hl hni hsb
 have lt3_R : w.heap.size < w3.heap.size := (Array.getElem?_eq_some_iff.1 BR.out).1
 have lt4_L : w.heap.size + 1 < w3.heap.size := (Array.getElem?_eq_some_iff.1 BL.out).1
 obtain ⟨⟨cR0, cR1, cR2, cR3⟩, fR0, fR1, fR2, fR3⟩ := res4_facts BR.out
 go_wp2
 try simp only [Exit.inBlock, Exit.then]
 refine bodyPost_ret (results_cell_slot rfl _ _ (w.heap.size) 27 _ (0, 0) _ (.int .i64 3) rfl rfl (blk_next (res4_set BR.out) (allocs_below1 _ _)) Tryz.underlying27 rfl (by kernel_rfl)) rfl ?_
 rw [HQ.out.1, HQ.out.2]
 exact ⟨false, none, 0, 0, false, none, 0, 0, rfl, ratR_zero _, (bt (fin4 HB.out (by omega)) (allocs_below1 _ _))⟩
set_option maxHeartbeats 4000000 in
set_option maxRecDepth 100000 in
theorem ratparse_w6 {w : World} (s : ByteArray) (hs : s.size ≤ 4200) (hm : Mlen w) (h1 : pcode (topOf s.data.toList) = 6) (h2 : slashed s.data.toList = false) :
  Calls Tryz.prog 17 #[.string s] w (GivesRE w (qval s.data.toList) (qcode s.data.toList)) := by
 have HQ := hid (q_whole6 h1 h2)
 obtain ⟨T, hT⟩ : ∃ T : ByteArray, (⟨(topOf s.data.toList).toArray⟩ : ByteArray) = T := ⟨_, rfl⟩
 obtain ⟨U, hU⟩ : ∃ U : ByteArray, (⟨(botOf s.data.toList).toArray⟩ : ByteArray) = U := ⟨_, rfl⟩
 have hTl : T.data.toList = topOf s.data.toList := by rw [← hT]
 have hUl : U.data.toList = botOf s.data.toList := by rw [← hU]
 have hTs : T.size ≤ 4200 := by rw [← bs_len, hTl]; have := top_length s.data.toList; rw [bs_len] at this; omega
 have hUs : U.size ≤ 4200 := by rw [← bs_len, hUl]; have := bot_length s.data.toList; rw [bs_len] at this; omega
 obtain ⟨sl, hsl⟩ : ∃ b, slashed s.data.toList = b := ⟨_, rfl⟩
 have HCUT := hid (fun (W : World) (h : Mlen W) => cut_any (w := W) s (by omega) h)
 rw [hT, hU, hsl] at HCUT
 have HTL := hid hTl
 have HUL := hid hUl
 have HM := hid hm
 rw [← hTl] at h1
 rw [hsl] at h2
 subst h2
 have Xh1 := hid h1
 clear hT hU hTl hUl hsl hm h1
 go_enter Tryz.func17, Tryz.ntmps17
 go_wp2_with fail
 obtain ⟨W1, hW, hs, hb, b0, b1⟩ := alloc2 w (.cells #[.bool false, .slice none 0 0, .bool false, .slice none 0 0] 27) (.cells #[.bool false] 4)
 rw [← hW]
 have HB := hid hb
 have BR := hid b0
 have BL := hid b1
 clear hW hs hb b0 b1
 replace HM := hid (HM.out.below HB.out)
 (with_reducible refine (HCUT.out _ HM.out).mono ?_)
 rintro e w2 ⟨rfl, hb⟩
 replace HB := hid (bt HB.out hb)
 replace BR := hid (blk_next BR.out hb)
 replace BL := hid (blk_next BL.out hb)
 clear hb HM HCUT
 go_wp2_with fail
 have lt1_R : w.heap.size < w2.heap.size := (Array.getElem?_eq_some_iff.1 BR.out).1
 have lt2_L : w.heap.size + 1 < w2.heap.size := (Array.getElem?_eq_some_iff.1 BL.out).1
 (with_reducible refine (part_n T (w.heap.size + 1) false true (by omega) BL.out (by rw [Xh1.out]; decide) (by rw [Xh1.out]; decide)).mono ?_)
 rintro e w3 ⟨n_3, a_3, k_3, c_3, rfl, hu, hst, hl⟩
 have hni := noInt_one (bool_noInt BL.out)
 have hsb := hst.below (show w.heap.size ≤ w.heap.size + 1 by omega) HB.out.size
 replace BR := hid ((hst.block (w.heap.size) (Array.getElem?_eq_some_iff.1 BR.out).1 (by omega)).trans BR.out)
 replace HB := hid (HB.out.trans hsb)
 replace BL := hid hl
 have HA := hid hu
 clear hu hst hl hni hsb
 go_upto_region 7 with fail
 have lt3_R : w.heap.size < w3.heap.size := (Array.getElem?_eq_some_iff.1 BR.out).1
 have lt4_L : w.heap.size + 1 < w3.heap.size := (Array.getElem?_eq_some_iff.1 BL.out).1
 obtain ⟨W4, hW, hs, hb, b0⟩ := alloc1 w3 (.cells #[.bool n_3, .slice a_3 k_3 c_3] 25)
 rw [← hW]
 replace HB := hid (bt HB.out hb)
 replace HA := hid (HA.out.below hb)
 replace BR := hid (blk_next BR.out hb)
 replace BL := hid (blk_next BL.out hb)
 have Bnum := hid b0
 clear hW hs hb b0
 have lt5_R : w.heap.size < W4.heap.size := (Array.getElem?_eq_some_iff.1 BR.out).1
 have lt6_L : w.heap.size + 1 < W4.heap.size := (Array.getElem?_eq_some_iff.1 BL.out).1
 have lt7_num : w3.heap.size < W4.heap.size := (Array.getElem?_eq_some_iff.1 Bnum.out).1
 obtain ⟨⟨cR0, cR1, cR2, cR3⟩, fR0, fR1, fR2, fR3⟩ := res4_facts BR.out
 have cL0 : W4.cell? ⟨w.heap.size + 1, 0, none⟩ = some (.bool true) := by rw [Lib.cell_of_heap BL.out]; rfl
 go_wp2
 try simp only [Exit.inBlock, Exit.then]
 refine bodyPost_ret (results_cell_slot rfl _ _ (w.heap.size) 27 _ (0, 0) _ (.int .i64 6) rfl rfl (res4_set BR.out) Tryz.underlying27 rfl (by kernel_rfl)) rfl ?_
 rw [HQ.out.1, HQ.out.2]
 exact ⟨false, none, 0, 0, false, none, 0, 0, rfl, ratR_zero _, fin4 HB.out (by omega)⟩
set_option maxHeartbeats 4000000 in
set_option maxRecDepth 100000 in
theorem ratparse_w0 {w : World} (s : ByteArray) (hs : s.size ≤ 4200) (hm : Mlen w) (h1 : pcode (topOf s.data.toList) = 0) (h2 : slashed s.data.toList = false) :
  Calls Tryz.prog 17 #[.string s] w (GivesRE w (qval s.data.toList) (qcode s.data.toList)) := by
 have HQ := hid (q_whole0 h1 h2)
 obtain ⟨T, hT⟩ : ∃ T : ByteArray, (⟨(topOf s.data.toList).toArray⟩ : ByteArray) = T := ⟨_, rfl⟩
 obtain ⟨U, hU⟩ : ∃ U : ByteArray, (⟨(botOf s.data.toList).toArray⟩ : ByteArray) = U := ⟨_, rfl⟩
 have hTl : T.data.toList = topOf s.data.toList := by rw [← hT]
 have hUl : U.data.toList = botOf s.data.toList := by rw [← hU]
 have hTs : T.size ≤ 4200 := by rw [← bs_len, hTl]; have := top_length s.data.toList; rw [bs_len] at this; omega
 have hUs : U.size ≤ 4200 := by rw [← bs_len, hUl]; have := bot_length s.data.toList; rw [bs_len] at this; omega
 obtain ⟨sl, hsl⟩ : ∃ b, slashed s.data.toList = b := ⟨_, rfl⟩
 have HCUT := hid (fun (W : World) (h : Mlen W) => cut_any (w := W) s (by omega) h)
 rw [hT, hU, hsl] at HCUT
 have HTL := hid hTl
 have HUL := hid hUl
 have HM := hid hm
 rw [← hTl] at h1
 rw [hsl] at h2
 subst h2
 have Xh1 := hid h1
 clear hT hU hTl hUl hsl hm h1
 go_enter Tryz.func17, Tryz.ntmps17
 go_wp2_with fail
 obtain ⟨W1, hW, hs, hb, b0, b1⟩ := alloc2 w (.cells #[.bool false, .slice none 0 0, .bool false, .slice none 0 0] 27) (.cells #[.bool false] 4)
 rw [← hW]
 have HB := hid hb
 have BR := hid b0
 have BL := hid b1
 clear hW hs hb b0 b1
 replace HM := hid (HM.out.below HB.out)
 (with_reducible refine (HCUT.out _ HM.out).mono ?_)
 rintro e w2 ⟨rfl, hb⟩
 replace HB := hid (bt HB.out hb)
 replace BR := hid (blk_next BR.out hb)
 replace BL := hid (blk_next BL.out hb)
 clear hb HM HCUT
 go_wp2_with fail
 have lt1_R : w.heap.size < w2.heap.size := (Array.getElem?_eq_some_iff.1 BR.out).1
 have lt2_L : w.heap.size + 1 < w2.heap.size := (Array.getElem?_eq_some_iff.1 BL.out).1
 (with_reducible refine (part_n T (w.heap.size + 1) false false (by omega) BL.out (by rw [Xh1.out]; decide) (by rw [Xh1.out]; decide)).mono ?_)
 rintro e w3 ⟨n_3, a_3, k_3, c_3, rfl, hu, hst, hl⟩
 have hni := noInt_one (bool_noInt BL.out)
 have hsb := hst.below (show w.heap.size ≤ w.heap.size + 1 by omega) HB.out.size
 replace BR := hid ((hst.block (w.heap.size) (Array.getElem?_eq_some_iff.1 BR.out).1 (by omega)).trans BR.out)
 replace HB := hid (HB.out.trans hsb)
 replace BL := hid hl
 have HA := hid hu
 clear hu hst hl hni hsb
 go_upto_region 7 with fail
 have lt3_R : w.heap.size < w3.heap.size := (Array.getElem?_eq_some_iff.1 BR.out).1
 have lt4_L : w.heap.size + 1 < w3.heap.size := (Array.getElem?_eq_some_iff.1 BL.out).1
 obtain ⟨W4, hW, hs, hb, b0⟩ := alloc1 w3 (.cells #[.bool n_3, .slice a_3 k_3 c_3] 25)
 rw [← hW]
 replace HB := hid (bt HB.out hb)
 replace HA := hid (HA.out.below hb)
 replace BR := hid (blk_next BR.out hb)
 replace BL := hid (blk_next BL.out hb)
 have Bnum := hid b0
 clear hW hs hb b0
 have cL0 : W4.cell? ⟨w.heap.size + 1, 0, none⟩ = some (.bool false) := by rw [Lib.cell_of_heap BL.out]; rfl
 have dT := dg_of_text (l := T.data.toList) (N := 4200) (by rw [bs_len]; omega)
 have d1 : Dg 4200 (1 : Int) := (show Dg 1 (1 : Int) by unfold Dg; decide).mono (by omega)
 have HN1 := hid (show (1 : Int) ≠ 0 by decide)
 go_wp2_with fail
 clear cL0
 have lt5_R : w.heap.size < W4.heap.size := (Array.getElem?_eq_some_iff.1 BR.out).1
 have lt6_L : w.heap.size + 1 < W4.heap.size := (Array.getElem?_eq_some_iff.1 BL.out).1
 have lt7_num : w3.heap.size < W4.heap.size := (Array.getElem?_eq_some_iff.1 Bnum.out).1
 obtain ⟨cnum0, cnum1, fnum0, fnum1⟩ := res_facts Bnum.out
 have HL5 := hid (fun (w' : World) (hb : Stay (w.heap.size) (w.heap.size + 1) W4 w') => (⟨hb, hb.cell (by omega) cnum0, hb.cell (by omega) cnum1⟩ : Stay (w.heap.size) (w.heap.size + 1) W4 w' ∧ w'.cell? ⟨w3.heap.size, 0, none⟩ = some (.bool n_3) ∧ w'.cell? ⟨w3.heap.size, 1, none⟩ = some (.slice a_3 k_3 c_3)))
 have HI5 := hid (fun (w' : World) (hs : Stay (w.heap.size) (w.heap.size + 1) W4 w' ∧ w'.cell? ⟨w3.heap.size, 0, none⟩ = some (.bool n_3) ∧ w'.cell? ⟨w3.heap.size, 1, none⟩ = some (.slice a_3 k_3 c_3)) => hs.1)
 have HN5 := hid (noInt_one (noInt4 BR.out))
 have HS5 := hid (Stay.refl (w.heap.size) (w.heap.size + 1) W4)
 have HC5 := hid (Below.drew (Below.refl W4.heap.size W4))
 go_region_held3 (fun w' => Stay (w.heap.size) (w.heap.size + 1) W4 w' ∧ w'.cell? ⟨w3.heap.size, 0, none⟩ = some (.bool n_3) ∧ w'.cell? ⟨w3.heap.size, 1, none⟩ = some (.slice a_3 k_3 c_3))
  (first | exact HL5.out _ (Stay.drew HS5.out) | exact HL5.out _ (Stay.next (HI5.out _ (by assumption)) (by assumption)) | exact HL5.out _ (stay_set4 (HI5.out _ (by assumption)) (by omega) (by omega)))
  (first | (go_at_call 43; (with_reducible refine (of_any (n := 1) (by decide) (by decide)).mono ?_); rintro e w6 ⟨n_6, a_6, k_6, c_6, rfl, hu_6, hbr6⟩; have HONE := hid hu_6; clear hu_6; have HRX6 := hid (blk_next (w := W4.drew) BR.out hbr6)) | (go_at_call 31; (with_reducible refine (new_any (HA.out.stay (HI5.out _ (by assumption)) HN5.out) HONE.out HN1.out dT d1 (by omega)).mono ?_); rintro e w7 ⟨n_7, a_7, k_7, c_7, n2_7, a2_7, k2_7, c2_7, rfl, hu_7, hv_7, hbr7⟩; have HX := hid hu_7; have HY := hid hv_7; clear hu_7 hv_7; have HRX7 := hid (blk_next HRX6.out hbr7); obtain ⟨⟨d0, d1, d2, d3⟩, e0, e1, e2, e3⟩ := res4_facts HRX7.out))
 go_wp2
 try simp only [Exit.inBlock, Exit.then]
 refine bodyPost_ret (results_cell_slot rfl _ _ (w.heap.size) 27 _ (0, 0) _ (.int .i64 0) rfl rfl (res4_set HRX7.out) Tryz.underlying27 rfl (by kernel_rfl)) rfl ?_
 exact ⟨_, _, _, _, _, _, _, _, by rw [HQ.out.1], (by rw [HQ.out.2, ← HTL.out]; exact RatR.mk (HX.out.stay set4_stay (noInt_one (noInt4 HRX7.out))) (HY.out.stay set4_stay (noInt_one (noInt4 HRX7.out))) (.inl rfl)), (fin4 (bt HB.out (bt (bt HC5.out hbr6) hbr7)) (by omega))⟩
set_option maxHeartbeats 4000000 in
set_option maxRecDepth 100000 in
theorem ratparse_b3 {w : World} (s : ByteArray) (hs : s.size ≤ 4200) (hm : Mlen w) (h1 : pcode (topOf s.data.toList) ≠ 3) (h2 : slashed s.data.toList = true) (h4 : pcode (botOf s.data.toList) = 3) :
  Calls Tryz.prog 17 #[.string s] w (GivesRE w (qval s.data.toList) (qcode s.data.toList)) := by
 have HQ := hid (q_bot h1 h2 (.inl h4))
 obtain ⟨T, hT⟩ : ∃ T : ByteArray, (⟨(topOf s.data.toList).toArray⟩ : ByteArray) = T := ⟨_, rfl⟩
 obtain ⟨U, hU⟩ : ∃ U : ByteArray, (⟨(botOf s.data.toList).toArray⟩ : ByteArray) = U := ⟨_, rfl⟩
 have hTl : T.data.toList = topOf s.data.toList := by rw [← hT]
 have hUl : U.data.toList = botOf s.data.toList := by rw [← hU]
 have hTs : T.size ≤ 4200 := by rw [← bs_len, hTl]; have := top_length s.data.toList; rw [bs_len] at this; omega
 have hUs : U.size ≤ 4200 := by rw [← bs_len, hUl]; have := bot_length s.data.toList; rw [bs_len] at this; omega
 obtain ⟨sl, hsl⟩ : ∃ b, slashed s.data.toList = b := ⟨_, rfl⟩
 have HCUT := hid (fun (W : World) (h : Mlen W) => cut_any (w := W) s (by omega) h)
 rw [hT, hU, hsl] at HCUT
 have HTL := hid hTl
 have HUL := hid hUl
 have HM := hid hm
 rw [← hTl] at h1
 rw [← hUl] at h4
 rw [hsl] at h2
 subst h2
 have Xh1 := hid h1
 have Xh4 := hid h4
 clear hT hU hTl hUl hsl hm h1 h4
 go_enter Tryz.func17, Tryz.ntmps17
 go_wp2_with fail
 obtain ⟨W1, hW, hs, hb, b0, b1⟩ := alloc2 w (.cells #[.bool false, .slice none 0 0, .bool false, .slice none 0 0] 27) (.cells #[.bool false] 4)
 rw [← hW]
 have HB := hid hb
 have BR := hid b0
 have BL := hid b1
 clear hW hs hb b0 b1
 replace HM := hid (HM.out.below HB.out)
 (with_reducible refine (HCUT.out _ HM.out).mono ?_)
 rintro e w2 ⟨rfl, hb⟩
 replace HB := hid (bt HB.out hb)
 replace BR := hid (blk_next BR.out hb)
 replace BL := hid (blk_next BL.out hb)
 clear hb HM HCUT
 go_wp2_with fail
 have lt1_R : w.heap.size < w2.heap.size := (Array.getElem?_eq_some_iff.1 BR.out).1
 have lt2_L : w.heap.size + 1 < w2.heap.size := (Array.getElem?_eq_some_iff.1 BL.out).1
 obtain ⟨l1, hl1⟩ : ∃ b, (false || decide (pcode T.data.toList = 6)) = b := ⟨_, rfl⟩
 have HL1 := hid hl1
 clear hl1
 (with_reducible refine (part_n T (w.heap.size + 1) false l1 (by omega) BL.out Xh1.out HL1.out).mono ?_)
 rintro e w3 ⟨n_3, a_3, k_3, c_3, rfl, hu, hst, hl⟩
 have hni := noInt_one (bool_noInt BL.out)
 have hsb := hst.below (show w.heap.size ≤ w.heap.size + 1 by omega) HB.out.size
 replace BR := hid ((hst.block (w.heap.size) (Array.getElem?_eq_some_iff.1 BR.out).1 (by omega)).trans BR.out)
 replace HB := hid (HB.out.trans hsb)
 replace BL := hid hl
 have HA := hid hu
 clear hu hst hl hni hsb
 go_upto_region 7 with fail
 have lt3_R : w.heap.size < w3.heap.size := (Array.getElem?_eq_some_iff.1 BR.out).1
 have lt4_L : w.heap.size + 1 < w3.heap.size := (Array.getElem?_eq_some_iff.1 BL.out).1
 obtain ⟨W4, hW, hs, hb, b0⟩ := alloc1 w3 (.cells #[.bool n_3, .slice a_3 k_3 c_3] 25)
 rw [← hW]
 replace HB := hid (bt HB.out hb)
 replace HA := hid (HA.out.below hb)
 replace BR := hid (blk_next BR.out hb)
 replace BL := hid (blk_next BL.out hb)
 have Bnum := hid b0
 clear hW hs hb b0
 go_wp2_with fail
 have lt5_R : w.heap.size < W4.heap.size := (Array.getElem?_eq_some_iff.1 BR.out).1
 have lt6_L : w.heap.size + 1 < W4.heap.size := (Array.getElem?_eq_some_iff.1 BL.out).1
 have lt7_num : w3.heap.size < W4.heap.size := (Array.getElem?_eq_some_iff.1 Bnum.out).1
 (with_reducible refine (part_3 U (w.heap.size + 1) l1 (by omega) BL.out Xh4.out).mono ?_)
 rintro e w5 ⟨n_5, a_5, k_5, c_5, rfl, hu, hst, hl⟩
 have hni := noInt_one (bool_noInt BL.out)
 have hsb := hst.below (show w.heap.size ≤ w.heap.size + 1 by omega) HB.out.size
 replace HA := hid (HA.out.stay hst hni)
 replace BR := hid ((hst.block (w.heap.size) (Array.getElem?_eq_some_iff.1 BR.out).1 (by omega)).trans BR.out)
 replace Bnum := hid ((hst.block (w3.heap.size) (Array.getElem?_eq_some_iff.1 Bnum.out).1 (by omega)).trans Bnum.out)
 replace HB := hid (HB.out.trans hsb)
 replace BL := hid hl
 have HB1 := hid hu
 clear hu hst hl hni hsb
 have lt8_R : w.heap.size < w5.heap.size := (Array.getElem?_eq_some_iff.1 BR.out).1
 have lt9_L : w.heap.size + 1 < w5.heap.size := (Array.getElem?_eq_some_iff.1 BL.out).1
 have lt10_num : w3.heap.size < w5.heap.size := (Array.getElem?_eq_some_iff.1 Bnum.out).1
 obtain ⟨⟨cR0, cR1, cR2, cR3⟩, fR0, fR1, fR2, fR3⟩ := res4_facts BR.out
 go_wp2
 try simp only [Exit.inBlock, Exit.then]
 refine bodyPost_ret (results_cell_slot rfl _ _ (w.heap.size) 27 _ (0, 0) _ (.int .i64 3) rfl rfl (blk_next (res4_set BR.out) (allocs_below1 _ _)) Tryz.underlying27 rfl (by kernel_rfl)) rfl ?_
 rw [HQ.out.1, HQ.out.2]
 exact ⟨false, none, 0, 0, false, none, 0, 0, rfl, ratR_zero _, (bt (fin4 HB.out (by omega)) (allocs_below1 _ _))⟩
set_option maxHeartbeats 4000000 in
set_option maxRecDepth 100000 in
theorem ratparse_ng {w : World} (s : ByteArray) (hs : s.size ≤ 4200) (hm : Mlen w) (h1 : pcode (topOf s.data.toList) ≠ 3) (h2 : slashed s.data.toList = true) (h4 : pcode (botOf s.data.toList) ≠ 3) (h5 : negOf (botOf s.data.toList) = true) :
  Calls Tryz.prog 17 #[.string s] w (GivesRE w (qval s.data.toList) (qcode s.data.toList)) := by
 have HQ := hid (q_bot h1 h2 (.inr (.inl h5)))
 obtain ⟨T, hT⟩ : ∃ T : ByteArray, (⟨(topOf s.data.toList).toArray⟩ : ByteArray) = T := ⟨_, rfl⟩
 obtain ⟨U, hU⟩ : ∃ U : ByteArray, (⟨(botOf s.data.toList).toArray⟩ : ByteArray) = U := ⟨_, rfl⟩
 have hTl : T.data.toList = topOf s.data.toList := by rw [← hT]
 have hUl : U.data.toList = botOf s.data.toList := by rw [← hU]
 have hTs : T.size ≤ 4200 := by rw [← bs_len, hTl]; have := top_length s.data.toList; rw [bs_len] at this; omega
 have hUs : U.size ≤ 4200 := by rw [← bs_len, hUl]; have := bot_length s.data.toList; rw [bs_len] at this; omega
 obtain ⟨sl, hsl⟩ : ∃ b, slashed s.data.toList = b := ⟨_, rfl⟩
 have HCUT := hid (fun (W : World) (h : Mlen W) => cut_any (w := W) s (by omega) h)
 rw [hT, hU, hsl] at HCUT
 have HTL := hid hTl
 have HUL := hid hUl
 have HM := hid hm
 rw [← hTl] at h1
 rw [← hUl] at h4 h5
 rw [hsl] at h2
 subst h2
 have Xh1 := hid h1
 have Xh4 := hid h4
 have Xh5 := hid h5
 clear hT hU hTl hUl hsl hm h1 h4 h5
 go_enter Tryz.func17, Tryz.ntmps17
 go_wp2_with fail
 obtain ⟨W1, hW, hs, hb, b0, b1⟩ := alloc2 w (.cells #[.bool false, .slice none 0 0, .bool false, .slice none 0 0] 27) (.cells #[.bool false] 4)
 rw [← hW]
 have HB := hid hb
 have BR := hid b0
 have BL := hid b1
 clear hW hs hb b0 b1
 replace HM := hid (HM.out.below HB.out)
 (with_reducible refine (HCUT.out _ HM.out).mono ?_)
 rintro e w2 ⟨rfl, hb⟩
 replace HB := hid (bt HB.out hb)
 replace BR := hid (blk_next BR.out hb)
 replace BL := hid (blk_next BL.out hb)
 clear hb HM HCUT
 go_wp2_with fail
 have lt1_R : w.heap.size < w2.heap.size := (Array.getElem?_eq_some_iff.1 BR.out).1
 have lt2_L : w.heap.size + 1 < w2.heap.size := (Array.getElem?_eq_some_iff.1 BL.out).1
 obtain ⟨l1, hl1⟩ : ∃ b, (false || decide (pcode T.data.toList = 6)) = b := ⟨_, rfl⟩
 have HL1 := hid hl1
 clear hl1
 (with_reducible refine (part_n T (w.heap.size + 1) false l1 (by omega) BL.out Xh1.out HL1.out).mono ?_)
 rintro e w3 ⟨n_3, a_3, k_3, c_3, rfl, hu, hst, hl⟩
 have hni := noInt_one (bool_noInt BL.out)
 have hsb := hst.below (show w.heap.size ≤ w.heap.size + 1 by omega) HB.out.size
 replace BR := hid ((hst.block (w.heap.size) (Array.getElem?_eq_some_iff.1 BR.out).1 (by omega)).trans BR.out)
 replace HB := hid (HB.out.trans hsb)
 replace BL := hid hl
 have HA := hid hu
 clear hu hst hl hni hsb
 go_upto_region 7 with fail
 have lt3_R : w.heap.size < w3.heap.size := (Array.getElem?_eq_some_iff.1 BR.out).1
 have lt4_L : w.heap.size + 1 < w3.heap.size := (Array.getElem?_eq_some_iff.1 BL.out).1
 obtain ⟨W4, hW, hs, hb, b0⟩ := alloc1 w3 (.cells #[.bool n_3, .slice a_3 k_3 c_3] 25)
 rw [← hW]
 replace HB := hid (bt HB.out hb)
 replace HA := hid (HA.out.below hb)
 replace BR := hid (blk_next BR.out hb)
 replace BL := hid (blk_next BL.out hb)
 have Bnum := hid b0
 clear hW hs hb b0
 go_wp2_with fail
 have lt5_R : w.heap.size < W4.heap.size := (Array.getElem?_eq_some_iff.1 BR.out).1
 have lt6_L : w.heap.size + 1 < W4.heap.size := (Array.getElem?_eq_some_iff.1 BL.out).1
 have lt7_num : w3.heap.size < W4.heap.size := (Array.getElem?_eq_some_iff.1 Bnum.out).1
 obtain ⟨l2, hl2⟩ : ∃ b, (l1 || decide (pcode U.data.toList = 6)) = b := ⟨_, rfl⟩
 have HL2 := hid hl2
 clear hl2
 (with_reducible refine (part_n U (w.heap.size + 1) l1 l2 (by omega) BL.out Xh4.out HL2.out).mono ?_)
 rintro e w5 ⟨n_5, a_5, k_5, c_5, rfl, hu, hst, hl⟩
 have hni := noInt_one (bool_noInt BL.out)
 have hsb := hst.below (show w.heap.size ≤ w.heap.size + 1 by omega) HB.out.size
 replace HA := hid (HA.out.stay hst hni)
 replace BR := hid ((hst.block (w.heap.size) (Array.getElem?_eq_some_iff.1 BR.out).1 (by omega)).trans BR.out)
 replace Bnum := hid ((hst.block (w3.heap.size) (Array.getElem?_eq_some_iff.1 Bnum.out).1 (by omega)).trans Bnum.out)
 replace HB := hid (HB.out.trans hsb)
 replace BL := hid hl
 have HB1 := hid hu
 clear hu hst hl hni hsb
 go_wp2_with fail
 have lt8_R : w.heap.size < w5.heap.size := (Array.getElem?_eq_some_iff.1 BR.out).1
 have lt9_L : w.heap.size + 1 < w5.heap.size := (Array.getElem?_eq_some_iff.1 BL.out).1
 have lt10_num : w3.heap.size < w5.heap.size := (Array.getElem?_eq_some_iff.1 Bnum.out).1
 obtain ⟨W6, hW, hs, hb, b0⟩ := alloc1 w5 (.cells #[.bool n_5, .slice a_5 k_5 c_5] 25)
 rw [← hW]
 replace HB := hid (bt HB.out hb)
 replace HA := hid (HA.out.below hb)
 replace HB1 := hid (HB1.out.below hb)
 replace BR := hid (blk_next BR.out hb)
 replace BL := hid (blk_next BL.out hb)
 replace Bnum := hid (blk_next Bnum.out hb)
 have Bden := hid b0
 clear hW hs hb b0
 (with_reducible refine (Tryz.strings_HasPrefix U ⟨#[45]⟩ _).mono ?_)
 rintro e w' ⟨rfl, rfl⟩
 rw [show Lib.hasPrefix U.data.toList (⟨#[45]⟩ : ByteArray).data.toList = negOf U.data.toList from rfl, Xh5.out]
 have lt1_R : w.heap.size < w'.heap.size := (Array.getElem?_eq_some_iff.1 BR.out).1
 have lt2_L : w.heap.size + 1 < w'.heap.size := (Array.getElem?_eq_some_iff.1 BL.out).1
 have lt3_num : w3.heap.size < w'.heap.size := (Array.getElem?_eq_some_iff.1 Bnum.out).1
 have lt4_den : w5.heap.size < w'.heap.size := (Array.getElem?_eq_some_iff.1 Bden.out).1
 obtain ⟨⟨cR0, cR1, cR2, cR3⟩, fR0, fR1, fR2, fR3⟩ := res4_facts BR.out
 go_wp2
 try simp only [Exit.inBlock, Exit.then]
 refine bodyPost_ret (results_cell_slot rfl _ _ (w.heap.size) 27 _ (0, 0) _ (.int .i64 3) rfl rfl (res4_set BR.out) Tryz.underlying27 rfl (by kernel_rfl)) rfl ?_
 rw [HQ.out.1, HQ.out.2]
 exact ⟨false, none, 0, 0, false, none, 0, 0, rfl, ratR_zero _, fin4 HB.out (by omega)⟩
set_option maxHeartbeats 4000000 in
set_option maxRecDepth 100000 in
theorem ratparse_48 {w : World} (s : ByteArray) (hs : s.size ≤ 4200) (hm : Mlen w) (h1 : pcode (topOf s.data.toList) ≠ 3) (h2 : slashed s.data.toList = true) (h4 : pcode (botOf s.data.toList) ≠ 3) (h5 : negOf (botOf s.data.toList) = false) (h6 : botOf s.data.toList = [48]) :
  Calls Tryz.prog 17 #[.string s] w (GivesRE w (qval s.data.toList) (qcode s.data.toList)) := by
 have HQ := hid (q_bot h1 h2 (.inr (.inr (.inl h6))))
 obtain ⟨T, hT⟩ : ∃ T : ByteArray, (⟨(topOf s.data.toList).toArray⟩ : ByteArray) = T := ⟨_, rfl⟩
 obtain ⟨U, hU⟩ : ∃ U : ByteArray, (⟨(botOf s.data.toList).toArray⟩ : ByteArray) = U := ⟨_, rfl⟩
 have hTl : T.data.toList = topOf s.data.toList := by rw [← hT]
 have hUl : U.data.toList = botOf s.data.toList := by rw [← hU]
 have hTs : T.size ≤ 4200 := by rw [← bs_len, hTl]; have := top_length s.data.toList; rw [bs_len] at this; omega
 have hUs : U.size ≤ 4200 := by rw [← bs_len, hUl]; have := bot_length s.data.toList; rw [bs_len] at this; omega
 obtain ⟨sl, hsl⟩ : ∃ b, slashed s.data.toList = b := ⟨_, rfl⟩
 have HCUT := hid (fun (W : World) (h : Mlen W) => cut_any (w := W) s (by omega) h)
 rw [hT, hU, hsl] at HCUT
 have HTL := hid hTl
 have HUL := hid hUl
 have HM := hid hm
 rw [← hTl] at h1
 rw [← hUl] at h4 h5 h6
 rw [hsl] at h2
 subst h2
 have Xh1 := hid h1
 have Xh4 := hid h4
 have Xh5 := hid h5
 have Xh6 := hid h6
 have t1 : (U.toList == [48]) = true := by rw [Lib.toList_data, h6]; rfl
 clear hT hU hTl hUl hsl hm h1 h4 h5 h6
 go_enter Tryz.func17, Tryz.ntmps17
 go_wp2_with fail
 obtain ⟨W1, hW, hs, hb, b0, b1⟩ := alloc2 w (.cells #[.bool false, .slice none 0 0, .bool false, .slice none 0 0] 27) (.cells #[.bool false] 4)
 rw [← hW]
 have HB := hid hb
 have BR := hid b0
 have BL := hid b1
 clear hW hs hb b0 b1
 replace HM := hid (HM.out.below HB.out)
 (with_reducible refine (HCUT.out _ HM.out).mono ?_)
 rintro e w2 ⟨rfl, hb⟩
 replace HB := hid (bt HB.out hb)
 replace BR := hid (blk_next BR.out hb)
 replace BL := hid (blk_next BL.out hb)
 clear hb HM HCUT
 go_wp2_with fail
 have lt1_R : w.heap.size < w2.heap.size := (Array.getElem?_eq_some_iff.1 BR.out).1
 have lt2_L : w.heap.size + 1 < w2.heap.size := (Array.getElem?_eq_some_iff.1 BL.out).1
 obtain ⟨l1, hl1⟩ : ∃ b, (false || decide (pcode T.data.toList = 6)) = b := ⟨_, rfl⟩
 have HL1 := hid hl1
 clear hl1
 (with_reducible refine (part_n T (w.heap.size + 1) false l1 (by omega) BL.out Xh1.out HL1.out).mono ?_)
 rintro e w3 ⟨n_3, a_3, k_3, c_3, rfl, hu, hst, hl⟩
 have hni := noInt_one (bool_noInt BL.out)
 have hsb := hst.below (show w.heap.size ≤ w.heap.size + 1 by omega) HB.out.size
 replace BR := hid ((hst.block (w.heap.size) (Array.getElem?_eq_some_iff.1 BR.out).1 (by omega)).trans BR.out)
 replace HB := hid (HB.out.trans hsb)
 replace BL := hid hl
 have HA := hid hu
 clear hu hst hl hni hsb
 go_upto_region 7 with fail
 have lt3_R : w.heap.size < w3.heap.size := (Array.getElem?_eq_some_iff.1 BR.out).1
 have lt4_L : w.heap.size + 1 < w3.heap.size := (Array.getElem?_eq_some_iff.1 BL.out).1
 obtain ⟨W4, hW, hs, hb, b0⟩ := alloc1 w3 (.cells #[.bool n_3, .slice a_3 k_3 c_3] 25)
 rw [← hW]
 replace HB := hid (bt HB.out hb)
 replace HA := hid (HA.out.below hb)
 replace BR := hid (blk_next BR.out hb)
 replace BL := hid (blk_next BL.out hb)
 have Bnum := hid b0
 clear hW hs hb b0
 go_wp2_with fail
 have lt5_R : w.heap.size < W4.heap.size := (Array.getElem?_eq_some_iff.1 BR.out).1
 have lt6_L : w.heap.size + 1 < W4.heap.size := (Array.getElem?_eq_some_iff.1 BL.out).1
 have lt7_num : w3.heap.size < W4.heap.size := (Array.getElem?_eq_some_iff.1 Bnum.out).1
 obtain ⟨l2, hl2⟩ : ∃ b, (l1 || decide (pcode U.data.toList = 6)) = b := ⟨_, rfl⟩
 have HL2 := hid hl2
 clear hl2
 (with_reducible refine (part_n U (w.heap.size + 1) l1 l2 (by omega) BL.out Xh4.out HL2.out).mono ?_)
 rintro e w5 ⟨n_5, a_5, k_5, c_5, rfl, hu, hst, hl⟩
 have hni := noInt_one (bool_noInt BL.out)
 have hsb := hst.below (show w.heap.size ≤ w.heap.size + 1 by omega) HB.out.size
 replace HA := hid (HA.out.stay hst hni)
 replace BR := hid ((hst.block (w.heap.size) (Array.getElem?_eq_some_iff.1 BR.out).1 (by omega)).trans BR.out)
 replace Bnum := hid ((hst.block (w3.heap.size) (Array.getElem?_eq_some_iff.1 Bnum.out).1 (by omega)).trans Bnum.out)
 replace HB := hid (HB.out.trans hsb)
 replace BL := hid hl
 have HB1 := hid hu
 clear hu hst hl hni hsb
 go_wp2_with fail
 have lt8_R : w.heap.size < w5.heap.size := (Array.getElem?_eq_some_iff.1 BR.out).1
 have lt9_L : w.heap.size + 1 < w5.heap.size := (Array.getElem?_eq_some_iff.1 BL.out).1
 have lt10_num : w3.heap.size < w5.heap.size := (Array.getElem?_eq_some_iff.1 Bnum.out).1
 obtain ⟨W6, hW, hs, hb, b0⟩ := alloc1 w5 (.cells #[.bool n_5, .slice a_5 k_5 c_5] 25)
 rw [← hW]
 replace HB := hid (bt HB.out hb)
 replace HA := hid (HA.out.below hb)
 replace HB1 := hid (HB1.out.below hb)
 replace BR := hid (blk_next BR.out hb)
 replace BL := hid (blk_next BL.out hb)
 replace Bnum := hid (blk_next Bnum.out hb)
 have Bden := hid b0
 clear hW hs hb b0
 (with_reducible refine (Tryz.strings_HasPrefix U ⟨#[45]⟩ _).mono ?_)
 rintro e w' ⟨rfl, rfl⟩
 rw [show Lib.hasPrefix U.data.toList (⟨#[45]⟩ : ByteArray).data.toList = negOf U.data.toList from rfl, Xh5.out]
 have lt1_R : w.heap.size < w'.heap.size := (Array.getElem?_eq_some_iff.1 BR.out).1
 have lt2_L : w.heap.size + 1 < w'.heap.size := (Array.getElem?_eq_some_iff.1 BL.out).1
 have lt3_num : w3.heap.size < w'.heap.size := (Array.getElem?_eq_some_iff.1 Bnum.out).1
 have lt4_den : w5.heap.size < w'.heap.size := (Array.getElem?_eq_some_iff.1 Bden.out).1
 obtain ⟨⟨cR0, cR1, cR2, cR3⟩, fR0, fR1, fR2, fR3⟩ := res4_facts BR.out
 go_wp2
 try simp only [Exit.inBlock, Exit.then]
 refine bodyPost_ret (results_cell_slot rfl _ _ (w.heap.size) 27 _ (0, 0) _ (.int .i64 3) rfl rfl (res4_set BR.out) Tryz.underlying27 rfl (by kernel_rfl)) rfl ?_
 rw [HQ.out.1, HQ.out.2]
 exact ⟨false, none, 0, 0, false, none, 0, 0, rfl, ratR_zero _, fin4 HB.out (by omega)⟩
set_option maxHeartbeats 4000000 in
set_option maxRecDepth 100000 in
theorem ratparse_49 {w : World} (s : ByteArray) (hs : s.size ≤ 4200) (hm : Mlen w) (h1 : pcode (topOf s.data.toList) ≠ 3) (h2 : slashed s.data.toList = true) (h4 : pcode (botOf s.data.toList) ≠ 3) (h5 : negOf (botOf s.data.toList) = false) (h6 : botOf s.data.toList = [49]) :
  Calls Tryz.prog 17 #[.string s] w (GivesRE w (qval s.data.toList) (qcode s.data.toList)) := by
 have HQ := hid (q_bot h1 h2 (.inr (.inr (.inr h6))))
 obtain ⟨T, hT⟩ : ∃ T : ByteArray, (⟨(topOf s.data.toList).toArray⟩ : ByteArray) = T := ⟨_, rfl⟩
 obtain ⟨U, hU⟩ : ∃ U : ByteArray, (⟨(botOf s.data.toList).toArray⟩ : ByteArray) = U := ⟨_, rfl⟩
 have hTl : T.data.toList = topOf s.data.toList := by rw [← hT]
 have hUl : U.data.toList = botOf s.data.toList := by rw [← hU]
 have hTs : T.size ≤ 4200 := by rw [← bs_len, hTl]; have := top_length s.data.toList; rw [bs_len] at this; omega
 have hUs : U.size ≤ 4200 := by rw [← bs_len, hUl]; have := bot_length s.data.toList; rw [bs_len] at this; omega
 obtain ⟨sl, hsl⟩ : ∃ b, slashed s.data.toList = b := ⟨_, rfl⟩
 have HCUT := hid (fun (W : World) (h : Mlen W) => cut_any (w := W) s (by omega) h)
 rw [hT, hU, hsl] at HCUT
 have HTL := hid hTl
 have HUL := hid hUl
 have HM := hid hm
 rw [← hTl] at h1
 rw [← hUl] at h4 h5 h6
 rw [hsl] at h2
 subst h2
 have Xh1 := hid h1
 have Xh4 := hid h4
 have Xh5 := hid h5
 have Xh6 := hid h6
 have t1 : (U.toList == [48]) = false := by rw [Lib.toList_data, h6]; rfl
 have t2 : (U.toList == [49]) = true := by rw [Lib.toList_data, h6]; rfl
 clear hT hU hTl hUl hsl hm h1 h4 h5 h6
 go_enter Tryz.func17, Tryz.ntmps17
 go_wp2_with fail
 obtain ⟨W1, hW, hs, hb, b0, b1⟩ := alloc2 w (.cells #[.bool false, .slice none 0 0, .bool false, .slice none 0 0] 27) (.cells #[.bool false] 4)
 rw [← hW]
 have HB := hid hb
 have BR := hid b0
 have BL := hid b1
 clear hW hs hb b0 b1
 replace HM := hid (HM.out.below HB.out)
 (with_reducible refine (HCUT.out _ HM.out).mono ?_)
 rintro e w2 ⟨rfl, hb⟩
 replace HB := hid (bt HB.out hb)
 replace BR := hid (blk_next BR.out hb)
 replace BL := hid (blk_next BL.out hb)
 clear hb HM HCUT
 go_wp2_with fail
 have lt1_R : w.heap.size < w2.heap.size := (Array.getElem?_eq_some_iff.1 BR.out).1
 have lt2_L : w.heap.size + 1 < w2.heap.size := (Array.getElem?_eq_some_iff.1 BL.out).1
 obtain ⟨l1, hl1⟩ : ∃ b, (false || decide (pcode T.data.toList = 6)) = b := ⟨_, rfl⟩
 have HL1 := hid hl1
 clear hl1
 (with_reducible refine (part_n T (w.heap.size + 1) false l1 (by omega) BL.out Xh1.out HL1.out).mono ?_)
 rintro e w3 ⟨n_3, a_3, k_3, c_3, rfl, hu, hst, hl⟩
 have hni := noInt_one (bool_noInt BL.out)
 have hsb := hst.below (show w.heap.size ≤ w.heap.size + 1 by omega) HB.out.size
 replace BR := hid ((hst.block (w.heap.size) (Array.getElem?_eq_some_iff.1 BR.out).1 (by omega)).trans BR.out)
 replace HB := hid (HB.out.trans hsb)
 replace BL := hid hl
 have HA := hid hu
 clear hu hst hl hni hsb
 go_upto_region 7 with fail
 have lt3_R : w.heap.size < w3.heap.size := (Array.getElem?_eq_some_iff.1 BR.out).1
 have lt4_L : w.heap.size + 1 < w3.heap.size := (Array.getElem?_eq_some_iff.1 BL.out).1
 obtain ⟨W4, hW, hs, hb, b0⟩ := alloc1 w3 (.cells #[.bool n_3, .slice a_3 k_3 c_3] 25)
 rw [← hW]
 replace HB := hid (bt HB.out hb)
 replace HA := hid (HA.out.below hb)
 replace BR := hid (blk_next BR.out hb)
 replace BL := hid (blk_next BL.out hb)
 have Bnum := hid b0
 clear hW hs hb b0
 go_wp2_with fail
 have lt5_R : w.heap.size < W4.heap.size := (Array.getElem?_eq_some_iff.1 BR.out).1
 have lt6_L : w.heap.size + 1 < W4.heap.size := (Array.getElem?_eq_some_iff.1 BL.out).1
 have lt7_num : w3.heap.size < W4.heap.size := (Array.getElem?_eq_some_iff.1 Bnum.out).1
 obtain ⟨l2, hl2⟩ : ∃ b, (l1 || decide (pcode U.data.toList = 6)) = b := ⟨_, rfl⟩
 have HL2 := hid hl2
 clear hl2
 (with_reducible refine (part_n U (w.heap.size + 1) l1 l2 (by omega) BL.out Xh4.out HL2.out).mono ?_)
 rintro e w5 ⟨n_5, a_5, k_5, c_5, rfl, hu, hst, hl⟩
 have hni := noInt_one (bool_noInt BL.out)
 have hsb := hst.below (show w.heap.size ≤ w.heap.size + 1 by omega) HB.out.size
 replace HA := hid (HA.out.stay hst hni)
 replace BR := hid ((hst.block (w.heap.size) (Array.getElem?_eq_some_iff.1 BR.out).1 (by omega)).trans BR.out)
 replace Bnum := hid ((hst.block (w3.heap.size) (Array.getElem?_eq_some_iff.1 Bnum.out).1 (by omega)).trans Bnum.out)
 replace HB := hid (HB.out.trans hsb)
 replace BL := hid hl
 have HB1 := hid hu
 clear hu hst hl hni hsb
 go_wp2_with fail
 have lt8_R : w.heap.size < w5.heap.size := (Array.getElem?_eq_some_iff.1 BR.out).1
 have lt9_L : w.heap.size + 1 < w5.heap.size := (Array.getElem?_eq_some_iff.1 BL.out).1
 have lt10_num : w3.heap.size < w5.heap.size := (Array.getElem?_eq_some_iff.1 Bnum.out).1
 obtain ⟨W6, hW, hs, hb, b0⟩ := alloc1 w5 (.cells #[.bool n_5, .slice a_5 k_5 c_5] 25)
 rw [← hW]
 replace HB := hid (bt HB.out hb)
 replace HA := hid (HA.out.below hb)
 replace HB1 := hid (HB1.out.below hb)
 replace BR := hid (blk_next BR.out hb)
 replace BL := hid (blk_next BL.out hb)
 replace Bnum := hid (blk_next Bnum.out hb)
 have Bden := hid b0
 clear hW hs hb b0
 (with_reducible refine (Tryz.strings_HasPrefix U ⟨#[45]⟩ _).mono ?_)
 rintro e w' ⟨rfl, rfl⟩
 rw [show Lib.hasPrefix U.data.toList (⟨#[45]⟩ : ByteArray).data.toList = negOf U.data.toList from rfl, Xh5.out]
 have lt1_R : w.heap.size < w'.heap.size := (Array.getElem?_eq_some_iff.1 BR.out).1
 have lt2_L : w.heap.size + 1 < w'.heap.size := (Array.getElem?_eq_some_iff.1 BL.out).1
 have lt3_num : w3.heap.size < w'.heap.size := (Array.getElem?_eq_some_iff.1 Bnum.out).1
 have lt4_den : w5.heap.size < w'.heap.size := (Array.getElem?_eq_some_iff.1 Bden.out).1
 obtain ⟨⟨cR0, cR1, cR2, cR3⟩, fR0, fR1, fR2, fR3⟩ := res4_facts BR.out
 go_wp2
 try simp only [Exit.inBlock, Exit.then]
 refine bodyPost_ret (results_cell_slot rfl _ _ (w.heap.size) 27 _ (0, 0) _ (.int .i64 3) rfl rfl (res4_set BR.out) Tryz.underlying27 rfl (by kernel_rfl)) rfl ?_
 rw [HQ.out.1, HQ.out.2]
 exact ⟨false, none, 0, 0, false, none, 0, 0, rfl, ratR_zero _, fin4 HB.out (by omega)⟩
set_option maxHeartbeats 4000000 in
set_option maxRecDepth 100000 in
theorem ratparse_l1 {w : World} (s : ByteArray) (hs : s.size ≤ 4200) (hm : Mlen w) (h1 : pcode (topOf s.data.toList) ≠ 3) (h2 : slashed s.data.toList = true) (hnb : ¬ (pcode (botOf s.data.toList) = 3 ∨ negOf (botOf s.data.toList) = true ∨ botOf s.data.toList = [48] ∨ botOf s.data.toList = [49])) (h8 : pcode (topOf s.data.toList) = 6 ∨ pcode (botOf s.data.toList) = 6) (h9 : (lval (topOf s.data.toList)).gcd (lval (botOf s.data.toList)) = 1) :
  Calls Tryz.prog 17 #[.string s] w (GivesRE w (qval s.data.toList) (qcode s.data.toList)) := by
 simp only [not_or] at hnb
 have h4 := hnb.1
 have h5 : negOf (botOf s.data.toList) = false := by have := hnb.2.1; simpa using this
 have h6 := hnb.2.2.1
 have h7 := hnb.2.2.2
 replace hnb : ¬ (pcode (botOf s.data.toList) = 3 ∨ negOf (botOf s.data.toList) = true ∨ botOf s.data.toList = [48] ∨ botOf s.data.toList = [49]) := by simp only [not_or]; exact hnb
 have HQ := hid (show qcode s.data.toList = 6 ∧ qval s.data.toList = 0 from by have := q_lim h1 h2 hnb h8; rwa [if_pos h9] at this)
 obtain ⟨T, hT⟩ : ∃ T : ByteArray, (⟨(topOf s.data.toList).toArray⟩ : ByteArray) = T := ⟨_, rfl⟩
 obtain ⟨U, hU⟩ : ∃ U : ByteArray, (⟨(botOf s.data.toList).toArray⟩ : ByteArray) = U := ⟨_, rfl⟩
 have hTl : T.data.toList = topOf s.data.toList := by rw [← hT]
 have hUl : U.data.toList = botOf s.data.toList := by rw [← hU]
 have hTs : T.size ≤ 4200 := by rw [← bs_len, hTl]; have := top_length s.data.toList; rw [bs_len] at this; omega
 have hUs : U.size ≤ 4200 := by rw [← bs_len, hUl]; have := bot_length s.data.toList; rw [bs_len] at this; omega
 obtain ⟨sl, hsl⟩ : ∃ b, slashed s.data.toList = b := ⟨_, rfl⟩
 have HCUT := hid (fun (W : World) (h : Mlen W) => cut_any (w := W) s (by omega) h)
 rw [hT, hU, hsl] at HCUT
 have HTL := hid hTl
 have HUL := hid hUl
 have HM := hid hm
 rw [← hTl] at h1 h9
 rw [← hUl] at h4 h5 h6 h7 h9
 rw [hsl] at h2
 subst h2
 have Xh1 := hid h1
 have Xh4 := hid h4
 have Xh5 := hid h5
 have Xh6 := hid h6
 have Xh7 := hid h7
 have Xh9 := hid h9
 have t1 : (U.toList == [48]) = false := by rw [Lib.toList_data, beq_eq_false_iff_ne]; exact h6
 have t2 : (U.toList == [49]) = false := by rw [Lib.toList_data, beq_eq_false_iff_ne]; exact h7
 have XL := hid (show ((false || decide (pcode T.data.toList = 6)) || decide (pcode U.data.toList = 6)) = true from by rw [hTl, hUl]; rcases h8 with q | q <;> rw [q] <;> simp)
 clear h8
 clear hT hU hTl hUl hsl hm h1 h4 h5 h6 h7 h9 hnb
 go_enter Tryz.func17, Tryz.ntmps17
 go_wp2_with fail
 obtain ⟨W1, hW, hs, hb, b0, b1⟩ := alloc2 w (.cells #[.bool false, .slice none 0 0, .bool false, .slice none 0 0] 27) (.cells #[.bool false] 4)
 rw [← hW]
 have HB := hid hb
 have BR := hid b0
 have BL := hid b1
 clear hW hs hb b0 b1
 replace HM := hid (HM.out.below HB.out)
 (with_reducible refine (HCUT.out _ HM.out).mono ?_)
 rintro e w2 ⟨rfl, hb⟩
 replace HB := hid (bt HB.out hb)
 replace BR := hid (blk_next BR.out hb)
 replace BL := hid (blk_next BL.out hb)
 clear hb HM HCUT
 go_wp2_with fail
 have lt1_R : w.heap.size < w2.heap.size := (Array.getElem?_eq_some_iff.1 BR.out).1
 have lt2_L : w.heap.size + 1 < w2.heap.size := (Array.getElem?_eq_some_iff.1 BL.out).1
 obtain ⟨l1, hl1⟩ : ∃ b, (false || decide (pcode T.data.toList = 6)) = b := ⟨_, rfl⟩
 have HL1 := hid hl1
 clear hl1
 (with_reducible refine (part_n T (w.heap.size + 1) false l1 (by omega) BL.out Xh1.out HL1.out).mono ?_)
 rintro e w3 ⟨n_3, a_3, k_3, c_3, rfl, hu, hst, hl⟩
 have hni := noInt_one (bool_noInt BL.out)
 have hsb := hst.below (show w.heap.size ≤ w.heap.size + 1 by omega) HB.out.size
 replace BR := hid ((hst.block (w.heap.size) (Array.getElem?_eq_some_iff.1 BR.out).1 (by omega)).trans BR.out)
 replace HB := hid (HB.out.trans hsb)
 replace BL := hid hl
 have HA := hid hu
 clear hu hst hl hni hsb
 go_upto_region 7 with fail
 have lt3_R : w.heap.size < w3.heap.size := (Array.getElem?_eq_some_iff.1 BR.out).1
 have lt4_L : w.heap.size + 1 < w3.heap.size := (Array.getElem?_eq_some_iff.1 BL.out).1
 obtain ⟨W4, hW, hs, hb, b0⟩ := alloc1 w3 (.cells #[.bool n_3, .slice a_3 k_3 c_3] 25)
 rw [← hW]
 replace HB := hid (bt HB.out hb)
 replace HA := hid (HA.out.below hb)
 replace BR := hid (blk_next BR.out hb)
 replace BL := hid (blk_next BL.out hb)
 have Bnum := hid b0
 clear hW hs hb b0
 go_wp2_with fail
 have lt5_R : w.heap.size < W4.heap.size := (Array.getElem?_eq_some_iff.1 BR.out).1
 have lt6_L : w.heap.size + 1 < W4.heap.size := (Array.getElem?_eq_some_iff.1 BL.out).1
 have lt7_num : w3.heap.size < W4.heap.size := (Array.getElem?_eq_some_iff.1 Bnum.out).1
 (with_reducible refine (part_n U (w.heap.size + 1) l1 true (by omega) BL.out Xh4.out (by have := XL.out; rwa [HL1.out] at this)).mono ?_)
 rintro e w5 ⟨n_5, a_5, k_5, c_5, rfl, hu, hst, hl⟩
 have hni := noInt_one (bool_noInt BL.out)
 have hsb := hst.below (show w.heap.size ≤ w.heap.size + 1 by omega) HB.out.size
 replace HA := hid (HA.out.stay hst hni)
 replace BR := hid ((hst.block (w.heap.size) (Array.getElem?_eq_some_iff.1 BR.out).1 (by omega)).trans BR.out)
 replace Bnum := hid ((hst.block (w3.heap.size) (Array.getElem?_eq_some_iff.1 Bnum.out).1 (by omega)).trans Bnum.out)
 replace HB := hid (HB.out.trans hsb)
 replace BL := hid hl
 have HB1 := hid hu
 clear hu hst hl hni hsb
 go_wp2_with fail
 have lt8_R : w.heap.size < w5.heap.size := (Array.getElem?_eq_some_iff.1 BR.out).1
 have lt9_L : w.heap.size + 1 < w5.heap.size := (Array.getElem?_eq_some_iff.1 BL.out).1
 have lt10_num : w3.heap.size < w5.heap.size := (Array.getElem?_eq_some_iff.1 Bnum.out).1
 obtain ⟨W6, hW, hs, hb, b0⟩ := alloc1 w5 (.cells #[.bool n_5, .slice a_5 k_5 c_5] 25)
 rw [← hW]
 replace HB := hid (bt HB.out hb)
 replace HA := hid (HA.out.below hb)
 replace HB1 := hid (HB1.out.below hb)
 replace BR := hid (blk_next BR.out hb)
 replace BL := hid (blk_next BL.out hb)
 replace Bnum := hid (blk_next Bnum.out hb)
 have Bden := hid b0
 clear hW hs hb b0
 (with_reducible refine (Tryz.strings_HasPrefix U ⟨#[45]⟩ _).mono ?_)
 rintro e w' ⟨rfl, rfl⟩
 rw [show Lib.hasPrefix U.data.toList (⟨#[45]⟩ : ByteArray).data.toList = negOf U.data.toList from rfl, Xh5.out]
 have cL0 : w'.cell? ⟨w.heap.size + 1, 0, none⟩ = some (.bool true) := by rw [Lib.cell_of_heap BL.out]; rfl
 have HDT := hid (body_digits (l := T.data.toList) Xh1.out)
 have HDU := hid (body_digits (l := U.data.toList) Xh4.out)
 go_wp2_with fail
 clear cL0
 (with_reducible refine (coprime_any T U (by omega) (by omega) HDT.out HDU.out).mono ?_)
 rintro e w7 ⟨rfl, hb⟩
 replace HB := hid (bt HB.out hb)
 replace HA := hid (HA.out.below hb)
 replace HB1 := hid (HB1.out.below hb)
 replace BR := hid (blk_next BR.out hb)
 replace BL := hid (blk_next BL.out hb)
 replace Bnum := hid (blk_next Bnum.out hb)
 replace Bden := hid (blk_next Bden.out hb)
 clear hb
 rw [decide_eq_true Xh9.out]
 have lt1_R : w.heap.size < w7.heap.size := (Array.getElem?_eq_some_iff.1 BR.out).1
 have lt2_L : w.heap.size + 1 < w7.heap.size := (Array.getElem?_eq_some_iff.1 BL.out).1
 have lt3_num : w3.heap.size < w7.heap.size := (Array.getElem?_eq_some_iff.1 Bnum.out).1
 have lt4_den : w5.heap.size < w7.heap.size := (Array.getElem?_eq_some_iff.1 Bden.out).1
 obtain ⟨⟨cR0, cR1, cR2, cR3⟩, fR0, fR1, fR2, fR3⟩ := res4_facts BR.out
 go_wp2
 try simp only [Exit.inBlock, Exit.then]
 refine bodyPost_ret (results_cell_slot rfl _ _ (w.heap.size) 27 _ (0, 0) _ (.int .i64 6) rfl rfl (res4_set BR.out) Tryz.underlying27 rfl (by kernel_rfl)) rfl ?_
 rw [HQ.out.1, HQ.out.2]
 exact ⟨false, none, 0, 0, false, none, 0, 0, rfl, ratR_zero _, fin4 HB.out (by omega)⟩
set_option maxHeartbeats 4000000 in
set_option maxRecDepth 100000 in
theorem ratparse_l0 {w : World} (s : ByteArray) (hs : s.size ≤ 4200) (hm : Mlen w) (h1 : pcode (topOf s.data.toList) ≠ 3) (h2 : slashed s.data.toList = true) (hnb : ¬ (pcode (botOf s.data.toList) = 3 ∨ negOf (botOf s.data.toList) = true ∨ botOf s.data.toList = [48] ∨ botOf s.data.toList = [49])) (h8 : pcode (topOf s.data.toList) = 6 ∨ pcode (botOf s.data.toList) = 6) (h9 : ¬ (lval (topOf s.data.toList)).gcd (lval (botOf s.data.toList)) = 1) :
  Calls Tryz.prog 17 #[.string s] w (GivesRE w (qval s.data.toList) (qcode s.data.toList)) := by
 simp only [not_or] at hnb
 have h4 := hnb.1
 have h5 : negOf (botOf s.data.toList) = false := by have := hnb.2.1; simpa using this
 have h6 := hnb.2.2.1
 have h7 := hnb.2.2.2
 replace hnb : ¬ (pcode (botOf s.data.toList) = 3 ∨ negOf (botOf s.data.toList) = true ∨ botOf s.data.toList = [48] ∨ botOf s.data.toList = [49]) := by simp only [not_or]; exact hnb
 have HQ := hid (show qcode s.data.toList = 3 ∧ qval s.data.toList = 0 from by have := q_lim h1 h2 hnb h8; rwa [if_neg h9] at this)
 obtain ⟨T, hT⟩ : ∃ T : ByteArray, (⟨(topOf s.data.toList).toArray⟩ : ByteArray) = T := ⟨_, rfl⟩
 obtain ⟨U, hU⟩ : ∃ U : ByteArray, (⟨(botOf s.data.toList).toArray⟩ : ByteArray) = U := ⟨_, rfl⟩
 have hTl : T.data.toList = topOf s.data.toList := by rw [← hT]
 have hUl : U.data.toList = botOf s.data.toList := by rw [← hU]
 have hTs : T.size ≤ 4200 := by rw [← bs_len, hTl]; have := top_length s.data.toList; rw [bs_len] at this; omega
 have hUs : U.size ≤ 4200 := by rw [← bs_len, hUl]; have := bot_length s.data.toList; rw [bs_len] at this; omega
 obtain ⟨sl, hsl⟩ : ∃ b, slashed s.data.toList = b := ⟨_, rfl⟩
 have HCUT := hid (fun (W : World) (h : Mlen W) => cut_any (w := W) s (by omega) h)
 rw [hT, hU, hsl] at HCUT
 have HTL := hid hTl
 have HUL := hid hUl
 have HM := hid hm
 rw [← hTl] at h1 h9
 rw [← hUl] at h4 h5 h6 h7 h9
 rw [hsl] at h2
 subst h2
 have Xh1 := hid h1
 have Xh4 := hid h4
 have Xh5 := hid h5
 have Xh6 := hid h6
 have Xh7 := hid h7
 have Xh9 := hid h9
 have t1 : (U.toList == [48]) = false := by rw [Lib.toList_data, beq_eq_false_iff_ne]; exact h6
 have t2 : (U.toList == [49]) = false := by rw [Lib.toList_data, beq_eq_false_iff_ne]; exact h7
 have XL := hid (show ((false || decide (pcode T.data.toList = 6)) || decide (pcode U.data.toList = 6)) = true from by rw [hTl, hUl]; rcases h8 with q | q <;> rw [q] <;> simp)
 clear h8
 clear hT hU hTl hUl hsl hm h1 h4 h5 h6 h7 h9 hnb
 go_enter Tryz.func17, Tryz.ntmps17
 go_wp2_with fail
 obtain ⟨W1, hW, hs, hb, b0, b1⟩ := alloc2 w (.cells #[.bool false, .slice none 0 0, .bool false, .slice none 0 0] 27) (.cells #[.bool false] 4)
 rw [← hW]
 have HB := hid hb
 have BR := hid b0
 have BL := hid b1
 clear hW hs hb b0 b1
 replace HM := hid (HM.out.below HB.out)
 (with_reducible refine (HCUT.out _ HM.out).mono ?_)
 rintro e w2 ⟨rfl, hb⟩
 replace HB := hid (bt HB.out hb)
 replace BR := hid (blk_next BR.out hb)
 replace BL := hid (blk_next BL.out hb)
 clear hb HM HCUT
 go_wp2_with fail
 have lt1_R : w.heap.size < w2.heap.size := (Array.getElem?_eq_some_iff.1 BR.out).1
 have lt2_L : w.heap.size + 1 < w2.heap.size := (Array.getElem?_eq_some_iff.1 BL.out).1
 obtain ⟨l1, hl1⟩ : ∃ b, (false || decide (pcode T.data.toList = 6)) = b := ⟨_, rfl⟩
 have HL1 := hid hl1
 clear hl1
 (with_reducible refine (part_n T (w.heap.size + 1) false l1 (by omega) BL.out Xh1.out HL1.out).mono ?_)
 rintro e w3 ⟨n_3, a_3, k_3, c_3, rfl, hu, hst, hl⟩
 have hni := noInt_one (bool_noInt BL.out)
 have hsb := hst.below (show w.heap.size ≤ w.heap.size + 1 by omega) HB.out.size
 replace BR := hid ((hst.block (w.heap.size) (Array.getElem?_eq_some_iff.1 BR.out).1 (by omega)).trans BR.out)
 replace HB := hid (HB.out.trans hsb)
 replace BL := hid hl
 have HA := hid hu
 clear hu hst hl hni hsb
 go_upto_region 7 with fail
 have lt3_R : w.heap.size < w3.heap.size := (Array.getElem?_eq_some_iff.1 BR.out).1
 have lt4_L : w.heap.size + 1 < w3.heap.size := (Array.getElem?_eq_some_iff.1 BL.out).1
 obtain ⟨W4, hW, hs, hb, b0⟩ := alloc1 w3 (.cells #[.bool n_3, .slice a_3 k_3 c_3] 25)
 rw [← hW]
 replace HB := hid (bt HB.out hb)
 replace HA := hid (HA.out.below hb)
 replace BR := hid (blk_next BR.out hb)
 replace BL := hid (blk_next BL.out hb)
 have Bnum := hid b0
 clear hW hs hb b0
 go_wp2_with fail
 have lt5_R : w.heap.size < W4.heap.size := (Array.getElem?_eq_some_iff.1 BR.out).1
 have lt6_L : w.heap.size + 1 < W4.heap.size := (Array.getElem?_eq_some_iff.1 BL.out).1
 have lt7_num : w3.heap.size < W4.heap.size := (Array.getElem?_eq_some_iff.1 Bnum.out).1
 (with_reducible refine (part_n U (w.heap.size + 1) l1 true (by omega) BL.out Xh4.out (by have := XL.out; rwa [HL1.out] at this)).mono ?_)
 rintro e w5 ⟨n_5, a_5, k_5, c_5, rfl, hu, hst, hl⟩
 have hni := noInt_one (bool_noInt BL.out)
 have hsb := hst.below (show w.heap.size ≤ w.heap.size + 1 by omega) HB.out.size
 replace HA := hid (HA.out.stay hst hni)
 replace BR := hid ((hst.block (w.heap.size) (Array.getElem?_eq_some_iff.1 BR.out).1 (by omega)).trans BR.out)
 replace Bnum := hid ((hst.block (w3.heap.size) (Array.getElem?_eq_some_iff.1 Bnum.out).1 (by omega)).trans Bnum.out)
 replace HB := hid (HB.out.trans hsb)
 replace BL := hid hl
 have HB1 := hid hu
 clear hu hst hl hni hsb
 go_wp2_with fail
 have lt8_R : w.heap.size < w5.heap.size := (Array.getElem?_eq_some_iff.1 BR.out).1
 have lt9_L : w.heap.size + 1 < w5.heap.size := (Array.getElem?_eq_some_iff.1 BL.out).1
 have lt10_num : w3.heap.size < w5.heap.size := (Array.getElem?_eq_some_iff.1 Bnum.out).1
 obtain ⟨W6, hW, hs, hb, b0⟩ := alloc1 w5 (.cells #[.bool n_5, .slice a_5 k_5 c_5] 25)
 rw [← hW]
 replace HB := hid (bt HB.out hb)
 replace HA := hid (HA.out.below hb)
 replace HB1 := hid (HB1.out.below hb)
 replace BR := hid (blk_next BR.out hb)
 replace BL := hid (blk_next BL.out hb)
 replace Bnum := hid (blk_next Bnum.out hb)
 have Bden := hid b0
 clear hW hs hb b0
 (with_reducible refine (Tryz.strings_HasPrefix U ⟨#[45]⟩ _).mono ?_)
 rintro e w' ⟨rfl, rfl⟩
 rw [show Lib.hasPrefix U.data.toList (⟨#[45]⟩ : ByteArray).data.toList = negOf U.data.toList from rfl, Xh5.out]
 have cL0 : w'.cell? ⟨w.heap.size + 1, 0, none⟩ = some (.bool true) := by rw [Lib.cell_of_heap BL.out]; rfl
 have HDT := hid (body_digits (l := T.data.toList) Xh1.out)
 have HDU := hid (body_digits (l := U.data.toList) Xh4.out)
 go_wp2_with fail
 clear cL0
 (with_reducible refine (coprime_any T U (by omega) (by omega) HDT.out HDU.out).mono ?_)
 rintro e w7 ⟨rfl, hb⟩
 replace HB := hid (bt HB.out hb)
 replace HA := hid (HA.out.below hb)
 replace HB1 := hid (HB1.out.below hb)
 replace BR := hid (blk_next BR.out hb)
 replace BL := hid (blk_next BL.out hb)
 replace Bnum := hid (blk_next Bnum.out hb)
 replace Bden := hid (blk_next Bden.out hb)
 clear hb
 rw [decide_eq_false Xh9.out]
 have lt1_R : w.heap.size < w7.heap.size := (Array.getElem?_eq_some_iff.1 BR.out).1
 have lt2_L : w.heap.size + 1 < w7.heap.size := (Array.getElem?_eq_some_iff.1 BL.out).1
 have lt3_num : w3.heap.size < w7.heap.size := (Array.getElem?_eq_some_iff.1 Bnum.out).1
 have lt4_den : w5.heap.size < w7.heap.size := (Array.getElem?_eq_some_iff.1 Bden.out).1
 obtain ⟨⟨cR0, cR1, cR2, cR3⟩, fR0, fR1, fR2, fR3⟩ := res4_facts BR.out
 go_wp2
 try simp only [Exit.inBlock, Exit.then]
 refine bodyPost_ret (results_cell_slot rfl _ _ (w.heap.size) 27 _ (0, 0) _ (.int .i64 3) rfl rfl (res4_set BR.out) Tryz.underlying27 rfl (by kernel_rfl)) rfl ?_
 rw [HQ.out.1, HQ.out.2]
 exact ⟨false, none, 0, 0, false, none, 0, 0, rfl, ratR_zero _, fin4 HB.out (by omega)⟩
set_option maxHeartbeats 4000000 in
set_option maxRecDepth 100000 in
theorem ratparse_g1 {w : World} (s : ByteArray) (hs : s.size ≤ 4200) (hm : Mlen w) (h1' : pcode (topOf s.data.toList) = 0) (h2 : slashed s.data.toList = true) (hnb : ¬ (pcode (botOf s.data.toList) = 3 ∨ negOf (botOf s.data.toList) = true ∨ botOf s.data.toList = [48] ∨ botOf s.data.toList = [49])) (h4' : pcode (botOf s.data.toList) = 0) (h9 : (pval (topOf s.data.toList)).gcd (pval (botOf s.data.toList)) = 1) :
  Calls Tryz.prog 17 #[.string s] w (GivesRE w (qval s.data.toList) (qcode s.data.toList)) := by
 have h1 : pcode (topOf s.data.toList) ≠ 3 := by rw [h1']; decide
 simp only [not_or] at hnb
 have h4 := hnb.1
 have h5 : negOf (botOf s.data.toList) = false := by have := hnb.2.1; simpa using this
 have h6 := hnb.2.2.1
 have h7 := hnb.2.2.2
 replace hnb : ¬ (pcode (botOf s.data.toList) = 3 ∨ negOf (botOf s.data.toList) = true ∨ botOf s.data.toList = [48] ∨ botOf s.data.toList = [49]) := by simp only [not_or]; exact hnb
 have HQ := hid (q_low h1' h2 hnb h4' h9)
 obtain ⟨T, hT⟩ : ∃ T : ByteArray, (⟨(topOf s.data.toList).toArray⟩ : ByteArray) = T := ⟨_, rfl⟩
 obtain ⟨U, hU⟩ : ∃ U : ByteArray, (⟨(botOf s.data.toList).toArray⟩ : ByteArray) = U := ⟨_, rfl⟩
 have hTl : T.data.toList = topOf s.data.toList := by rw [← hT]
 have hUl : U.data.toList = botOf s.data.toList := by rw [← hU]
 have hTs : T.size ≤ 4200 := by rw [← bs_len, hTl]; have := top_length s.data.toList; rw [bs_len] at this; omega
 have hUs : U.size ≤ 4200 := by rw [← bs_len, hUl]; have := bot_length s.data.toList; rw [bs_len] at this; omega
 obtain ⟨sl, hsl⟩ : ∃ b, slashed s.data.toList = b := ⟨_, rfl⟩
 have HCUT := hid (fun (W : World) (h : Mlen W) => cut_any (w := W) s (by omega) h)
 rw [hT, hU, hsl] at HCUT
 have HTL := hid hTl
 have HUL := hid hUl
 have HM := hid hm
 rw [← hTl] at h1 h1' h9
 rw [← hUl] at h4 h4' h5 h6 h7 h9
 rw [hsl] at h2
 subst h2
 have Xh1 := hid h1
 have Xh1p := hid h1'
 have Xh4 := hid h4
 have Xh4p := hid h4'
 have Xh5 := hid h5
 have Xh6 := hid h6
 have Xh7 := hid h7
 have Xh9 := hid h9
 have t1 : (U.toList == [48]) = false := by rw [Lib.toList_data, beq_eq_false_iff_ne]; exact h6
 have t2 : (U.toList == [49]) = false := by rw [Lib.toList_data, beq_eq_false_iff_ne]; exact h7
 clear hT hU hTl hUl hsl hm h1 h1' h4 h4' h5 h6 h7 h9 hnb
 go_enter Tryz.func17, Tryz.ntmps17
 go_wp2_with fail
 obtain ⟨W1, hW, hs, hb, b0, b1⟩ := alloc2 w (.cells #[.bool false, .slice none 0 0, .bool false, .slice none 0 0] 27) (.cells #[.bool false] 4)
 rw [← hW]
 have HB := hid hb
 have BR := hid b0
 have BL := hid b1
 clear hW hs hb b0 b1
 replace HM := hid (HM.out.below HB.out)
 (with_reducible refine (HCUT.out _ HM.out).mono ?_)
 rintro e w2 ⟨rfl, hb⟩
 replace HB := hid (bt HB.out hb)
 replace BR := hid (blk_next BR.out hb)
 replace BL := hid (blk_next BL.out hb)
 clear hb HM HCUT
 go_wp2_with fail
 have lt1_R : w.heap.size < w2.heap.size := (Array.getElem?_eq_some_iff.1 BR.out).1
 have lt2_L : w.heap.size + 1 < w2.heap.size := (Array.getElem?_eq_some_iff.1 BL.out).1
 (with_reducible refine (part_n T (w.heap.size + 1) false false (by omega) BL.out Xh1.out (by rw [Xh1p.out]; decide)).mono ?_)
 rintro e w3 ⟨n_3, a_3, k_3, c_3, rfl, hu, hst, hl⟩
 have hni := noInt_one (bool_noInt BL.out)
 have hsb := hst.below (show w.heap.size ≤ w.heap.size + 1 by omega) HB.out.size
 replace BR := hid ((hst.block (w.heap.size) (Array.getElem?_eq_some_iff.1 BR.out).1 (by omega)).trans BR.out)
 replace HB := hid (HB.out.trans hsb)
 replace BL := hid hl
 have HA := hid hu
 clear hu hst hl hni hsb
 go_upto_region 7 with fail
 have lt3_R : w.heap.size < w3.heap.size := (Array.getElem?_eq_some_iff.1 BR.out).1
 have lt4_L : w.heap.size + 1 < w3.heap.size := (Array.getElem?_eq_some_iff.1 BL.out).1
 obtain ⟨W4, hW, hs, hb, b0⟩ := alloc1 w3 (.cells #[.bool n_3, .slice a_3 k_3 c_3] 25)
 rw [← hW]
 replace HB := hid (bt HB.out hb)
 replace HA := hid (HA.out.below hb)
 replace BR := hid (blk_next BR.out hb)
 replace BL := hid (blk_next BL.out hb)
 have Bnum := hid b0
 clear hW hs hb b0
 go_wp2_with fail
 have lt5_R : w.heap.size < W4.heap.size := (Array.getElem?_eq_some_iff.1 BR.out).1
 have lt6_L : w.heap.size + 1 < W4.heap.size := (Array.getElem?_eq_some_iff.1 BL.out).1
 have lt7_num : w3.heap.size < W4.heap.size := (Array.getElem?_eq_some_iff.1 Bnum.out).1
 (with_reducible refine (part_n U (w.heap.size + 1) false false (by omega) BL.out Xh4.out (by rw [Xh4p.out]; decide)).mono ?_)
 rintro e w5 ⟨n_5, a_5, k_5, c_5, rfl, hu, hst, hl⟩
 have hni := noInt_one (bool_noInt BL.out)
 have hsb := hst.below (show w.heap.size ≤ w.heap.size + 1 by omega) HB.out.size
 replace HA := hid (HA.out.stay hst hni)
 replace BR := hid ((hst.block (w.heap.size) (Array.getElem?_eq_some_iff.1 BR.out).1 (by omega)).trans BR.out)
 replace Bnum := hid ((hst.block (w3.heap.size) (Array.getElem?_eq_some_iff.1 Bnum.out).1 (by omega)).trans Bnum.out)
 replace HB := hid (HB.out.trans hsb)
 replace BL := hid hl
 have HB1 := hid hu
 clear hu hst hl hni hsb
 go_wp2_with fail
 have lt8_R : w.heap.size < w5.heap.size := (Array.getElem?_eq_some_iff.1 BR.out).1
 have lt9_L : w.heap.size + 1 < w5.heap.size := (Array.getElem?_eq_some_iff.1 BL.out).1
 have lt10_num : w3.heap.size < w5.heap.size := (Array.getElem?_eq_some_iff.1 Bnum.out).1
 obtain ⟨W6, hW, hs, hb, b0⟩ := alloc1 w5 (.cells #[.bool n_5, .slice a_5 k_5 c_5] 25)
 rw [← hW]
 replace HB := hid (bt HB.out hb)
 replace HA := hid (HA.out.below hb)
 replace HB1 := hid (HB1.out.below hb)
 replace BR := hid (blk_next BR.out hb)
 replace BL := hid (blk_next BL.out hb)
 replace Bnum := hid (blk_next Bnum.out hb)
 have Bden := hid b0
 clear hW hs hb b0
 (with_reducible refine (Tryz.strings_HasPrefix U ⟨#[45]⟩ _).mono ?_)
 rintro e w' ⟨rfl, rfl⟩
 rw [show Lib.hasPrefix U.data.toList (⟨#[45]⟩ : ByteArray).data.toList = negOf U.data.toList from rfl, Xh5.out]
 have cL0 : w'.cell? ⟨w.heap.size + 1, 0, none⟩ = some (.bool false) := by rw [Lib.cell_of_heap BL.out]; rfl
 have hpos := pval_pos Xh4p.out Xh5.out Xh6.out
 have HP0 := hid (show pval U.data.toList ≠ 0 by omega)
 have HPOS := hid hpos
 clear hpos
 have dT := dg_of_text (l := T.data.toList) (N := 4200) (by rw [bs_len]; omega)
 have dU := dg_of_text (l := U.data.toList) (N := 4200) (by rw [bs_len]; omega)
 clear cL0
 have lt1_R : w.heap.size < w'.heap.size := (Array.getElem?_eq_some_iff.1 BR.out).1
 have lt2_L : w.heap.size + 1 < w'.heap.size := (Array.getElem?_eq_some_iff.1 BL.out).1
 have lt3_num : w3.heap.size < w'.heap.size := (Array.getElem?_eq_some_iff.1 Bnum.out).1
 have lt4_den : w5.heap.size < w'.heap.size := (Array.getElem?_eq_some_iff.1 Bden.out).1
 obtain ⟨cnum0, cnum1, fnum0, fnum1⟩ := res_facts Bnum.out
 obtain ⟨cden0, cden1, fden0, fden1⟩ := res_facts Bden.out
 have cL0 : w'.cell? ⟨w.heap.size + 1, 0, none⟩ = some (.bool false) := by rw [Lib.cell_of_heap BL.out]; rfl
 go_wp2_with fail
 clear cnum0 cnum1 fnum0 fnum1 cden0 cden1 fden0 fden1 cL0
 (with_reducible refine (new_any HA.out HB1.out HP0.out dT dU (by omega)).mono ?_)
 rintro e w7 ⟨n_7, a_7, k_7, c_7, n2_7, a2_7, k2_7, c2_7, rfl, hu_7, hv_7, hb⟩
 replace HB := hid (bt HB.out hb)
 replace HA := hid (HA.out.below hb)
 replace HB1 := hid (HB1.out.below hb)
 replace BR := hid (blk_next BR.out hb)
 replace BL := hid (blk_next BL.out hb)
 replace Bnum := hid (blk_next Bnum.out hb)
 replace Bden := hid (blk_next Bden.out hb)
 have HX := hid hu_7
 have HY := hid hv_7
 clear hu_7 hv_7
 clear hb
 have lt5_R : w.heap.size < w7.heap.size := (Array.getElem?_eq_some_iff.1 BR.out).1
 have lt6_L : w.heap.size + 1 < w7.heap.size := (Array.getElem?_eq_some_iff.1 BL.out).1
 have lt7_num : w3.heap.size < w7.heap.size := (Array.getElem?_eq_some_iff.1 Bnum.out).1
 have lt8_den : w5.heap.size < w7.heap.size := (Array.getElem?_eq_some_iff.1 Bden.out).1
 obtain ⟨cnum0, cnum1, fnum0, fnum1⟩ := res_facts Bnum.out
 obtain ⟨cden0, cden1, fden0, fden1⟩ := res_facts Bden.out
 go_wp2_with fail
 clear cnum0 cnum1 fnum0 fnum1 cden0 cden1 fden0 fden1
 obtain ⟨W8, hW, hs, hb, b0⟩ := alloc1 w7 (.cells #[.bool n_7, .slice a_7 k_7 c_7, .bool n2_7, .slice a2_7 k2_7 c2_7] 27)
 rw [← hW]
 replace HB := hid (bt HB.out hb)
 replace HA := hid (HA.out.below hb)
 replace HB1 := hid (HB1.out.below hb)
 replace HX := hid (HX.out.below hb)
 replace HY := hid (HY.out.below hb)
 replace BR := hid (blk_next BR.out hb)
 replace BL := hid (blk_next BL.out hb)
 replace Bnum := hid (blk_next Bnum.out hb)
 replace Bden := hid (blk_next Bden.out hb)
 have Bx := hid b0
 clear hW hs hb b0
 have lt9_R : w.heap.size < W8.heap.size := (Array.getElem?_eq_some_iff.1 BR.out).1
 have lt10_L : w.heap.size + 1 < W8.heap.size := (Array.getElem?_eq_some_iff.1 BL.out).1
 have lt11_num : w3.heap.size < W8.heap.size := (Array.getElem?_eq_some_iff.1 Bnum.out).1
 have lt12_den : w5.heap.size < W8.heap.size := (Array.getElem?_eq_some_iff.1 Bden.out).1
 have lt13_x : w7.heap.size < W8.heap.size := (Array.getElem?_eq_some_iff.1 Bx.out).1
 obtain ⟨⟨cx0, cx1, cx2, cx3⟩, fx0, fx1, fx2, fx3⟩ := res4_facts Bx.out
 obtain ⟨cden0, cden1, fden0, fden1⟩ := res_facts Bden.out
 go_wp2_with fail
 clear cx0 cx1 cx2 cx3 fx0 fx1 fx2 fx3 cden0 cden1 fden0 fden1
 (with_reducible refine (cmp_any HY.out HB1.out).mono ?_)
 rintro e w9 ⟨rfl, hb⟩
 replace HB := hid (bt HB.out hb)
 replace HA := hid (HA.out.below hb)
 replace HB1 := hid (HB1.out.below hb)
 replace HX := hid (HX.out.below hb)
 replace HY := hid (HY.out.below hb)
 replace BR := hid (blk_next BR.out hb)
 replace BL := hid (blk_next BL.out hb)
 replace Bnum := hid (blk_next Bnum.out hb)
 replace Bden := hid (blk_next Bden.out hb)
 replace Bx := hid (blk_next Bx.out hb)
 clear hb
 rw [show (((Rat.divInt (pval T.data.toList) (pval U.data.toList)).den : Int) - pval U.data.toList).sign = 0 from by rw [(den_same HPOS.out).2 Xh9.out]; simp]
 have lt14_R : w.heap.size < w9.heap.size := (Array.getElem?_eq_some_iff.1 BR.out).1
 have lt15_L : w.heap.size + 1 < w9.heap.size := (Array.getElem?_eq_some_iff.1 BL.out).1
 have lt16_num : w3.heap.size < w9.heap.size := (Array.getElem?_eq_some_iff.1 Bnum.out).1
 have lt17_den : w5.heap.size < w9.heap.size := (Array.getElem?_eq_some_iff.1 Bden.out).1
 have lt18_x : w7.heap.size < w9.heap.size := (Array.getElem?_eq_some_iff.1 Bx.out).1
 obtain ⟨⟨cx0, cx1, cx2, cx3⟩, fx0, fx1, fx2, fx3⟩ := res4_facts Bx.out
 obtain ⟨⟨cR0, cR1, cR2, cR3⟩, fR0, fR1, fR2, fR3⟩ := res4_facts BR.out
 go_wp2
 try simp only [Exit.inBlock, Exit.then]
 refine bodyPost_ret (results_cell_slot rfl _ _ (w.heap.size) 27 _ (0, 0) _ (.int .i64 0) rfl rfl (res4_set BR.out) Tryz.underlying27 rfl (by kernel_rfl)) rfl ?_
 exact ⟨_, _, _, _, _, _, _, _, by rw [HQ.out.1], (by rw [HQ.out.2, ← HTL.out, ← HUL.out]; exact RatR.mk (HX.out.stay set4_stay (noInt_one (noInt4 BR.out))) (HY.out.stay set4_stay (noInt_one (noInt4 BR.out))) (.inl rfl)), (fin4 HB.out (by omega))⟩
set_option maxHeartbeats 4000000 in
set_option maxRecDepth 100000 in
theorem ratparse_g0 {w : World} (s : ByteArray) (hs : s.size ≤ 4200) (hm : Mlen w) (h1' : pcode (topOf s.data.toList) = 0) (h2 : slashed s.data.toList = true) (hnb : ¬ (pcode (botOf s.data.toList) = 3 ∨ negOf (botOf s.data.toList) = true ∨ botOf s.data.toList = [48] ∨ botOf s.data.toList = [49])) (h4' : pcode (botOf s.data.toList) = 0) (h9 : ¬ (pval (topOf s.data.toList)).gcd (pval (botOf s.data.toList)) = 1) :
  Calls Tryz.prog 17 #[.string s] w (GivesRE w (qval s.data.toList) (qcode s.data.toList)) := by
 have h1 : pcode (topOf s.data.toList) ≠ 3 := by rw [h1']; decide
 simp only [not_or] at hnb
 have h4 := hnb.1
 have h5 : negOf (botOf s.data.toList) = false := by have := hnb.2.1; simpa using this
 have h6 := hnb.2.2.1
 have h7 := hnb.2.2.2
 replace hnb : ¬ (pcode (botOf s.data.toList) = 3 ∨ negOf (botOf s.data.toList) = true ∨ botOf s.data.toList = [48] ∨ botOf s.data.toList = [49]) := by simp only [not_or]; exact hnb
 have HQ := hid (q_high h1' h2 hnb h4' h9)
 obtain ⟨T, hT⟩ : ∃ T : ByteArray, (⟨(topOf s.data.toList).toArray⟩ : ByteArray) = T := ⟨_, rfl⟩
 obtain ⟨U, hU⟩ : ∃ U : ByteArray, (⟨(botOf s.data.toList).toArray⟩ : ByteArray) = U := ⟨_, rfl⟩
 have hTl : T.data.toList = topOf s.data.toList := by rw [← hT]
 have hUl : U.data.toList = botOf s.data.toList := by rw [← hU]
 have hTs : T.size ≤ 4200 := by rw [← bs_len, hTl]; have := top_length s.data.toList; rw [bs_len] at this; omega
 have hUs : U.size ≤ 4200 := by rw [← bs_len, hUl]; have := bot_length s.data.toList; rw [bs_len] at this; omega
 obtain ⟨sl, hsl⟩ : ∃ b, slashed s.data.toList = b := ⟨_, rfl⟩
 have HCUT := hid (fun (W : World) (h : Mlen W) => cut_any (w := W) s (by omega) h)
 rw [hT, hU, hsl] at HCUT
 have HTL := hid hTl
 have HUL := hid hUl
 have HM := hid hm
 rw [← hTl] at h1 h1' h9
 rw [← hUl] at h4 h4' h5 h6 h7 h9
 rw [hsl] at h2
 subst h2
 have Xh1 := hid h1
 have Xh1p := hid h1'
 have Xh4 := hid h4
 have Xh4p := hid h4'
 have Xh5 := hid h5
 have Xh6 := hid h6
 have Xh7 := hid h7
 have Xh9 := hid h9
 have t1 : (U.toList == [48]) = false := by rw [Lib.toList_data, beq_eq_false_iff_ne]; exact h6
 have t2 : (U.toList == [49]) = false := by rw [Lib.toList_data, beq_eq_false_iff_ne]; exact h7
 clear hT hU hTl hUl hsl hm h1 h1' h4 h4' h5 h6 h7 h9 hnb
 go_enter Tryz.func17, Tryz.ntmps17
 go_wp2_with fail
 obtain ⟨W1, hW, hs, hb, b0, b1⟩ := alloc2 w (.cells #[.bool false, .slice none 0 0, .bool false, .slice none 0 0] 27) (.cells #[.bool false] 4)
 rw [← hW]
 have HB := hid hb
 have BR := hid b0
 have BL := hid b1
 clear hW hs hb b0 b1
 replace HM := hid (HM.out.below HB.out)
 (with_reducible refine (HCUT.out _ HM.out).mono ?_)
 rintro e w2 ⟨rfl, hb⟩
 replace HB := hid (bt HB.out hb)
 replace BR := hid (blk_next BR.out hb)
 replace BL := hid (blk_next BL.out hb)
 clear hb HM HCUT
 go_wp2_with fail
 have lt1_R : w.heap.size < w2.heap.size := (Array.getElem?_eq_some_iff.1 BR.out).1
 have lt2_L : w.heap.size + 1 < w2.heap.size := (Array.getElem?_eq_some_iff.1 BL.out).1
 (with_reducible refine (part_n T (w.heap.size + 1) false false (by omega) BL.out Xh1.out (by rw [Xh1p.out]; decide)).mono ?_)
 rintro e w3 ⟨n_3, a_3, k_3, c_3, rfl, hu, hst, hl⟩
 have hni := noInt_one (bool_noInt BL.out)
 have hsb := hst.below (show w.heap.size ≤ w.heap.size + 1 by omega) HB.out.size
 replace BR := hid ((hst.block (w.heap.size) (Array.getElem?_eq_some_iff.1 BR.out).1 (by omega)).trans BR.out)
 replace HB := hid (HB.out.trans hsb)
 replace BL := hid hl
 have HA := hid hu
 clear hu hst hl hni hsb
 go_upto_region 7 with fail
 have lt3_R : w.heap.size < w3.heap.size := (Array.getElem?_eq_some_iff.1 BR.out).1
 have lt4_L : w.heap.size + 1 < w3.heap.size := (Array.getElem?_eq_some_iff.1 BL.out).1
 obtain ⟨W4, hW, hs, hb, b0⟩ := alloc1 w3 (.cells #[.bool n_3, .slice a_3 k_3 c_3] 25)
 rw [← hW]
 replace HB := hid (bt HB.out hb)
 replace HA := hid (HA.out.below hb)
 replace BR := hid (blk_next BR.out hb)
 replace BL := hid (blk_next BL.out hb)
 have Bnum := hid b0
 clear hW hs hb b0
 go_wp2_with fail
 have lt5_R : w.heap.size < W4.heap.size := (Array.getElem?_eq_some_iff.1 BR.out).1
 have lt6_L : w.heap.size + 1 < W4.heap.size := (Array.getElem?_eq_some_iff.1 BL.out).1
 have lt7_num : w3.heap.size < W4.heap.size := (Array.getElem?_eq_some_iff.1 Bnum.out).1
 (with_reducible refine (part_n U (w.heap.size + 1) false false (by omega) BL.out Xh4.out (by rw [Xh4p.out]; decide)).mono ?_)
 rintro e w5 ⟨n_5, a_5, k_5, c_5, rfl, hu, hst, hl⟩
 have hni := noInt_one (bool_noInt BL.out)
 have hsb := hst.below (show w.heap.size ≤ w.heap.size + 1 by omega) HB.out.size
 replace HA := hid (HA.out.stay hst hni)
 replace BR := hid ((hst.block (w.heap.size) (Array.getElem?_eq_some_iff.1 BR.out).1 (by omega)).trans BR.out)
 replace Bnum := hid ((hst.block (w3.heap.size) (Array.getElem?_eq_some_iff.1 Bnum.out).1 (by omega)).trans Bnum.out)
 replace HB := hid (HB.out.trans hsb)
 replace BL := hid hl
 have HB1 := hid hu
 clear hu hst hl hni hsb
 go_wp2_with fail
 have lt8_R : w.heap.size < w5.heap.size := (Array.getElem?_eq_some_iff.1 BR.out).1
 have lt9_L : w.heap.size + 1 < w5.heap.size := (Array.getElem?_eq_some_iff.1 BL.out).1
 have lt10_num : w3.heap.size < w5.heap.size := (Array.getElem?_eq_some_iff.1 Bnum.out).1
 obtain ⟨W6, hW, hs, hb, b0⟩ := alloc1 w5 (.cells #[.bool n_5, .slice a_5 k_5 c_5] 25)
 rw [← hW]
 replace HB := hid (bt HB.out hb)
 replace HA := hid (HA.out.below hb)
 replace HB1 := hid (HB1.out.below hb)
 replace BR := hid (blk_next BR.out hb)
 replace BL := hid (blk_next BL.out hb)
 replace Bnum := hid (blk_next Bnum.out hb)
 have Bden := hid b0
 clear hW hs hb b0
 (with_reducible refine (Tryz.strings_HasPrefix U ⟨#[45]⟩ _).mono ?_)
 rintro e w' ⟨rfl, rfl⟩
 rw [show Lib.hasPrefix U.data.toList (⟨#[45]⟩ : ByteArray).data.toList = negOf U.data.toList from rfl, Xh5.out]
 have cL0 : w'.cell? ⟨w.heap.size + 1, 0, none⟩ = some (.bool false) := by rw [Lib.cell_of_heap BL.out]; rfl
 have hpos := pval_pos Xh4p.out Xh5.out Xh6.out
 have HP0 := hid (show pval U.data.toList ≠ 0 by omega)
 have HPOS := hid hpos
 clear hpos
 have dT := dg_of_text (l := T.data.toList) (N := 4200) (by rw [bs_len]; omega)
 have dU := dg_of_text (l := U.data.toList) (N := 4200) (by rw [bs_len]; omega)
 clear cL0
 have lt1_R : w.heap.size < w'.heap.size := (Array.getElem?_eq_some_iff.1 BR.out).1
 have lt2_L : w.heap.size + 1 < w'.heap.size := (Array.getElem?_eq_some_iff.1 BL.out).1
 have lt3_num : w3.heap.size < w'.heap.size := (Array.getElem?_eq_some_iff.1 Bnum.out).1
 have lt4_den : w5.heap.size < w'.heap.size := (Array.getElem?_eq_some_iff.1 Bden.out).1
 obtain ⟨cnum0, cnum1, fnum0, fnum1⟩ := res_facts Bnum.out
 obtain ⟨cden0, cden1, fden0, fden1⟩ := res_facts Bden.out
 have cL0 : w'.cell? ⟨w.heap.size + 1, 0, none⟩ = some (.bool false) := by rw [Lib.cell_of_heap BL.out]; rfl
 go_wp2_with fail
 clear cnum0 cnum1 fnum0 fnum1 cden0 cden1 fden0 fden1 cL0
 (with_reducible refine (new_any HA.out HB1.out HP0.out dT dU (by omega)).mono ?_)
 rintro e w7 ⟨n_7, a_7, k_7, c_7, n2_7, a2_7, k2_7, c2_7, rfl, hu_7, hv_7, hb⟩
 replace HB := hid (bt HB.out hb)
 replace HA := hid (HA.out.below hb)
 replace HB1 := hid (HB1.out.below hb)
 replace BR := hid (blk_next BR.out hb)
 replace BL := hid (blk_next BL.out hb)
 replace Bnum := hid (blk_next Bnum.out hb)
 replace Bden := hid (blk_next Bden.out hb)
 have HX := hid hu_7
 have HY := hid hv_7
 clear hu_7 hv_7
 clear hb
 have lt5_R : w.heap.size < w7.heap.size := (Array.getElem?_eq_some_iff.1 BR.out).1
 have lt6_L : w.heap.size + 1 < w7.heap.size := (Array.getElem?_eq_some_iff.1 BL.out).1
 have lt7_num : w3.heap.size < w7.heap.size := (Array.getElem?_eq_some_iff.1 Bnum.out).1
 have lt8_den : w5.heap.size < w7.heap.size := (Array.getElem?_eq_some_iff.1 Bden.out).1
 obtain ⟨cnum0, cnum1, fnum0, fnum1⟩ := res_facts Bnum.out
 obtain ⟨cden0, cden1, fden0, fden1⟩ := res_facts Bden.out
 go_wp2_with fail
 clear cnum0 cnum1 fnum0 fnum1 cden0 cden1 fden0 fden1
 obtain ⟨W8, hW, hs, hb, b0⟩ := alloc1 w7 (.cells #[.bool n_7, .slice a_7 k_7 c_7, .bool n2_7, .slice a2_7 k2_7 c2_7] 27)
 rw [← hW]
 replace HB := hid (bt HB.out hb)
 replace HA := hid (HA.out.below hb)
 replace HB1 := hid (HB1.out.below hb)
 replace HX := hid (HX.out.below hb)
 replace HY := hid (HY.out.below hb)
 replace BR := hid (blk_next BR.out hb)
 replace BL := hid (blk_next BL.out hb)
 replace Bnum := hid (blk_next Bnum.out hb)
 replace Bden := hid (blk_next Bden.out hb)
 have Bx := hid b0
 clear hW hs hb b0
 have lt9_R : w.heap.size < W8.heap.size := (Array.getElem?_eq_some_iff.1 BR.out).1
 have lt10_L : w.heap.size + 1 < W8.heap.size := (Array.getElem?_eq_some_iff.1 BL.out).1
 have lt11_num : w3.heap.size < W8.heap.size := (Array.getElem?_eq_some_iff.1 Bnum.out).1
 have lt12_den : w5.heap.size < W8.heap.size := (Array.getElem?_eq_some_iff.1 Bden.out).1
 have lt13_x : w7.heap.size < W8.heap.size := (Array.getElem?_eq_some_iff.1 Bx.out).1
 obtain ⟨⟨cx0, cx1, cx2, cx3⟩, fx0, fx1, fx2, fx3⟩ := res4_facts Bx.out
 obtain ⟨cden0, cden1, fden0, fden1⟩ := res_facts Bden.out
 go_wp2_with fail
 clear cx0 cx1 cx2 cx3 fx0 fx1 fx2 fx3 cden0 cden1 fden0 fden1
 (with_reducible refine (cmp_any HY.out HB1.out).mono ?_)
 rintro e w9 ⟨rfl, hb⟩
 replace HB := hid (bt HB.out hb)
 replace HA := hid (HA.out.below hb)
 replace HB1 := hid (HB1.out.below hb)
 replace HX := hid (HX.out.below hb)
 replace HY := hid (HY.out.below hb)
 replace BR := hid (blk_next BR.out hb)
 replace BL := hid (blk_next BL.out hb)
 replace Bnum := hid (blk_next Bnum.out hb)
 replace Bden := hid (blk_next Bden.out hb)
 replace Bx := hid (blk_next Bx.out hb)
 clear hb
 obtain ⟨sg, hsg⟩ : ∃ sg, (((Rat.divInt (pval T.data.toList) (pval U.data.toList)).den : Int) - pval U.data.toList).sign = sg := ⟨_, rfl⟩
 have hsg0 : (sg == 0) = false := by
  rw [beq_eq_false_iff_ne, ← hsg]
  intro e
  have := Int.sign_eq_zero_iff_zero.1 e
  exact Xh9.out ((den_same HPOS.out).1 (by omega))
 rw [hsg]
 clear hsg
 have lt14_R : w.heap.size < w9.heap.size := (Array.getElem?_eq_some_iff.1 BR.out).1
 have lt15_L : w.heap.size + 1 < w9.heap.size := (Array.getElem?_eq_some_iff.1 BL.out).1
 have lt16_num : w3.heap.size < w9.heap.size := (Array.getElem?_eq_some_iff.1 Bnum.out).1
 have lt17_den : w5.heap.size < w9.heap.size := (Array.getElem?_eq_some_iff.1 Bden.out).1
 have lt18_x : w7.heap.size < w9.heap.size := (Array.getElem?_eq_some_iff.1 Bx.out).1
 obtain ⟨⟨cx0, cx1, cx2, cx3⟩, fx0, fx1, fx2, fx3⟩ := res4_facts Bx.out
 obtain ⟨cden0, cden1, fden0, fden1⟩ := res_facts Bden.out
 clear cx0 cx1 cx2 cx3 fx0 fx1 fx2 fx3 cden0 cden1 fden0 fden1
 obtain ⟨⟨cR0, cR1, cR2, cR3⟩, fR0, fR1, fR2, fR3⟩ := res4_facts BR.out
 go_wp2
 try simp only [Exit.inBlock, Exit.then]
 refine bodyPost_ret (results_cell_slot rfl _ _ (w.heap.size) 27 _ (0, 0) _ (.int .i64 3) rfl rfl (res4_set BR.out) Tryz.underlying27 rfl (by kernel_rfl)) rfl ?_
 rw [HQ.out.1, HQ.out.2]
 exact ⟨false, none, 0, 0, false, none, 0, 0, rfl, ratR_zero _, fin4 HB.out (by omega)⟩
theorem ratparse_any {w : World} (s : ByteArray) (hs : s.size ≤ 4200) (hm : Mlen w) : Calls Tryz.prog 17 #[.string s] w (GivesRE w (qval s.data.toList) (qcode s.data.toList)) := by
 by_cases h1 : pcode (topOf s.data.toList) = 3
 ·exact ratparse_t3 s hs hm h1
 rcases h2 : slashed s.data.toList with _ | _
 ·rcases pcode_three (topOf s.data.toList) with q | q | q
  ·exact ratparse_w0 s hs hm q h2
  ·exact absurd q h1
  ·exact ratparse_w6 s hs hm q h2
 by_cases h4 : pcode (botOf s.data.toList) = 3
 ·exact ratparse_b3 s hs hm h1 h2 h4
 by_cases h50 : negOf (botOf s.data.toList) = true
 ·exact ratparse_ng s hs hm h1 h2 h4 h50
 have h5 : negOf (botOf s.data.toList) = false := by simpa using h50
 by_cases h6 : botOf s.data.toList = [48]
 ·exact ratparse_48 s hs hm h1 h2 h4 h5 h6
 by_cases h7 : botOf s.data.toList = [49]
 ·exact ratparse_49 s hs hm h1 h2 h4 h5 h7
 have hnb : ¬ (pcode (botOf s.data.toList) = 3 ∨ negOf (botOf s.data.toList) = true ∨ botOf s.data.toList = [48] ∨ botOf s.data.toList = [49]) := by
  rintro (q | q | q | q)
  ·exact h4 q
  ·rw [h5] at q; cases q
  ·exact h6 q
  ·exact h7 q
 by_cases h8 : pcode (topOf s.data.toList) = 6 ∨ pcode (botOf s.data.toList) = 6
 ·by_cases h9 : (lval (topOf s.data.toList)).gcd (lval (botOf s.data.toList)) = 1
  ·exact ratparse_l1 s hs hm h1 h2 hnb h8 h9
  ·exact ratparse_l0 s hs hm h1 h2 hnb h8 h9
 ·simp only [not_or] at h8
  by_cases h9 : (pval (topOf s.data.toList)).gcd (pval (botOf s.data.toList)) = 1
  ·exact ratparse_g1 s hs hm (pcode_ok_of h1 h8.1) h2 hnb (pcode_ok_of h4 h8.2) h9
  ·exact ratparse_g0 s hs hm (pcode_ok_of h1 h8.1) h2 hnb (pcode_ok_of h4 h8.2) h9
end Go.Proofs.YtikpafocankggaaGreatDoor
