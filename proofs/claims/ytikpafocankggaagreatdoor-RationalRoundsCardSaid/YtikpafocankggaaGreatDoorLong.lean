/- The program's long: the integer with a text of any length. -/
import Derived.Test.YtikpafocankggaaGreatDoorRatD
import Derived.Test.YtikpafocankggaaGreatDoorPlainP
namespace Go.Proofs.YtikpafocankggaaGreatDoor
open Go.RowKit Tally Go.Lib
theorem bs_len (C : ByteArray) : C.data.toList.length = C.size := by rw [Array.length_toList]; rfl
theorem all_dg {D : List UInt8} {N : Nat} (h : ∀ c ∈ D, isDigit c) (hl : D.length ≤ N) : Dg N (decVal D : Int) := by
 unfold Dg
 rw [Int.natAbs_natCast]
 exact digits_few h hl
theorem take_dg {D : List UInt8} {N : Nat} (h : ∀ c ∈ D, isDigit c) (hl : D.length ≤ N) (j : Nat) : Dg N (decVal (D.take j) : Int) := by
 unfold Dg
 rw [Int.natAbs_natCast]
 exact digits_few (take_digits h j) (by rw [List.length_take]; omega)
def strLen : Value → Nat
 | .string s => s.size
 | _ => 0
set_option maxHeartbeats 2000000 in
set_option maxRecDepth 100000 in
theorem long_any {w : World} (s : ByteArray) (hs : s.size ≤ 5000) (hd : ∀ c ∈ bodyOf s.data.toList, isDigit c) :
  Calls Tryz.prog 89 #[.string s] w (GivesZ w (lval s.data.toList)) := by
 obtain ⟨D, hD⟩ : ∃ D : ByteArray, (⟨(bodyOf s.data.toList).toArray⟩ : ByteArray) = D := ⟨_, rfl⟩
 have hDl : D.data.toList = bodyOf s.data.toList := by rw [← hD]
 have hsz : D.data.toList.length = D.size := by rw [Array.length_toList]; rfl
 have hDs : D.size ≤ 5000 := by
   have h1 := body_length s.data.toList
   rw [← hDl] at h1
   have h2 : s.data.toList.length = s.size := by rw [Array.length_toList]; rfl
   omega
 obtain ⟨neg, hneg⟩ : ∃ b, negOf s.data.toList = b := ⟨_, rfl⟩
 have HSZ := hid hsz
 have HDL := hid hDl
 have HNEG := hid hneg
 have HDG := hid (show ∀ c ∈ D.data.toList, isDigit c by rw [hDl]; exact hd)
 have HLV := hid (show lval s.data.toList = if neg = true then -(decVal D.data.toList : Int) else decVal D.data.toList by unfold lval; rw [hneg, hDl])
 have HCP := hid (show ∀ W : World, Calls Tryz.prog 66 #[.string s, .string ⟨#[45]⟩] W fun e w' => e = .returned (.tuple #[.string D, .bool neg]) ∧ w' = W from fun W => by
   have := Tryz.strings_CutPrefix s ⟨#[45]⟩ W
   rw [← hD, ← hneg]
   exact this)
 clear hD hDl hneg hd hsz
 go_enter Tryz.func89, Tryz.ntmps89
 go_wp2_with fail
 obtain ⟨W1, hW, hs, hb, b0⟩ := alloc1 w (.cells #[.bool false, .slice none 0 0] 25)
 rw [← hW]
 have HB := hid hb
 have BR := hid b0
 clear hW hs hb b0
 refine (HCP.out _).mono ?_
 rintro e w2 ⟨rfl, rfl⟩
 go_wp2_with fail
 (with_reducible refine (of_any (n := 0) (by decide) (by decide)).mono ?_)
 rintro e w3 ⟨n_3, a_3, k_3, c_3, rfl, hu_3, hb⟩
 replace HB := hid (bt HB.out hb)
 replace BR := hid (blk_next BR.out hb)
 have HX := hid hu_3
 clear hu_3
 clear hb
 go_wp2_with fail
 have lt1_R : w.heap.size < w3.heap.size := (Array.getElem?_eq_some_iff.1 BR.out).1
 obtain ⟨W4, hW, hs, hb, b0⟩ := alloc1 w3 (.cells #[.bool n_3, .slice a_3 k_3 c_3] 25)
 rw [← hW]
 replace HB := hid (bt HB.out hb)
 replace HX := hid (HX.out.below hb)
 replace BR := hid (blk_next BR.out hb)
 have Bx := hid b0
 clear hW hs hb b0
 (with_reducible refine (of_any (n := 1000000000000000) (by decide) (by decide)).mono ?_)
 rintro e w5 ⟨n_5, a_5, k_5, c_5, rfl, hu_5, hb⟩
 replace HB := hid (bt HB.out hb)
 replace HX := hid (HX.out.below hb)
 replace BR := hid (blk_next BR.out hb)
 replace Bx := hid (blk_next Bx.out hb)
 have HSH := hid hu_5
 clear hu_5
 clear hb
 have lt2_R : w.heap.size < w5.heap.size := (Array.getElem?_eq_some_iff.1 BR.out).1
 have lt3_x : w3.heap.size < w5.heap.size := (Array.getElem?_eq_some_iff.1 Bx.out).1
 obtain ⟨cx0, cx1, fx0, fx1⟩ := res_facts Bx.out
 go_wp2_with fail
 clear cx0 cx1 fx0 fx1
 obtain ⟨W6, hW, hs, hb, b0⟩ := alloc1 w5 (.cells #[.bool n_5, .slice a_5 k_5 c_5] 25)
 rw [← hW]
 replace HB := hid (bt HB.out hb)
 replace HX := hid (HX.out.below hb)
 replace HSH := hid (HSH.out.below hb)
 replace BR := hid (blk_next BR.out hb)
 replace Bx := hid (blk_next Bx.out hb)
 have Bsh := hid b0
 clear hW hs hb b0
 have lt4_R : w.heap.size < W6.heap.size := (Array.getElem?_eq_some_iff.1 BR.out).1
 have lt5_x : w3.heap.size < W6.heap.size := (Array.getElem?_eq_some_iff.1 Bx.out).1
 have lt6_sh : w5.heap.size < W6.heap.size := (Array.getElem?_eq_some_iff.1 Bsh.out).1
 go_wp2_with fail
 go_loopw [3] (fun ds wr => ∃ (j : Nat) (E : ByteArray) (n : Bool) (a : Option Addr) (k c : Nat), ds = .string E ∧ j ≤ D.size ∧ E.data.toList = D.data.toList.drop j ∧ E.size + j = D.size ∧ (j = 0 ∨ E.size % 15 = 0) ∧ wr.heap[w3.heap.size]? = some (.cells #[.bool n, .slice a k c] 25 (0, 0)) ∧ IntR wr (.agg #[.bool n, .slice a k c]) (decVal (D.data.toList.take j)) ∧ Stay (w3.heap.size) (w3.heap.size + 1) W6 wr) (fun ds _ => strLen ds)
 case atStart => exact ⟨0, D, _, _, _, _, rfl, Nat.zero_le _, rfl, rfl, .inl rfl, Bx.out, HX.out, Stay.refl _ _ _⟩
 case round =>
  obtain ⟨wo, rfl⟩ : ∃ wo : World, wo = wr := ⟨_, rfl⟩
  obtain ⟨j, E, n, a, k, c, rfl, hj, hE, hEs, h15, hbx, hx, hst⟩ := hrel
  have HST := hid hst
  have NX := hid hx
  have NBx := hid hbx
  have HE := hid hE
  clear hst hx hbx hE HX
  have HNI := hid (noInt_one (noInt2 Bx.out))
  replace HSH := hid (HSH.out.stay HST.out HNI.out)
  replace BR := hid ((HST.out.block (w.heap.size) (Array.getElem?_eq_some_iff.1 BR.out).1 (by omega)).trans BR.out)
  replace Bsh := hid ((HST.out.block (w5.heap.size) (Array.getElem?_eq_some_iff.1 Bsh.out).1 (by omega)).trans Bsh.out)
  have hsb : w.heap.size ≤ w3.heap.size := by omega
  replace HB := hid (HB.out.trans (HST.out.below hsb HB.out.size))
  clear hsb HNI
  clear Bx
  by_cases h0 : E.size = 0
  ·have hgt : ¬ (0 : Int) < (E.size : Int) := by omega
   have HV := hid (show (decVal (D.data.toList.take j) : Int) = decVal D.data.toList from by rw [List.take_of_length_le (by have := HSZ.out; omega)])
   cases neg
   ·have lt1_R : w.heap.size < wo.heap.size := (Array.getElem?_eq_some_iff.1 BR.out).1
    have lt2_x : w3.heap.size < wo.heap.size := (Array.getElem?_eq_some_iff.1 NBx.out).1
    have lt3_sh : w5.heap.size < wo.heap.size := (Array.getElem?_eq_some_iff.1 Bsh.out).1
    obtain ⟨cx0, cx1, fx0, fx1⟩ := res_facts NBx.out
    obtain ⟨cR0, cR1, fR0, fR1⟩ := res_facts BR.out
    go_wp2
    try simp only [Exit.inBlock, Exit.then]
    refine bodyPost_ret (results_cell_row rfl _ _ (w.heap.size) 25 _ (0, 0) _ rfl (res_set BR.out) Tryz.underlying25 rfl (by kernel_rfl)) rfl ?_
    exact ⟨_, _, _, _, rfl, ((NX.out.stay set2_stay (noInt_one (noInt2 BR.out))).as (by rw [HLV.out, HV.out]; rfl)), (fin2 HB.out (by omega))⟩
   ·have lt1_R : w.heap.size < wo.heap.size := (Array.getElem?_eq_some_iff.1 BR.out).1
    have lt2_x : w3.heap.size < wo.heap.size := (Array.getElem?_eq_some_iff.1 NBx.out).1
    have lt3_sh : w5.heap.size < wo.heap.size := (Array.getElem?_eq_some_iff.1 Bsh.out).1
    obtain ⟨cx0, cx1, fx0, fx1⟩ := res_facts NBx.out
    go_wp2_with fail
    clear cx0 cx1 fx0 fx1
    (with_reducible refine (neg_any NX.out).mono ?_)
    rintro e w7 ⟨n_7, a_7, k_7, c_7, rfl, hu_7, hb⟩
    replace HB := hid (bt HB.out hb)
    replace HSH := hid (HSH.out.below hb)
    replace NX := hid (NX.out.below hb)
    replace BR := hid (blk_next BR.out hb)
    replace NBx := hid (blk_next NBx.out hb)
    replace Bsh := hid (blk_next Bsh.out hb)
    have HNN := hid hu_7
    clear hu_7
    clear hb
    have lt4_R : w.heap.size < w7.heap.size := (Array.getElem?_eq_some_iff.1 BR.out).1
    have lt5_x : w3.heap.size < w7.heap.size := (Array.getElem?_eq_some_iff.1 NBx.out).1
    have lt6_sh : w5.heap.size < w7.heap.size := (Array.getElem?_eq_some_iff.1 Bsh.out).1
    obtain ⟨cR0, cR1, fR0, fR1⟩ := res_facts BR.out
    go_wp2
    try simp only [Exit.inBlock, Exit.then]
    refine bodyPost_ret (results_cell_row rfl _ _ (w.heap.size) 25 _ (0, 0) _ rfl (res_set BR.out) Tryz.underlying25 rfl (by kernel_rfl)) rfl ?_
    exact ⟨_, _, _, _, rfl, ((HNN.out.stay set2_stay (noInt_one (noInt2 BR.out))).as (by rw [HLV.out, HV.out]; rfl)), (fin2 HB.out (by omega))⟩
  ·have hgt : (0 : Int) < (E.size : Int) := by omega
   obtain ⟨p1, p2, p3, p4⟩ := piece_le (show 0 < E.size by omega)
   obtain ⟨m, hm⟩ : ∃ m, pieceOf E.size = m := ⟨_, rfl⟩
   rw [hm] at p1 p2 p3 p4
   have HM := hid hm
   have HF := hid (show m = 15 ∨ j = 0 from by
       rcases h15 with q | q
       ·exact .inr q
       ·exact .inl (by rw [← hm]; exact piece_full q))
   clear hm h15
   have HDIG := hid (take_dg (N := 5000) HDG.out (by have := HSZ.out; omega) j)
   have d16 : Dg 16 (1000000000000000 : Int) := by unfold Dg; decide
   have d5000 := d16.mono (show 16 ≤ 5000 by omega)
   have hjD : j + m ≤ D.size := by omega
   obtain ⟨C, hC⟩ : ∃ C : ByteArray, E.extract 0 m = C := ⟨_, rfl⟩
   have HCL := hid (show C.data.toList = (D.data.toList.drop j).take m from by
       rw [← hC, ← HE.out, Lib.extract_eq]; simp)
   have HCS := hid (show C.size = m from by
       have h1 : C.data.toList.length = C.size := by rw [Array.length_toList]; rfl
       rw [← h1, HCL.out, List.length_take, List.length_drop]; have := HSZ.out; omega)
   have HCD := hid (show ∀ c ∈ C.data.toList, isDigit c from by rw [HCL.out]; exact take_digits (drop_digits HDG.out j) m)
   have HSTEP := hid (show (decVal (D.data.toList.take j) : Int) * 1000000000000000 + decVal C.data.toList = decVal (D.data.toList.take (j + m)) from by rw [HCL.out]; exact long_step (by have := HSZ.out; omega) HF.out)
   have hk : (m = 15 ∧ E.size % 15 = 0) ∨ (E.size % 15 = m ∧ E.size % 15 ≠ 0) := by
       rw [← HM.out]; unfold pieceOf
       by_cases q : E.size % 15 = 0
       ·rw [if_pos q]; exact .inl ⟨rfl, q⟩
       ·rw [if_neg q]; exact .inr ⟨rfl, q⟩
   obtain ⟨G, hG⟩ : ∃ G : ByteArray, E.extract m E.size = G := ⟨_, rfl⟩
   have HGL := hid (show G.data.toList = D.data.toList.drop (j + m) from by
       rw [← hG, Lib.extract_eq, HE.out, List.drop_drop]
       rw [List.take_of_length_le (by rw [List.length_drop]; have := HSZ.out; omega)]
       try rw [Nat.add_comm])
   have HGS := hid (show G.size + m = E.size from by
       have h1 : G.data.toList.length = G.size := by rw [Array.length_toList]; rfl
       rw [← h1, HGL.out, List.length_drop]; have := HSZ.out; omega)
   have hz0 : (0 : Int) ≤ (m : Int) := by omega
   have hz1 : (m : Int) ≤ (E.size : Int) := by omega
   clear HF HM
   rcases hk with ⟨rfl, hk⟩ | ⟨hk, hk0⟩
   case' inl =>
    have hr1 : (E.size : Int) % 15 = 0 := by omega
    have hr2 : (E.size : Int).tmod 15 = 0 := by rw [Int.tmod_eq_emod_of_nonneg (by omega)]; omega
   case' inr =>
    have hr0 : ((m : Int) == 0) = false := by rw [beq_eq_false_iff_ne]; omega
    have hr1 : (E.size : Int) % 15 = (m : Int) := by omega
    have hr2 : (E.size : Int).tmod 15 = (m : Int) := by rw [Int.tmod_eq_emod_of_nonneg (by omega)]; omega
   all_goals
    go_wp2_with fail
    go_loopw [8] (fun nv wi => ∃ (pos v : Nat), nv = .int .i64 v ∧ pos ≤ C.size ∧ v = decVal (C.data.toList.take pos) ∧ wi.heap[wo.heap.size]? = some (.stringIter C pos) ∧ Below wo.heap.size wo wi) (fun _ wi => C.size - wi.iterPos wo.heap.size)
    case atStart => exact ⟨0, 0, rfl, Nat.zero_le _, rfl, World.iter_heap _ _ _, (Below.refl _ _).alloc (Nat.le_refl _) _⟩
    case round =>
     obtain ⟨pos, v, rfl, hpos, hv, hit, hbi⟩ := hrel
     have HV := hid hv
     have HIT := hid hit
     have HBI := hid hbi
     have HIP := hid (iterPos_of hit)
     have hcz := HCS.out
     have hvl : v < 1000000000000000 := by
      rw [hv]
      exact digits_few (N := 15) (take_digits HCD.out pos) (by rw [List.length_take]; omega)
     clear hv hit hbi
     by_cases hp : pos < C.size
     ·have hdg := HCD.out (C[pos]'hp) (Array.mem_toList_iff.2 (Array.getElem_mem _))
      obtain ⟨d, hd⟩ : ∃ d, (C[pos]'hp).toNat = d := ⟨_, rfl⟩
      have hd1 : 48 ≤ d ∧ d ≤ 57 := by unfold isDigit at hdg; omega
      have HV2 := hid (show 10 * v + (d - 48) = decVal (C.data.toList.take (pos + 1)) from by
       have hl : pos < C.data.toList.length := by rw [Array.length_toList]; exact hp
       rw [take_next hl, ← HV.out]
       congr 2
       exact hd.symm)
      have hnx := next_byte (P := Tryz.prog) wr wo.heap.size C pos HIT.out hp hd (by omega)
      have hit2 := Lib.iterAt_heap wr wo.heap.size C pos (pos + 1) HIT.out
      have hb2 := Lib.below_iterAt HBI.out (k := wo.heap.size) (Nat.le_refl _) C (pos + 1)
      generalize wr.iterAt wo.heap.size C (pos + 1) = W1 at *
      have HIT2 := hid hit2
      have HB2 := hid hb2
      clear hit2 hb2 hd hdg
      obtain ⟨hd2, hd3⟩ := hd1
      go_wp2
      refine ⟨⟨pos + 1, 10 * v + (d - 48), by congr 1; omega, by omega, HV2.out, HIT2.out, HB2.out⟩, ?_⟩
      rw [iterPos_of HIT2.out, HIP.out]
      omega
     ·have hnx : ∀ ty, (Instr.next (.pointer (some ⟨wo.heap.size, 0, none⟩)) true ty).run Tryz.prog wr = .ok (.tuple #[.bool false]) wr := fun ty => Lib.run_next_end_at wr wo.heap.size C pos ty HIT.out hp
      have hpe : pos = C.size := by omega
      replace HV := hid (show v = decVal C.data.toList from by rw [HV.out, List.take_of_length_le (by rw [bs_len]; omega)])
      have DV := hid (show Dg 5000 (v : Int) from by rw [HV.out]; exact all_dg HCD.out (by rw [bs_len]; omega))
      have HST0 := hid (Below.refl wo.heap.size wo)
      have hv0 : (v : Int) ≤ 9223372036854775807 := by omega
      have hv1 : -9223372036854775808 ≤ (v : Int) := by omega
      replace HB := hid (bt HB.out HBI.out)
      replace HSH := hid (HSH.out.below HBI.out)
      replace NX := hid (NX.out.below HBI.out)
      replace HST := hid (HST.out.next HBI.out)
      replace BR := hid (blk_next BR.out HBI.out)
      replace NBx := hid (blk_next NBx.out HBI.out)
      replace Bsh := hid (blk_next Bsh.out HBI.out)
      clear HIT HBI HST0 HIP hpe hp
      have lt1_R : w.heap.size < wr.heap.size := (Array.getElem?_eq_some_iff.1 BR.out).1
      have lt2_x : w3.heap.size < wr.heap.size := (Array.getElem?_eq_some_iff.1 NBx.out).1
      have lt3_sh : w5.heap.size < wr.heap.size := (Array.getElem?_eq_some_iff.1 Bsh.out).1
      obtain ⟨cx0, cx1, fx0, fx1⟩ := res_facts NBx.out
      obtain ⟨csh0, csh1, fsh0, fsh1⟩ := res_facts Bsh.out
      go_wp2_with fail
      clear cx0 cx1 fx0 fx1 csh0 csh1 fsh0 fsh1
      (with_reducible refine (mul_any NX.out HSH.out HDIG.out d5000 (by omega)).mono ?_)
      rintro e w7 ⟨n_7, a_7, k_7, c_7, rfl, hu_7, hb⟩
      replace HB := hid (bt HB.out hb)
      replace HSH := hid (HSH.out.below hb)
      replace NX := hid (NX.out.below hb)
      replace HST := hid (HST.out.next hb)
      replace BR := hid (blk_next BR.out hb)
      replace NBx := hid (blk_next NBx.out hb)
      replace Bsh := hid (blk_next Bsh.out hb)
      have HPM := hid hu_7
      clear hu_7
      clear hb
      go_wp2_with fail
      (with_reducible refine (of_any hv1 hv0).mono ?_)
      rintro e w8 ⟨n_8, a_8, k_8, c_8, rfl, hu_8, hb⟩
      replace HB := hid (bt HB.out hb)
      replace HSH := hid (HSH.out.below hb)
      replace NX := hid (NX.out.below hb)
      replace HST := hid (HST.out.next hb)
      replace HPM := hid (HPM.out.below hb)
      replace BR := hid (blk_next BR.out hb)
      replace NBx := hid (blk_next NBx.out hb)
      replace Bsh := hid (blk_next Bsh.out hb)
      have HPN := hid hu_8
      clear hu_8
      clear hb
      go_wp2_with fail
      (with_reducible refine (add_any HPM.out HPN.out (Dg.mul HDIG.out d5000) (DV.out.mono (by omega)) (by omega)).mono ?_)
      rintro e w9 ⟨n_9, a_9, k_9, c_9, rfl, hu_9, hb⟩
      replace HB := hid (bt HB.out hb)
      replace HSH := hid (HSH.out.below hb)
      replace NX := hid (NX.out.below hb)
      replace HST := hid (HST.out.next hb)
      replace HPM := hid (HPM.out.below hb)
      replace HPN := hid (HPN.out.below hb)
      replace BR := hid (blk_next BR.out hb)
      replace NBx := hid (blk_next NBx.out hb)
      replace Bsh := hid (blk_next Bsh.out hb)
      have HPA := hid hu_9
      clear hu_9
      clear hb
      have lt4_R : w.heap.size < w9.heap.size := (Array.getElem?_eq_some_iff.1 BR.out).1
      have lt5_x : w3.heap.size < w9.heap.size := (Array.getElem?_eq_some_iff.1 NBx.out).1
      have lt6_sh : w5.heap.size < w9.heap.size := (Array.getElem?_eq_some_iff.1 Bsh.out).1
      obtain ⟨cx0, cx1, fx0, fx1⟩ := res_facts NBx.out
      go_wp2
      have hgs := HGS.out
      refine ⟨⟨_, G, _, _, _, _, rfl, by omega, HGL.out, by omega, .inr (by omega), res_set NBx.out, (HPA.out.stay set2_stay (noInt_one (noInt2 NBx.out))).as (by rw [HV.out]; exact HSTEP.out), stay_set2 HST.out (Nat.le_refl _) (Nat.lt_succ_self _)⟩, ?_⟩
      show G.size < E.size
      omega
end Go.Proofs.YtikpafocankggaaGreatDoor
