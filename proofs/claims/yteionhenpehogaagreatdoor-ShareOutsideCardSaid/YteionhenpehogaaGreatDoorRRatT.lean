import Derived.Test.YteionhenpehogaaGreatDoorRRat
import Derived.Test.YteionhenpehogaaGreatDoorRatD
namespace Go.Proofs.YteionhenpehogaaGreatDoor
open Go.RowKit Tally Go.Lib
theorem itoa_one (d : Nat) : (⟨(Go.Lib.itoa (d : Int)).toArray⟩ : ByteArray) = (⟨#[49]⟩ : ByteArray) ↔ d = 1 := by
 constructor
 ·intro h
  have h1 : (Go.Lib.itoa (d : Int)).toArray = #[49] := congrArg ByteArray.data h
  have h2 : Go.Lib.itoa (d : Int) = [49] := by
   have := congrArg Array.toList h1
   simpa using this
  rw [Go.Lib.itoa_nonneg] at h2
  have h3 := congrArg List.length h2
  rw [Go.Lib.decDigits_length] at h3
  by_cases hd : d < 10
  ·rw [Go.Lib.decDigits, dif_pos hd] at h2
   have h4 : UInt8.ofNat (48 + d) = 49 := by simpa using h2
   have h5 := congrArg UInt8.toNat h4
   have h6 : (UInt8.ofNat (48 + d)).toNat = 48 + d := UInt8.toNat_ofNat_of_lt' (by show 48 + d < 256; omega)
   rw [h6] at h5
   have : (49 : UInt8).toNat = 49 := rfl
   omega
  ·rw [Go.Lib.nDigits_big hd] at h3
   have : 1 ≤ Go.Lib.nDigits (d / 10) := by
    rw [Go.Lib.nDigits]
    split <;> omega
   simp at h3
   omega
 ·rintro rfl
  have : Go.Lib.itoa ((1 : Nat) : Int) = [49] := by
   rw [Go.Lib.itoa_nonneg, Go.Lib.decDigits, dif_pos (by decide)]
   rfl
  rw [this]
set_option maxHeartbeats 2000000 in
set_option maxRecDepth 100000 in
theorem rrattext_any {w : World} {v : Value} {q : Rat} {N : Nat} (h : RRatR w v q) (hq : Rg N q) (hN : N ≤ 1000000000000) :
  Calls Tryz.prog 90 #[v] w (fun e w' => e = .returned (.string (ratText q)) ∧ Below w.heap.size w w') := by
 obtain ⟨n1, a1, k1, c1, n2, a2, k2, c2, rfl⟩ := h.shape
 have hq1 := hq.1
 have hq2 := hq.2
 have s1 := itoa_size hq1
 have s2 := itoa_size hq2
 have HR := hid (show (if q.den = 1 then (⟨(itoa q.num).toArray⟩ : ByteArray) else (⟨(itoa q.num).toArray⟩ : ByteArray) ++ (⟨#[47]⟩ : ByteArray) ++ (⟨(itoa (q.den : Int)).toArray⟩ : ByteArray)) = ratText q from rfl)
 have HO := hid (itoa_one q.den)
 obtain ⟨X, hX⟩ : ∃ X : ByteArray, (⟨(itoa q.num).toArray⟩ : ByteArray) = X := ⟨_, rfl⟩
 obtain ⟨Y, hY⟩ : ∃ Y : ByteArray, (⟨(itoa (q.den : Int)).toArray⟩ : ByteArray) = Y := ⟨_, rfl⟩
 obtain ⟨Z, hZ⟩ : ∃ Z : ByteArray, ratText q = Z := ⟨_, rfl⟩
 rw [hX] at s1 HR
 rw [hY] at s2 HR HO
 rw [hZ] at HR ⊢
 have HX := hid hX
 have HY := hid hY
 clear hX hY hZ
 have HQ := hid h
 clear h
 go_enter Tryz.func90, Tryz.ntmps90
 go_wp2_with fail
 obtain ⟨W1, hW, hs, hb, b0⟩ := alloc1 w (.cells #[.bool n1, .slice a1 k1 c1, .bool n2, .slice a2 k2 c2] 86)
 rw [← hW]
 have HB := hid hb
 replace HQ := hid (HQ.out.below hb)
 have BP := hid b0
 clear hW hs hb b0
 (with_reducible refine (rparts_any HQ.out).mono ?_)
 rintro e w2 ⟨n_2, a_2, k_2, c_2, n2_2, a2_2, k2_2, c2_2, rfl, hu_2, hv_2, hb⟩
 replace HB := hid (bt HB.out hb)
 replace HQ := hid (HQ.out.below hb)
 replace BP := hid (blk_next BP.out hb)
 have HA := hid hu_2
 have HD := hid hv_2
 clear hu_2 hv_2
 clear hb
 have lt1_P : w.heap.size < w2.heap.size := (Array.getElem?_eq_some_iff.1 BP.out).1
 obtain ⟨⟨cP0, cP1, cP2, cP3⟩, fP0, fP1, fP2, fP3⟩ := res4_facts BP.out
 go_wp2_with fail
 clear cP0 cP1 cP2 cP3 fP0 fP1 fP2 fP3
 obtain ⟨W3, hW, hs, hb, b0, b1⟩ := alloc2 w2 (.cells #[.bool n_2, .slice a_2 k_2 c_2] 84) (.cells #[.bool n2_2, .slice a2_2 k2_2 c2_2] 84)
 rw [← hW]
 replace HB := hid (bt HB.out hb)
 replace HA := hid (HA.out.below hb)
 replace HD := hid (HD.out.below hb)
 replace BP := hid (blk_next BP.out hb)
 have Ba := hid b0
 have Bd := hid b1
 clear hW hs hb b0 b1
 (with_reducible refine (rtext_any HD.out hq2 hN).mono ?_)
 rintro e w4 ⟨rfl, hb⟩
 replace HB := hid (bt HB.out hb)
 replace HA := hid (HA.out.below hb)
 replace HD := hid (HD.out.below hb)
 replace BP := hid (blk_next BP.out hb)
 replace Ba := hid (blk_next Ba.out hb)
 replace Bd := hid (blk_next Bd.out hb)
 clear hb
 rw [HY.out]
 by_cases hd1 : q.den = 1
 ·obtain rfl : Y = (⟨#[49]⟩ : ByteArray) := HO.out.2 hd1
  have HE := hid (show X = Z from by have := HR.out; rwa [if_pos hd1] at this)
  clear hd1
  have lt2_P : w.heap.size < w4.heap.size := (Array.getElem?_eq_some_iff.1 BP.out).1
  have lt3_a : w2.heap.size < w4.heap.size := (Array.getElem?_eq_some_iff.1 Ba.out).1
  have lt4_d : w2.heap.size + 1 < w4.heap.size := (Array.getElem?_eq_some_iff.1 Bd.out).1
  obtain ⟨ca0, ca1, fa0, fa1⟩ := res_facts Ba.out
  go_wp2_with fail
  clear ca0 ca1 fa0 fa1
  (with_reducible refine (rtext_any HA.out hq1 hN).mono ?_)
  rintro e w5 ⟨rfl, hb⟩
  replace HB := hid (bt HB.out hb)
  replace HA := hid (HA.out.below hb)
  replace HD := hid (HD.out.below hb)
  replace BP := hid (blk_next BP.out hb)
  replace Ba := hid (blk_next Ba.out hb)
  replace Bd := hid (blk_next Bd.out hb)
  clear hb
  rw [HX.out]
  go_wp2
  go_ret
  exact ⟨by rw [← HE.out]; rfl, HB.out⟩
 ·have hne : (Y.toList == [49]) = false := by
     rw [beq_eq_false_iff_ne, Go.Lib.toList_data]
     intro e
     refine hd1 (HO.out.1 ?_)
     cases Y with
     | mk d => cases d with | mk l => simp at e; rw [e]
  have HE := hid (show X ++ (⟨#[47]⟩ : ByteArray) ++ Y = Z from by have := HR.out; rwa [if_neg hd1] at this)
  clear hd1
  have lt2_P : w.heap.size < w4.heap.size := (Array.getElem?_eq_some_iff.1 BP.out).1
  have lt3_a : w2.heap.size < w4.heap.size := (Array.getElem?_eq_some_iff.1 Ba.out).1
  have lt4_d : w2.heap.size + 1 < w4.heap.size := (Array.getElem?_eq_some_iff.1 Bd.out).1
  obtain ⟨ca0, ca1, fa0, fa1⟩ := res_facts Ba.out
  obtain ⟨cd0, cd1, fd0, fd1⟩ := res_facts Bd.out
  go_wp2_with fail
  have z1 := run_string_add_sum (P := Tryz.prog) (a := X) (b := (⟨#[47]⟩ : ByteArray)) (h := by show X.size + 1 ≤ _; omega)
  have z2 := run_string_add_sum (P := Tryz.prog) (a := X ++ (⟨#[47]⟩ : ByteArray)) (b := Y) (h := by rw [ByteArray.size_append]; show X.size + 1 + Y.size ≤ _; omega)
  clear ca0 ca1 fa0 fa1 cd0 cd1 fd0 fd1
  obtain ⟨ca0, ca1, fa0, fa1⟩ := res_facts Ba.out
  obtain ⟨cd0, cd1, fd0, fd1⟩ := res_facts Bd.out
  have HL5 := hid (fun (w' : World) (hb : Below w4.heap.size w4 w') => (⟨hb, keepc hb ca0, keepc hb ca1, keepc hb cd0, keepc hb cd1⟩ : Below w4.heap.size w4 w' ∧ w'.cell? ⟨w2.heap.size, 0, none⟩ = some (.bool n_2) ∧ w'.cell? ⟨w2.heap.size, 1, none⟩ = some (.slice a_2 k_2 c_2) ∧ w'.cell? ⟨w2.heap.size + 1, 0, none⟩ = some (.bool n2_2) ∧ w'.cell? ⟨w2.heap.size + 1, 1, none⟩ = some (.slice a2_2 k2_2 c2_2)))
  have HI5 := hid (fun (w' : World) (hs : Below w4.heap.size w4 w' ∧ w'.cell? ⟨w2.heap.size, 0, none⟩ = some (.bool n_2) ∧ w'.cell? ⟨w2.heap.size, 1, none⟩ = some (.slice a_2 k_2 c_2) ∧ w'.cell? ⟨w2.heap.size + 1, 0, none⟩ = some (.bool n2_2) ∧ w'.cell? ⟨w2.heap.size + 1, 1, none⟩ = some (.slice a2_2 k2_2 c2_2)) => hs.1)
  have HS5 := hid (Below.refl w4.heap.size w4)
  have HC5 := hid (Below.drew (Below.refl w4.heap.size w4))
  go_region_held3 (fun w' => Below w4.heap.size w4 w' ∧ w'.cell? ⟨w2.heap.size, 0, none⟩ = some (.bool n_2) ∧ w'.cell? ⟨w2.heap.size, 1, none⟩ = some (.slice a_2 k_2 c_2) ∧ w'.cell? ⟨w2.heap.size + 1, 0, none⟩ = some (.bool n2_2) ∧ w'.cell? ⟨w2.heap.size + 1, 1, none⟩ = some (.slice a2_2 k2_2 c2_2))
   (first | exact HL5.out _ (Below.drew HS5.out) | exact HL5.out _ (bt (HI5.out _ (by assumption)) (by assumption)))
   (first | (go_at_call 133; (with_reducible refine (rtext_any (HA.out.below (HI5.out _ (by assumption))) hq1 hN).mono ?_); rintro e w6 ⟨rfl, hbr6⟩; rw [HX.out]) | (go_at_call 133; (with_reducible refine (rtext_any (HD.out.below (HI5.out _ (by assumption))) hq2 hN).mono ?_); rintro e w7 ⟨rfl, hbr7⟩; rw [HY.out]))
  clear ca0 ca1 fa0 fa1 cd0 cd1 fd0 fd1
  have hbR := (bt (bt HC5.out hbr6) hbr7)
  replace HA := hid (HA.out.below hbR)
  replace HD := hid (HD.out.below hbR)
  replace HB := hid (bt HB.out hbR)
  replace BP := hid (blk_next BP.out hbR)
  replace Ba := hid (blk_next Ba.out hbR)
  replace Bd := hid (blk_next Bd.out hbR)
  clear hbR hbr6 hbr7
  go_wp2
  go_ret
  exact ⟨by rw [← HE.out]; rfl, HB.out⟩
end Go.Proofs.YteionhenpehogaaGreatDoor
