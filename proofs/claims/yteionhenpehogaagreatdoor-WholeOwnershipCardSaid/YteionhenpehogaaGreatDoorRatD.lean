import Derived.Test.YteionhenpehogaaGreatDoorRatC
import Derived.Test.YteionhenpehogaaGreatDoorText
import Derived.Test.YteionhenpehogaaGreatDoorPlainZ
import Derived.Deep.DeepCutAuto
namespace Go.Proofs.YteionhenpehogaaGreatDoor
open Go.RowKit Tally Go.Lib
theorem nDigits_le : ∀ (N u : Nat), u < 10 ^ N → Go.Lib.nDigits u ≤ N + 1
 | 0, u, h => by
  have : u < 1 := h
  rw [Go.Lib.nDigits_small (by omega)]
  omega
 | N + 1, u, h => by
  by_cases hu : u < 10
  ·rw [Go.Lib.nDigits_small hu]; omega
  ·rw [Go.Lib.nDigits_big hu]
   have := nDigits_le N (u / 10) (by rw [Nat.pow_succ] at h; omega)
   omega
theorem itoa_size {N : Nat} {z : Int} (h : Dg N z) : (⟨(Go.Lib.itoa z).toArray⟩ : ByteArray).size ≤ N + 2 := by
 show (Go.Lib.itoa z).toArray.size ≤ N + 2
 rw [List.size_toArray]
 unfold Dg at h
 unfold Go.Lib.itoa
 split
 ·rw [List.length_cons, Go.Lib.decDigits_length]
  have := nDigits_le N z.natAbs h
  omega
 ·rw [Go.Lib.decDigits_length]
  have := nDigits_le N z.toNat (by omega)
  omega
def ratText (q : Rat) : ByteArray := if q.den = 1 then ⟨(Go.Lib.itoa q.num).toArray⟩ else (⟨(Go.Lib.itoa q.num).toArray⟩ : ByteArray) ++ (⟨#[47]⟩ : ByteArray) ++ (⟨(Go.Lib.itoa (q.den : Int)).toArray⟩ : ByteArray)
theorem Rg.of {N : Nat} {q : Rat} (h : Fw N q) : Rg N q := h
theorem Rg.fw {N : Nat} {q : Rat} (h : Rg N q) : Fw N q := h
set_option maxHeartbeats 2000000 in
set_option maxRecDepth 100000 in
theorem rattext_any {w : World} {v : Value} {q : Rat} {N : Nat} (h : RatR w v q) (ht : Tab w) (hq : Rg N q) (hN : N ≤ 1000000000000) :
  Calls Tryz.prog 62 #[v] w (fun e w' => e = .returned (.string (ratText q)) ∧ Below w.heap.size w w') := by
 obtain ⟨n1, a1, k1, c1, n2, a2, k2, c2, rfl⟩ := h.shape
 have hq1 := hq.1
 have hq2 := hq.2
 have s1 := itoa_size hq1
 have s2 := itoa_size hq2
 have HR := hid (show (if q.den = 1 then (⟨(itoa q.num).toArray⟩ : ByteArray) else (⟨(itoa q.num).toArray⟩ : ByteArray) ++ (⟨#[47]⟩ : ByteArray) ++ (⟨(itoa (q.den : Int)).toArray⟩ : ByteArray)) = ratText q from rfl)
 obtain ⟨X, hX⟩ : ∃ X : ByteArray, (⟨(itoa q.num).toArray⟩ : ByteArray) = X := ⟨_, rfl⟩
 obtain ⟨Y, hY⟩ : ∃ Y : ByteArray, (⟨(itoa (q.den : Int)).toArray⟩ : ByteArray) = Y := ⟨_, rfl⟩
 obtain ⟨Z, hZ⟩ : ∃ Z : ByteArray, ratText q = Z := ⟨_, rfl⟩
 rw [hX] at s1 HR
 rw [hY] at s2 HR
 rw [hZ] at HR ⊢
 have HX := hid hX
 have HY := hid hY
 clear hX hY hZ
 have HT := hid ht
 clear ht
 have HQ := hid h
 clear h
 go_enter Tryz.func62, Tryz.ntmps62
 go_wp2_with fail
 obtain ⟨W1, hW, hs, hb, b0⟩ := alloc1 w (.cells #[.bool n1, .slice a1 k1 c1, .bool n2, .slice a2 k2 c2] 37)
 rw [← hW]
 have HB := hid hb
 replace HQ := hid (HQ.out.below hb)
 replace HT := hid (HT.out.below hb)
 have BP := hid b0
 clear hW hs hb b0
 (with_reducible refine (parts_any HQ.out).mono ?_)
 rintro e w2 ⟨n_2, a_2, k_2, c_2, n2_2, a2_2, k2_2, c2_2, rfl, hu_2, hv_2, hb⟩
 replace HB := hid (bt HB.out hb)
 replace HQ := hid (HQ.out.below hb)
 replace HT := hid (HT.out.below hb)
 replace BP := hid (blk_next BP.out hb)
 have HA := hid hu_2
 have HD := hid hv_2
 clear hu_2 hv_2
 clear hb
 have lt1_P : w.heap.size < w2.heap.size := (Array.getElem?_eq_some_iff.1 BP.out).1
 obtain ⟨⟨cP0, cP1, cP2, cP3⟩, fP0, fP1, fP2, fP3⟩ := res4_facts BP.out
 go_wp2_with fail
 clear cP0 cP1 cP2 cP3 fP0 fP1 fP2 fP3
 obtain ⟨W3, hW, hs, hb, b0, b1⟩ := alloc2 w2 (.cells #[.bool n_2, .slice a_2 k_2 c_2] 35) (.cells #[.bool n2_2, .slice a2_2 k2_2 c2_2] 35)
 rw [← hW]
 replace HB := hid (bt HB.out hb)
 replace HT := hid (HT.out.below hb)
 replace HA := hid (HA.out.below hb)
 replace HD := hid (HD.out.below hb)
 replace BP := hid (blk_next BP.out hb)
 have Ba := hid b0
 have Bd := hid b1
 clear hW hs hb b0 b1
 by_cases hd1 : q.den = 1
 ·have HS := hid (show ((q.den : Int) - 1).sign = 0 from by rw [hd1]; rfl)
  have HE := hid (show X = Z from by have := HR.out; rwa [if_pos hd1] at this)
  clear hd1
  have lt2_P : w.heap.size < W3.heap.size := (Array.getElem?_eq_some_iff.1 BP.out).1
  have lt3_a : w2.heap.size < W3.heap.size := (Array.getElem?_eq_some_iff.1 Ba.out).1
  have lt4_d : w2.heap.size + 1 < W3.heap.size := (Array.getElem?_eq_some_iff.1 Bd.out).1
  obtain ⟨cd0, cd1, fd0, fd1⟩ := res_facts Bd.out
  have HL4 := hid (fun (w' : World) (hb : Below W3.heap.size W3 w') => (⟨hb, keepc hb cd0, keepc hb cd1⟩ : Below W3.heap.size W3 w' ∧ w'.cell? ⟨w2.heap.size + 1, 0, none⟩ = some (.bool n2_2) ∧ w'.cell? ⟨w2.heap.size + 1, 1, none⟩ = some (.slice a2_2 k2_2 c2_2)))
  have HI4 := hid (fun (w' : World) (hs : Below W3.heap.size W3 w' ∧ w'.cell? ⟨w2.heap.size + 1, 0, none⟩ = some (.bool n2_2) ∧ w'.cell? ⟨w2.heap.size + 1, 1, none⟩ = some (.slice a2_2 k2_2 c2_2)) => hs.1)
  have HS4 := hid (Below.refl W3.heap.size W3)
  have HC4 := hid (Below.drew (Below.refl W3.heap.size W3))
  go_region_held3 (fun w' => Below W3.heap.size W3 w' ∧ w'.cell? ⟨w2.heap.size + 1, 0, none⟩ = some (.bool n2_2) ∧ w'.cell? ⟨w2.heap.size + 1, 1, none⟩ = some (.slice a2_2 k2_2 c2_2))
   (first | exact HL4.out _ (Below.drew HS4.out) | exact HL4.out _ (bt (HI4.out _ (by assumption)) (by assumption)))
   (first | (go_at_call 80; (with_reducible refine (of_any (n := 1) (by decide) (by decide)).mono ?_); rintro e w5 ⟨n_5, a_5, k_5, c_5, rfl, hu_5, hbr5⟩; have HONE := hid hu_5; clear hu_5) | (go_at_call 73; (with_reducible refine (cmp_any (HD.out.below (HI4.out _ (by assumption))) HONE.out).mono ?_); rintro e w6 ⟨rfl, hbr6⟩; rw [HS.out]))
  clear cd0 cd1 fd0 fd1
  have hbR := (bt (bt HC4.out hbr5) hbr6)
  replace HT := hid (HT.out.below hbR)
  replace HA := hid (HA.out.below hbR)
  replace HD := hid (HD.out.below hbR)
  replace HONE := hid (HONE.out.below hbr6)
  replace HB := hid (bt HB.out hbR)
  replace BP := hid (blk_next BP.out hbR)
  replace Ba := hid (blk_next Ba.out hbR)
  replace Bd := hid (blk_next Bd.out hbR)
  clear hbR hbr5 hbr6
  have lt5_P : w.heap.size < w6.heap.size := (Array.getElem?_eq_some_iff.1 BP.out).1
  have lt6_a : w2.heap.size < w6.heap.size := (Array.getElem?_eq_some_iff.1 Ba.out).1
  have lt7_d : w2.heap.size + 1 < w6.heap.size := (Array.getElem?_eq_some_iff.1 Bd.out).1
  obtain ⟨ca0, ca1, fa0, fa1⟩ := res_facts Ba.out
  go_wp2_with fail
  clear ca0 ca1 fa0 fa1
  (with_reducible refine (text_any HA.out HT.out hq1 hN).mono ?_)
  rintro e w7 ⟨rfl, hb⟩
  replace HB := hid (bt HB.out hb)
  replace HT := hid (HT.out.below hb)
  replace HA := hid (HA.out.below hb)
  replace HD := hid (HD.out.below hb)
  replace HONE := hid (HONE.out.below hb)
  replace BP := hid (blk_next BP.out hb)
  replace Ba := hid (blk_next Ba.out hb)
  replace Bd := hid (blk_next Bd.out hb)
  clear hb
  rw [HX.out]
  go_wp2
  go_ret
  exact ⟨by rw [← HE.out]; rfl, HB.out⟩
 ·obtain ⟨sg, hsg⟩ : ∃ sg, ((q.den : Int) - 1).sign = sg := ⟨_, rfl⟩
  have hsg0 : (sg == 0) = false := by
     rw [beq_eq_false_iff_ne, ← hsg]
     intro e
     have := Int.sign_eq_zero_iff_zero.1 e
     omega
  have HS := hid hsg
  clear hsg
  have HE := hid (show X ++ (⟨#[47]⟩ : ByteArray) ++ Y = Z from by have := HR.out; rwa [if_neg hd1] at this)
  clear hd1
  have lt2_P : w.heap.size < W3.heap.size := (Array.getElem?_eq_some_iff.1 BP.out).1
  have lt3_a : w2.heap.size < W3.heap.size := (Array.getElem?_eq_some_iff.1 Ba.out).1
  have lt4_d : w2.heap.size + 1 < W3.heap.size := (Array.getElem?_eq_some_iff.1 Bd.out).1
  obtain ⟨cd0, cd1, fd0, fd1⟩ := res_facts Bd.out
  have HL4 := hid (fun (w' : World) (hb : Below W3.heap.size W3 w') => (⟨hb, keepc hb cd0, keepc hb cd1⟩ : Below W3.heap.size W3 w' ∧ w'.cell? ⟨w2.heap.size + 1, 0, none⟩ = some (.bool n2_2) ∧ w'.cell? ⟨w2.heap.size + 1, 1, none⟩ = some (.slice a2_2 k2_2 c2_2)))
  have HI4 := hid (fun (w' : World) (hs : Below W3.heap.size W3 w' ∧ w'.cell? ⟨w2.heap.size + 1, 0, none⟩ = some (.bool n2_2) ∧ w'.cell? ⟨w2.heap.size + 1, 1, none⟩ = some (.slice a2_2 k2_2 c2_2)) => hs.1)
  have HS4 := hid (Below.refl W3.heap.size W3)
  have HC4 := hid (Below.drew (Below.refl W3.heap.size W3))
  go_region_held3 (fun w' => Below W3.heap.size W3 w' ∧ w'.cell? ⟨w2.heap.size + 1, 0, none⟩ = some (.bool n2_2) ∧ w'.cell? ⟨w2.heap.size + 1, 1, none⟩ = some (.slice a2_2 k2_2 c2_2))
   (first | exact HL4.out _ (Below.drew HS4.out) | exact HL4.out _ (bt (HI4.out _ (by assumption)) (by assumption)))
   (first | (go_at_call 80; (with_reducible refine (of_any (n := 1) (by decide) (by decide)).mono ?_); rintro e w5 ⟨n_5, a_5, k_5, c_5, rfl, hu_5, hbr5⟩; have HONE := hid hu_5; clear hu_5) | (go_at_call 73; (with_reducible refine (cmp_any (HD.out.below (HI4.out _ (by assumption))) HONE.out).mono ?_); rintro e w6 ⟨rfl, hbr6⟩; rw [HS.out]))
  clear cd0 cd1 fd0 fd1
  have hbR := (bt (bt HC4.out hbr5) hbr6)
  replace HT := hid (HT.out.below hbR)
  replace HA := hid (HA.out.below hbR)
  replace HD := hid (HD.out.below hbR)
  replace HONE := hid (HONE.out.below hbr6)
  replace HB := hid (bt HB.out hbR)
  replace BP := hid (blk_next BP.out hbR)
  replace Ba := hid (blk_next Ba.out hbR)
  replace Bd := hid (blk_next Bd.out hbR)
  clear hbR hbr5 hbr6
  have z1 := run_string_add_sum (P := Tryz.prog) (a := X) (b := (⟨#[47]⟩ : ByteArray)) (h := by show X.size + 1 ≤ _; omega)
  have z2 := run_string_add_sum (P := Tryz.prog) (a := X ++ (⟨#[47]⟩ : ByteArray)) (b := Y) (h := by rw [ByteArray.size_append]; show X.size + 1 + Y.size ≤ _; omega)
  have lt5_P : w.heap.size < w6.heap.size := (Array.getElem?_eq_some_iff.1 BP.out).1
  have lt6_a : w2.heap.size < w6.heap.size := (Array.getElem?_eq_some_iff.1 Ba.out).1
  have lt7_d : w2.heap.size + 1 < w6.heap.size := (Array.getElem?_eq_some_iff.1 Bd.out).1
  obtain ⟨ca0, ca1, fa0, fa1⟩ := res_facts Ba.out
  obtain ⟨cd0, cd1, fd0, fd1⟩ := res_facts Bd.out
  go_wp2_with fail
  clear ca0 ca1 fa0 fa1 cd0 cd1 fd0 fd1
  obtain ⟨ca0, ca1, fa0, fa1⟩ := res_facts Ba.out
  obtain ⟨cd0, cd1, fd0, fd1⟩ := res_facts Bd.out
  have HL7 := hid (fun (w' : World) (hb : Below w6.heap.size w6 w') => (⟨hb, keepc hb ca0, keepc hb ca1, keepc hb cd0, keepc hb cd1⟩ : Below w6.heap.size w6 w' ∧ w'.cell? ⟨w2.heap.size, 0, none⟩ = some (.bool n_2) ∧ w'.cell? ⟨w2.heap.size, 1, none⟩ = some (.slice a_2 k_2 c_2) ∧ w'.cell? ⟨w2.heap.size + 1, 0, none⟩ = some (.bool n2_2) ∧ w'.cell? ⟨w2.heap.size + 1, 1, none⟩ = some (.slice a2_2 k2_2 c2_2)))
  have HI7 := hid (fun (w' : World) (hs : Below w6.heap.size w6 w' ∧ w'.cell? ⟨w2.heap.size, 0, none⟩ = some (.bool n_2) ∧ w'.cell? ⟨w2.heap.size, 1, none⟩ = some (.slice a_2 k_2 c_2) ∧ w'.cell? ⟨w2.heap.size + 1, 0, none⟩ = some (.bool n2_2) ∧ w'.cell? ⟨w2.heap.size + 1, 1, none⟩ = some (.slice a2_2 k2_2 c2_2)) => hs.1)
  have HS7 := hid (Below.refl w6.heap.size w6)
  have HC7 := hid (Below.drew (Below.refl w6.heap.size w6))
  go_region_held3 (fun w' => Below w6.heap.size w6 w' ∧ w'.cell? ⟨w2.heap.size, 0, none⟩ = some (.bool n_2) ∧ w'.cell? ⟨w2.heap.size, 1, none⟩ = some (.slice a_2 k_2 c_2) ∧ w'.cell? ⟨w2.heap.size + 1, 0, none⟩ = some (.bool n2_2) ∧ w'.cell? ⟨w2.heap.size + 1, 1, none⟩ = some (.slice a2_2 k2_2 c2_2))
   (first | exact HL7.out _ (Below.drew HS7.out) | exact HL7.out _ (bt (HI7.out _ (by assumption)) (by assumption)))
   (first | (go_at_call 110; (with_reducible refine (text_any (HA.out.below (HI7.out _ (by assumption))) (HT.out.below (HI7.out _ (by assumption))) hq1 hN).mono ?_); rintro e w8 ⟨rfl, hbr8⟩; rw [HX.out]) | (go_at_call 110; (with_reducible refine (text_any (HD.out.below (HI7.out _ (by assumption))) (HT.out.below (HI7.out _ (by assumption))) hq2 hN).mono ?_); rintro e w9 ⟨rfl, hbr9⟩; rw [HY.out]))
  clear ca0 ca1 fa0 fa1 cd0 cd1 fd0 fd1
  have hbR := (bt (bt HC7.out hbr8) hbr9)
  replace HT := hid (HT.out.below hbR)
  replace HA := hid (HA.out.below hbR)
  replace HD := hid (HD.out.below hbR)
  replace HONE := hid (HONE.out.below hbR)
  replace HB := hid (bt HB.out hbR)
  replace BP := hid (blk_next BP.out hbR)
  replace Ba := hid (blk_next Ba.out hbR)
  replace Bd := hid (blk_next Bd.out hbR)
  clear hbR hbr8 hbr9
  go_wp2
  go_ret
  exact ⟨by rw [← HE.out]; rfl, HB.out⟩
end Go.Proofs.YteionhenpehogaaGreatDoor
