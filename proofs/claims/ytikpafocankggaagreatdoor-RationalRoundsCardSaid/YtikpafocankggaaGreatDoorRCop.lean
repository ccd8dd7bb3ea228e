/- The reference's coprime. -/
import Derived.Test.YtikpafocankggaaGreatDoorRLong
import Derived.Test.YtikpafocankggaaGreatDoorRRatT
namespace Go.Proofs.YtikpafocankggaaGreatDoor
open Go.RowKit Tally Go.Lib
theorem gcd_dg {N : Nat} {x y : Int} (hx : Dg N x) (hy : Dg N y) : Dg N ((x.gcd y : Nat) : Int) := by
 by_cases h : x = 0
 ·subst h
  refine hy.le ?_
  simp
 ·refine hx.le ?_
  have := Nat.le_of_dvd (by omega) (Int.natAbs_dvd_natAbs.2 (Int.gcd_dvd_left (a := x) (b := y)))
  exact this
set_option maxHeartbeats 2000000 in
set_option maxRecDepth 100000 in
theorem rcoprime_any {w : World} (s t : ByteArray) (hs : s.size ≤ 5000) (ht : t.size ≤ 5000) (hd : ∀ c ∈ bodyOf s.data.toList, isDigit c) (he : ∀ c ∈ bodyOf t.data.toList, isDigit c) (x : Bool) (hx : x = decide (t.data.toList ≠ [49] ∧ (lval s.data.toList).gcd (lval t.data.toList) = 1)) :
  Calls Tryz.prog 59 #[.string s, .string t] w (fun e w' => e = .returned (.bool x) ∧ Below w.heap.size w w') := by
 have D1 := all_dg (N := 5000) hd (by have := body_length s.data.toList; rw [bs_len] at this; omega)
 have D2 := all_dg (N := 5000) he (by have := body_length t.data.toList; rw [bs_len] at this; omega)
 have HD1 := hid hd
 have HD2 := hid he
 rw [gcd_abs] at hx
 obtain ⟨y, hy⟩ : ∃ y, (decVal (bodyOf s.data.toList)).gcd (decVal (bodyOf t.data.toList)) = y := ⟨_, rfl⟩
 rw [hy] at hx
 have HY := hid hy
 have HX := hid hx
 have DY := gcd_dg D1 D2
 rw [Int.gcd_natCast_natCast, hy] at DY
 clear hd he hy hx
 by_cases h1 : t.data.toList = [49]
 ·have t1 : (t.toList == [49]) = true := by rw [Lib.toList_data, h1]; rfl
  have t2 : (!(t.toList == [49])) = false := by rw [t1]; rfl
  obtain rfl : x = false := by rw [HX.out]; simp [h1]
  clear h1
  go_enter Tryz.func59, Tryz.ntmps59
  go_wp2
  go_ret
  exact ⟨rfl, Below.refl _ _⟩
 ·have t1 : (t.toList == [49]) = false := by rw [Lib.toList_data, beq_eq_false_iff_ne]; exact h1
  have HN := hid h1
  clear h1
  go_enter Tryz.func59, Tryz.ntmps59
  go_wp2_with fail
  have HB := hid (Below.refl w.heap.size w)
  (with_reducible refine (rlong_any s hs HD1.out).mono ?_)
  rintro e w1 ⟨n_1, a_1, k_1, c_1, rfl, hu_1, hb⟩
  replace HB := hid (bt HB.out hb)
  have HA := hid hu_1
  clear hu_1
  clear hb
  go_wp2_with fail
  (with_reducible refine (rlong_any t ht HD2.out).mono ?_)
  rintro e w2 ⟨n_2, a_2, k_2, c_2, rfl, hu_2, hb⟩
  replace HB := hid (bt HB.out hb)
  replace HA := hid (HA.out.below hb)
  have HB1 := hid hu_2
  clear hu_2
  clear hb
  go_wp2_with fail
  (with_reducible refine (rgcd_any HA.out HB1.out D1 D2 (by omega)).mono ?_)
  rintro e w3 ⟨n_3, a_3, k_3, c_3, rfl, hu_3, hb⟩
  replace HB := hid (bt HB.out hb)
  replace HA := hid (HA.out.below hb)
  replace HB1 := hid (HB1.out.below hb)
  have HG := hid hu_3
  clear hu_3
  clear hb
  replace HG := hid (HG.out.as (show _ = ((y : Nat) : Int) from by rw [Int.gcd_natCast_natCast, HY.out]))
  go_wp2_with fail
  (with_reducible refine (rtext_any HG.out DY (by omega)).mono ?_)
  rintro e w4 ⟨rfl, hb⟩
  replace HB := hid (bt HB.out hb)
  replace HA := hid (HA.out.below hb)
  replace HB1 := hid (HB1.out.below hb)
  replace HG := hid (HG.out.below hb)
  clear hb
  by_cases hy1 : y = 1
  ·rw [show (⟨(itoa ((y : Nat) : Int)).toArray⟩ : ByteArray) = ⟨#[49]⟩ from (itoa_one y).2 hy1]
   obtain rfl : x = true := by rw [HX.out]; simp [HN.out, hy1]
   go_wp2
   go_ret
   exact ⟨rfl, HB.out⟩
  ·obtain ⟨Z, hZ⟩ : ∃ Z : ByteArray, (⟨(itoa ((y : Nat) : Int)).toArray⟩ : ByteArray) = Z := ⟨_, rfl⟩
   rw [hZ]
   have t3 : (Z.toList == [49]) = false := by
    rw [beq_eq_false_iff_ne, Lib.toList_data, ← hZ]
    intro e
    refine hy1 ((itoa_one y).1 ?_)
    have e2 : itoa ((y : Nat) : Int) = [49] := by simpa using e
    rw [e2]
   obtain rfl : x = false := by rw [HX.out]; simp [hy1]
   clear hZ hy1
   go_wp2
   go_ret
   exact ⟨rfl, HB.out⟩
end Go.Proofs.YtikpafocankggaaGreatDoor
