/- The law IntegerDivides answers true. -/
import Derived.Test.YtihjaakkpnjolaaDoorEqual
import Derived.Test.YtihjaakkpnjolaaDoorRat
import Derived.Test.YtihjaakkpnjolaaDoorRParse
import Derived.Test.YtihjaakkpnjolaaDoorAbs
namespace Go.Proofs.YtihjaakkpnjolaaDoor
open Go.RowKit Tally

set_option maxHeartbeats 8000000 in
set_option maxRecDepth 100000 in
theorem lawIntegerDivides {w : World} (s : ByteArray) (t : ByteArray) (hs_s : s.size ≤ 9223372036854775807) (hs_t : t.size ≤ 9223372036854775807) (htab : Tab w) :
    Calls Tryd.prog 10 #[.string s, .string t] w (True1 w) := by
  have HT := Lib.hid htab
  clear htab
  go_enter Tryd.func10, Tryd.ntmps10
  go_wp2_with fail
  (with_reducible refine (awake_any HT.out).mono ?_)
  rintro e w1 ⟨rfl, hb⟩
  have HB := Lib.hid hb
  replace HT := Lib.hid (HT.out.below hb)
  clear hb
  go_wp2_with fail
  (with_reducible refine (both_any s t hs_s hs_t).mono ?_)
  rintro e w2 ⟨n0_2, a0_2, k0_2, c0_2, n1_2, a1_2, k1_2, c1_2, n2_2, a2_2, k2_2, c2_2, n3_2, a3_2, k3_2, c3_2, ok2, rfl, hok2, hb⟩
  have HOK2 := Lib.hid hok2
  clear hok2
  replace HB := Lib.hid (bt HB.out hb)
  replace HT := Lib.hid (HT.out.below hb)
  clear hb
  cases ok2
  · go_wp2
    go_ret
    exact ⟨rfl, bt HB.out (allocs_below4 _ _ _ _ _)⟩
  · obtain ⟨s6, t6, cs, ct, hx, hy, _, _⟩ := HOK2.out (by simp)
    have HX := Lib.hid hx
    have HY := Lib.hid hy
    have dgx := dg_of s6
    have dgy := dg_of t6
    clear HOK2 cs ct hx hy
    generalize pval s.data.toList = x at *
    generalize pval t.data.toList = y at *
    go_wp2_with fail
    obtain ⟨W3, hW, hs, hb, b0, b1, b2, b3⟩ := alloc4 w2 (.cells #[.bool n0_2, .slice a0_2 k0_2 c0_2] 25) (.cells #[.bool n1_2, .slice a1_2 k1_2 c1_2] 25) (.cells #[.bool n2_2, .slice a2_2 k2_2 c2_2] 28) (.cells #[.bool n3_2, .slice a3_2 k3_2 c3_2] 28)
    rw [← hW]
    replace HB := Lib.hid (bt HB.out hb)
    replace HT := Lib.hid (HT.out.below hb)
    replace HX := Lib.hid (HX.out.below hb)
    replace HY := Lib.hid (HY.out.below hb)
    have Bx := Lib.hid b0
    have By := Lib.hid b1
    have Ba := Lib.hid b2
    have Bb := Lib.hid b3
    clear hW hs hb b0 b1 b2 b3
    by_cases hy0 : y = 0
    · subst hy0
      (with_reducible refine (quorem_zero HX.out HY.out).mono ?_)
      rintro e w4 ⟨n_4, a_4, k_4, c_4, n2_4, a2_4, k2_4, c2_4, rfl, hu_4, hv_4, hb⟩
      replace HB := Lib.hid (bt HB.out hb)
      replace HT := Lib.hid (HT.out.below hb)
      replace HX := Lib.hid (HX.out.below hb)
      replace HY := Lib.hid (HY.out.below hb)
      replace Bx := Lib.hid (blk_next Bx.out hb)
      replace By := Lib.hid (blk_next By.out hb)
      have HQ := Lib.hid hu_4
      have HM := Lib.hid hv_4
      clear hu_4 hv_4
      clear hb
      have lt1_x : w2.heap.size < w4.heap.size := (Array.getElem?_eq_some_iff.1 Bx.out).1
      have lt2_y : w2.heap.size + 1 < w4.heap.size := (Array.getElem?_eq_some_iff.1 By.out).1
      obtain ⟨cx0, cx1, fx0, fx1⟩ := res_facts Bx.out
      obtain ⟨cy0, cy1, fy0, fy1⟩ := res_facts By.out
      go_wp2_with fail
      clear cx0 cx1 fx0 fx1 cy0 cy1 fy0 fy1
      obtain ⟨W5, hW, hs, hb, b0, b1⟩ := alloc2 w4 (.cells #[.bool n_4, .slice a_4 k_4 c_4] 25) (.cells #[.bool n2_4, .slice a2_4 k2_4 c2_4] 25)
      rw [← hW]
      replace HB := Lib.hid (bt HB.out hb)
      replace HT := Lib.hid (HT.out.below hb)
      replace HX := Lib.hid (HX.out.below hb)
      replace HY := Lib.hid (HY.out.below hb)
      replace HQ := Lib.hid (HQ.out.below hb)
      replace HM := Lib.hid (HM.out.below hb)
      replace Bx := Lib.hid (blk_next Bx.out hb)
      replace By := Lib.hid (blk_next By.out hb)
      have Bq := Lib.hid b0
      have Br := Lib.hid b1
      clear hW hs hb b0 b1
      (with_reducible refine (sign_any HY.out).mono ?_)
      rintro e w6 ⟨rfl, hb⟩
      replace HB := Lib.hid (bt HB.out hb)
      replace HT := Lib.hid (HT.out.below hb)
      replace HX := Lib.hid (HX.out.below hb)
      replace HY := Lib.hid (HY.out.below hb)
      replace HQ := Lib.hid (HQ.out.below hb)
      replace HM := Lib.hid (HM.out.below hb)
      replace Bx := Lib.hid (blk_next Bx.out hb)
      replace By := Lib.hid (blk_next By.out hb)
      replace Bq := Lib.hid (blk_next Bq.out hb)
      replace Br := Lib.hid (blk_next Br.out hb)
      clear hb
      rw [show Int.sign 0 = 0 from rfl]
      have lt3_x : w2.heap.size < w6.heap.size := (Array.getElem?_eq_some_iff.1 Bx.out).1
      have lt4_y : w2.heap.size + 1 < w6.heap.size := (Array.getElem?_eq_some_iff.1 By.out).1
      have lt5_q : w4.heap.size < w6.heap.size := (Array.getElem?_eq_some_iff.1 Bq.out).1
      have lt6_r : w4.heap.size + 1 < w6.heap.size := (Array.getElem?_eq_some_iff.1 Br.out).1
      obtain ⟨cq0, cq1, fq0, fq1⟩ := res_facts Bq.out
      obtain ⟨cr0, cr1, fr0, fr1⟩ := res_facts Br.out
      go_wp2_with fail
      clear cq0 cq1 fq0 fq1 cr0 cr1 fr0 fr1
      (with_reducible refine (sign_any HQ.out).mono ?_)
      rintro e w7 ⟨rfl, hb⟩
      replace HB := Lib.hid (bt HB.out hb)
      replace HT := Lib.hid (HT.out.below hb)
      replace HX := Lib.hid (HX.out.below hb)
      replace HY := Lib.hid (HY.out.below hb)
      replace HQ := Lib.hid (HQ.out.below hb)
      replace HM := Lib.hid (HM.out.below hb)
      replace Bx := Lib.hid (blk_next Bx.out hb)
      replace By := Lib.hid (blk_next By.out hb)
      replace Bq := Lib.hid (blk_next Bq.out hb)
      replace Br := Lib.hid (blk_next Br.out hb)
      clear hb
      rw [show Int.sign 0 = 0 from rfl]
      have lt7_x : w2.heap.size < w7.heap.size := (Array.getElem?_eq_some_iff.1 Bx.out).1
      have lt8_y : w2.heap.size + 1 < w7.heap.size := (Array.getElem?_eq_some_iff.1 By.out).1
      have lt9_q : w4.heap.size < w7.heap.size := (Array.getElem?_eq_some_iff.1 Bq.out).1
      have lt10_r : w4.heap.size + 1 < w7.heap.size := (Array.getElem?_eq_some_iff.1 Br.out).1
      obtain ⟨cq0, cq1, fq0, fq1⟩ := res_facts Bq.out
      obtain ⟨cr0, cr1, fr0, fr1⟩ := res_facts Br.out
      go_wp2_with fail
      clear cq0 cq1 fq0 fq1 cr0 cr1 fr0 fr1
      (with_reducible refine (sign_any HM.out).mono ?_)
      rintro e w8 ⟨rfl, hb⟩
      replace HB := Lib.hid (bt HB.out hb)
      replace HT := Lib.hid (HT.out.below hb)
      replace HX := Lib.hid (HX.out.below hb)
      replace HY := Lib.hid (HY.out.below hb)
      replace HQ := Lib.hid (HQ.out.below hb)
      replace HM := Lib.hid (HM.out.below hb)
      replace Bx := Lib.hid (blk_next Bx.out hb)
      replace By := Lib.hid (blk_next By.out hb)
      replace Bq := Lib.hid (blk_next Bq.out hb)
      replace Br := Lib.hid (blk_next Br.out hb)
      clear hb
      rw [show Int.sign 0 = 0 from rfl]
      have lt11_x : w2.heap.size < w8.heap.size := (Array.getElem?_eq_some_iff.1 Bx.out).1
      have lt12_y : w2.heap.size + 1 < w8.heap.size := (Array.getElem?_eq_some_iff.1 By.out).1
      have lt13_q : w4.heap.size < w8.heap.size := (Array.getElem?_eq_some_iff.1 Bq.out).1
      have lt14_r : w4.heap.size + 1 < w8.heap.size := (Array.getElem?_eq_some_iff.1 Br.out).1
      obtain ⟨cq0, cq1, fq0, fq1⟩ := res_facts Bq.out
      obtain ⟨cr0, cr1, fr0, fr1⟩ := res_facts Br.out
      go_wp2
      go_ret
      exact ⟨rfl, HB.out⟩
    · have dgq : Dg 600 (x.tdiv y) := dgx.le (Int.natAbs_tdiv_le_natAbs _ _)
      have dgr : Dg 600 (x.tmod y) := dgy.le (Nat.le_of_lt (divides_lt hy0))
      have dgp : Dg 1200 (x.tdiv y * y) := (Dg.mul dgq dgy).mono (by omega)
      have HEQ := Lib.hid (divides_eq x y)
      have HLT := Lib.hid (show (((x.tmod y).natAbs : Int) - (y.natAbs : Int)).sign = -1 from Int.sign_eq_neg_one_of_neg (by have := divides_lt (x := x) hy0; omega))
      have HSG := Lib.hid (sign_tmod (x := x) (y := y))
      have hys : (y.sign == 0) = false := by
              rw [beq_eq_false_iff_ne]
              intro e
              exact hy0 (Int.sign_eq_zero_iff_zero.1 e)
      have HY0 := Lib.hid hy0
      clear hy0
      (with_reducible refine (quorem_any HX.out HY.out HY0.out dgx (by omega)).mono ?_)
      rintro e w4 ⟨n_4, a_4, k_4, c_4, n2_4, a2_4, k2_4, c2_4, rfl, hu_4, hv_4, hb⟩
      replace HB := Lib.hid (bt HB.out hb)
      replace HT := Lib.hid (HT.out.below hb)
      replace HX := Lib.hid (HX.out.below hb)
      replace HY := Lib.hid (HY.out.below hb)
      replace Bx := Lib.hid (blk_next Bx.out hb)
      replace By := Lib.hid (blk_next By.out hb)
      have HQ := Lib.hid hu_4
      have HM := Lib.hid hv_4
      clear hu_4 hv_4
      clear hb
      have lt1_x : w2.heap.size < w4.heap.size := (Array.getElem?_eq_some_iff.1 Bx.out).1
      have lt2_y : w2.heap.size + 1 < w4.heap.size := (Array.getElem?_eq_some_iff.1 By.out).1
      obtain ⟨cx0, cx1, fx0, fx1⟩ := res_facts Bx.out
      obtain ⟨cy0, cy1, fy0, fy1⟩ := res_facts By.out
      go_wp2_with fail
      clear cx0 cx1 fx0 fx1 cy0 cy1 fy0 fy1
      obtain ⟨W5, hW, hs, hb, b0, b1⟩ := alloc2 w4 (.cells #[.bool n_4, .slice a_4 k_4 c_4] 25) (.cells #[.bool n2_4, .slice a2_4 k2_4 c2_4] 25)
      rw [← hW]
      replace HB := Lib.hid (bt HB.out hb)
      replace HT := Lib.hid (HT.out.below hb)
      replace HX := Lib.hid (HX.out.below hb)
      replace HY := Lib.hid (HY.out.below hb)
      replace HQ := Lib.hid (HQ.out.below hb)
      replace HM := Lib.hid (HM.out.below hb)
      replace Bx := Lib.hid (blk_next Bx.out hb)
      replace By := Lib.hid (blk_next By.out hb)
      have Bq := Lib.hid b0
      have Br := Lib.hid b1
      clear hW hs hb b0 b1
      (with_reducible refine (sign_any HY.out).mono ?_)
      rintro e w6 ⟨rfl, hb⟩
      replace HB := Lib.hid (bt HB.out hb)
      replace HT := Lib.hid (HT.out.below hb)
      replace HX := Lib.hid (HX.out.below hb)
      replace HY := Lib.hid (HY.out.below hb)
      replace HQ := Lib.hid (HQ.out.below hb)
      replace HM := Lib.hid (HM.out.below hb)
      replace Bx := Lib.hid (blk_next Bx.out hb)
      replace By := Lib.hid (blk_next By.out hb)
      replace Bq := Lib.hid (blk_next Bq.out hb)
      replace Br := Lib.hid (blk_next Br.out hb)
      clear hb
      have lt3_x : w2.heap.size < w6.heap.size := (Array.getElem?_eq_some_iff.1 Bx.out).1
      have lt4_y : w2.heap.size + 1 < w6.heap.size := (Array.getElem?_eq_some_iff.1 By.out).1
      have lt5_q : w4.heap.size < w6.heap.size := (Array.getElem?_eq_some_iff.1 Bq.out).1
      have lt6_r : w4.heap.size + 1 < w6.heap.size := (Array.getElem?_eq_some_iff.1 Br.out).1
      obtain ⟨cx0, cx1, fx0, fx1⟩ := res_facts Bx.out
      obtain ⟨cy0, cy1, fy0, fy1⟩ := res_facts By.out
      obtain ⟨cq0, cq1, fq0, fq1⟩ := res_facts Bq.out
      obtain ⟨cr0, cr1, fr0, fr1⟩ := res_facts Br.out
      go_wp2_with fail
      obtain ⟨m, hm⟩ : ∃ m, x.tmod y = m := ⟨_, rfl⟩
      rw [hm] at HM dgr HEQ HLT HSG
      clear hm
      by_cases hm0 : m = 0
      · subst hm0
        clear cx0 cx1 fx0 fx1 cy0 cy1 fy0 fy1 cq0 cq1 fq0 fq1 cr0 cr1 fr0 fr1
        obtain ⟨cx0, cx1, fx0, fx1⟩ := res_facts Bx.out
        obtain ⟨cy0, cy1, fy0, fy1⟩ := res_facts By.out
        obtain ⟨cq0, cq1, fq0, fq1⟩ := res_facts Bq.out
        obtain ⟨cr0, cr1, fr0, fr1⟩ := res_facts Br.out
        have HL7 := Lib.hid (fun (w' : World) (hb : Below w6.heap.size w6 w') => (⟨hb, keepc hb cx0, keepc hb cx1, keepc hb cy0, keepc hb cy1, keepc hb cq0, keepc hb cq1, keepc hb cr0, keepc hb cr1⟩ : Below w6.heap.size w6 w' ∧ w'.cell? ⟨w2.heap.size, 0, none⟩ = some (.bool n0_2) ∧ w'.cell? ⟨w2.heap.size, 1, none⟩ = some (.slice a0_2 k0_2 c0_2) ∧ w'.cell? ⟨w2.heap.size + 1, 0, none⟩ = some (.bool n1_2) ∧ w'.cell? ⟨w2.heap.size + 1, 1, none⟩ = some (.slice a1_2 k1_2 c1_2) ∧ w'.cell? ⟨w4.heap.size, 0, none⟩ = some (.bool n_4) ∧ w'.cell? ⟨w4.heap.size, 1, none⟩ = some (.slice a_4 k_4 c_4) ∧ w'.cell? ⟨w4.heap.size + 1, 0, none⟩ = some (.bool n2_4) ∧ w'.cell? ⟨w4.heap.size + 1, 1, none⟩ = some (.slice a2_4 k2_4 c2_4)))
        have HI7 := Lib.hid (fun (w' : World) (hs : Below w6.heap.size w6 w' ∧ w'.cell? ⟨w2.heap.size, 0, none⟩ = some (.bool n0_2) ∧ w'.cell? ⟨w2.heap.size, 1, none⟩ = some (.slice a0_2 k0_2 c0_2) ∧ w'.cell? ⟨w2.heap.size + 1, 0, none⟩ = some (.bool n1_2) ∧ w'.cell? ⟨w2.heap.size + 1, 1, none⟩ = some (.slice a1_2 k1_2 c1_2) ∧ w'.cell? ⟨w4.heap.size, 0, none⟩ = some (.bool n_4) ∧ w'.cell? ⟨w4.heap.size, 1, none⟩ = some (.slice a_4 k_4 c_4) ∧ w'.cell? ⟨w4.heap.size + 1, 0, none⟩ = some (.bool n2_4) ∧ w'.cell? ⟨w4.heap.size + 1, 1, none⟩ = some (.slice a2_4 k2_4 c2_4)) => hs.1)
        have HS7 := Lib.hid (Below.refl w6.heap.size w6)
        have HC7 := Lib.hid (Below.drew (Below.refl w6.heap.size w6))
        refine wp_region_held_drew (S := fun w' => Below w6.heap.size w6 w' ∧ w'.cell? ⟨w2.heap.size, 0, none⟩ = some (.bool n0_2) ∧ w'.cell? ⟨w2.heap.size, 1, none⟩ = some (.slice a0_2 k0_2 c0_2) ∧ w'.cell? ⟨w2.heap.size + 1, 0, none⟩ = some (.bool n1_2) ∧ w'.cell? ⟨w2.heap.size + 1, 1, none⟩ = some (.slice a1_2 k1_2 c1_2) ∧ w'.cell? ⟨w4.heap.size, 0, none⟩ = some (.bool n_4) ∧ w'.cell? ⟨w4.heap.size, 1, none⟩ = some (.slice a_4 k_4 c_4) ∧ w'.cell? ⟨w4.heap.size + 1, 0, none⟩ = some (.bool n2_4) ∧ w'.cell? ⟨w4.heap.size + 1, 1, none⟩ = some (.slice a2_4 k2_4 c2_4)) (by kernel_rfl) ?_ (fun hHeld => ?_)
        · first | exact HL7.out _ (Below.drew HS7.out) | exact HL7.out _ (bt (HI7.out _ (by assumption)) (by assumption))
        (try dsimp only at hHeld)
        refine wpAnyH_take (i := 0) (oi := ({ dst := some 48, op := Op.move (Operand.tmp 12), type := 35, pos := "law.go:152", after := #[], guard := none } : Oper)) (v := ?x1_v0) rfl (by kernel_rfl) (by kernel_rfl) (by kernel_rfl) (fun _ _ _ h => h) (Or.inl ⟨by rfl, ?x1_h0⟩) hHeld ?x1_r0
        case x1_h0 => (intro w hSw; (try dsimp only at hSw); go_simp; all_goals with_reducible rfl)
        (try simp only [Act.put, List.setIfInBounds_toArray, List.set_cons_zero, List.set_cons_succ])
        refine wpAnyH_take (i := 1) (oi := ({ dst := some 49, op := Op.binOp BinOp.eql 35 (Operand.tmp 48) (Operand.const (Value.int IntKind.i64 0)) 35, type := 4, pos := "law.go:152", after := #[{ on := 0, ground := Ground.data }], guard := none } : Oper)) (v := ?x1_v1) rfl (by kernel_rfl) (by kernel_rfl) (by kernel_rfl) (fun _ _ _ h => h) (Or.inl ⟨by rfl, ?x1_h1⟩) hHeld ?x1_r1
        case x1_h1 => (intro w hSw; (try dsimp only at hSw); go_simp; all_goals with_reducible rfl)
        (try simp only [Act.put, List.setIfInBounds_toArray, List.set_cons_zero, List.set_cons_succ])
        refine wpAnyH_take (i := 2) (oi := ({ dst := some 50, op := Op.move (Operand.tmp 49), type := 4, pos := "law.go:152", after := #[{ on := 1, ground := Ground.data }], guard := none } : Oper)) (v := ?x1_v2) rfl (by kernel_rfl) (by kernel_rfl) (by kernel_rfl) (fun _ _ _ h => h) (Or.inl ⟨by rfl, ?x1_h2⟩) hHeld ?x1_r2
        case x1_h2 => (intro w hSw; (try dsimp only at hSw); go_simp; all_goals with_reducible rfl)
        (try simp only [Act.put, List.setIfInBounds_toArray, List.set_cons_zero, List.set_cons_succ])
        refine wpAnyH_take (i := 3) (oi := ({ dst := some 51, op := Op.load 25 (Operand.tmp 5), type := 25, pos := "law.go:152", after := #[{ on := 2, ground := Ground.guard }], guard := some (2, true) } : Oper)) (v := ?x1_v3) rfl (by kernel_rfl) (by kernel_rfl) (by kernel_rfl) (fun _ _ _ h => h) (Or.inl ⟨by rfl, ?x1_h3⟩) hHeld ?x1_r3
        case x1_h3 => (intro w hSw; (try dsimp only at hSw); go_simp; all_goals with_reducible rfl)
        (try simp only [Act.put, List.setIfInBounds_toArray, List.set_cons_zero, List.set_cons_succ])
        refine wpAnyH_take (i := 4) (oi := ({ dst := some 52, op := Op.load 25 (Operand.tmp 10), type := 25, pos := "law.go:152", after := #[{ on := 2, ground := Ground.guard }], guard := some (2, true) } : Oper)) (v := ?x1_v4) rfl (by kernel_rfl) (by kernel_rfl) (by kernel_rfl) (fun _ _ _ h => h) (Or.inl ⟨by rfl, ?x1_h4⟩) hHeld ?x1_r4
        case x1_h4 => (intro w hSw; (try dsimp only at hSw); go_simp; all_goals with_reducible rfl)
        (try simp only [Act.put, List.setIfInBounds_toArray, List.set_cons_zero, List.set_cons_succ])
        refine wpAnyH_take (i := 5) (oi := ({ dst := some 53, op := Op.load 25 (Operand.tmp 6), type := 25, pos := "law.go:152", after := #[{ on := 2, ground := Ground.guard }], guard := some (2, true) } : Oper)) (v := ?x1_v5) rfl (by kernel_rfl) (by kernel_rfl) (by kernel_rfl) (fun _ _ _ h => h) (Or.inl ⟨by rfl, ?x1_h5⟩) hHeld ?x1_r5
        case x1_h5 => (intro w hSw; (try dsimp only at hSw); go_simp; all_goals with_reducible rfl)
        (try simp only [Act.put, List.setIfInBounds_toArray, List.set_cons_zero, List.set_cons_succ])
        refine wpAnyH_take (i := 7) (oi := ({ dst := some 55, op := Op.load 25 (Operand.tmp 11), type := 25, pos := "law.go:152", after := #[{ on := 2, ground := Ground.guard }], guard := some (2, true) } : Oper)) (v := ?x1_v7) rfl (by kernel_rfl) (by kernel_rfl) (by kernel_rfl) (fun _ _ _ h => h) (Or.inl ⟨by rfl, ?x1_h7⟩) hHeld ?x1_r7
        case x1_h7 => (intro w hSw; (try dsimp only at hSw); go_simp; all_goals with_reducible rfl)
        (try simp only [Act.put, List.setIfInBounds_toArray, List.set_cons_zero, List.set_cons_succ])
        refine wpAnyH_ready (rs := [6]) (by kernel_rfl) (by simp) ?_
        refine AllReadyH.cons (o := ({ dst := some 54, op := Op.call { callee := Callee.value (Operand.func 19), args := #[Operand.tmp 52, Operand.tmp 53], argTypes := #[25, 25] }, type := 25, pos := "law.go:152", after := #[{ on := 4, ground := Ground.data }, { on := 5, ground := Ground.data }, { on := 2, ground := Ground.chain }, { on := 2, ground := Ground.guard }], guard := some (2, true) } : Oper)) rfl (fun K hK => ?_) AllReadyH.nil
        go_simp
        go_at_call 19; (with_reducible refine (mul_any (HQ.out.below (HI7.out _ (by assumption))) (HY.out.below (HI7.out _ (by assumption))) dgq dgy (by omega)).mono ?_); rintro e w8 ⟨n_8, a_8, k_8, c_8, rfl, hu_8, hbr8⟩; have HP := Lib.hid hu_8; clear hu_8
        first | refine hK.out _ _ ?_ (fun hHeld => ?_) | (go_wp2_with fail; refine hK.out _ _ ?_ (fun hHeld => ?_))
        · first | exact HL7.out _ (Below.drew HS7.out) | exact HL7.out _ (bt (HI7.out _ (by assumption)) (by assumption))
        clear hK K
        (try dsimp only at hHeld)
        (try simp only [Act.put, List.setIfInBounds_toArray, List.set_cons_zero, List.set_cons_succ])
        refine wpAnyH_ready (rs := [8]) (by kernel_rfl) (by simp) ?_
        refine AllReadyH.cons (o := ({ dst := some 56, op := Op.call { callee := Callee.value (Operand.func 30), args := #[Operand.tmp 54, Operand.tmp 55], argTypes := #[25, 25] }, type := 25, pos := "law.go:152", after := #[{ on := 6, ground := Ground.data }, { on := 7, ground := Ground.data }, { on := 6, ground := Ground.chain }, { on := 2, ground := Ground.guard }], guard := some (2, true) } : Oper)) rfl (fun K hK => ?_) AllReadyH.nil
        go_simp
        go_at_call 30; (with_reducible refine (add_any HP.out (HM.out.below (HI7.out _ (by assumption))) dgp (dgr.mono (by omega)) (by omega)).mono ?_); rintro e w9 ⟨n_9, a_9, k_9, c_9, rfl, hu_9, hbr9⟩; have HU := Lib.hid hu_9; clear hu_9
        first | refine hK.out _ _ ?_ (fun hHeld => ?_) | (go_wp2_with fail; refine hK.out _ _ ?_ (fun hHeld => ?_))
        · first | exact HL7.out _ (Below.drew HS7.out) | exact HL7.out _ (bt (HI7.out _ (by assumption)) (by assumption))
        clear hK K
        (try dsimp only at hHeld)
        (try simp only [Act.put, List.setIfInBounds_toArray, List.set_cons_zero, List.set_cons_succ])
        refine wpAnyH_ready (rs := [9]) (by kernel_rfl) (by simp) ?_
        refine AllReadyH.cons (o := ({ dst := some 57, op := Op.call { callee := Callee.value (Operand.func 38), args := #[Operand.tmp 51, Operand.tmp 56], argTypes := #[25, 25] }, type := 4, pos := "law.go:152", after := #[{ on := 3, ground := Ground.data }, { on := 8, ground := Ground.data }, { on := 8, ground := Ground.chain }, { on := 2, ground := Ground.guard }], guard := some (2, true) } : Oper)) rfl (fun K hK => ?_) AllReadyH.nil
        go_simp
        go_at_call 38; (with_reducible refine (equal_any (HX.out.below (HI7.out _ (by assumption))) (HU.out.as HEQ.out.symm) (HT.out.below (HI7.out _ (by assumption))) dgx (by omega)).mono ?_); rintro e w10 ⟨rfl, hbr10⟩
        first | refine hK.out _ _ ?_ (fun hHeld => ?_) | (go_wp2_with fail; refine hK.out _ _ ?_ (fun hHeld => ?_))
        · first | exact HL7.out _ (Below.drew HS7.out) | exact HL7.out _ (bt (HI7.out _ (by assumption)) (by assumption))
        clear hK K
        (try dsimp only at hHeld)
        (try simp only [Act.put, List.setIfInBounds_toArray, List.set_cons_zero, List.set_cons_succ])
        refine wpAnyH_take (i := 10) (oi := ({ dst := some 58, op := Op.pick (Operand.tmp 50) (Operand.tmp 57) (Operand.const (Value.bool false)), type := 4, pos := "law.go:152", after := #[{ on := 2, ground := Ground.data }, { on := 9, ground := Ground.data }], guard := none } : Oper)) (v := ?x1_v10) rfl (by kernel_rfl) (by kernel_rfl) (by kernel_rfl) (fun _ _ _ h => h) (Or.inl ⟨by rfl, ?x1_h10⟩) hHeld ?x1_r10
        case x1_h10 => (intro w hSw; (try dsimp only at hSw); go_simp; all_goals with_reducible rfl)
        (try simp only [Act.put, List.setIfInBounds_toArray, List.set_cons_zero, List.set_cons_succ])
        refine wpAnyH_take (i := 11) (oi := ({ dst := some 59, op := Op.move (Operand.tmp 58), type := 4, pos := "law.go:152", after := #[{ on := 10, ground := Ground.data }, { on := 9, ground := Ground.chain }], guard := none } : Oper)) (v := ?x1_v11) rfl (by kernel_rfl) (by kernel_rfl) (by kernel_rfl) (fun _ _ _ h => h) (Or.inl ⟨by rfl, ?x1_h11⟩) hHeld ?x1_r11
        case x1_h11 => (intro w hSw; (try dsimp only at hSw); go_simp; all_goals with_reducible rfl)
        (try simp only [Act.put, List.setIfInBounds_toArray, List.set_cons_zero, List.set_cons_succ])
        refine wpAnyH_take (i := 12) (oi := ({ dst := some 60, op := Op.load 25 (Operand.tmp 11), type := 25, pos := "law.go:152", after := #[{ on := 11, ground := Ground.guard }], guard := some (11, true) } : Oper)) (v := ?x1_v12) rfl (by kernel_rfl) (by kernel_rfl) (by kernel_rfl) (fun _ _ _ h => h) (Or.inl ⟨by rfl, ?x1_h12⟩) hHeld ?x1_r12
        case x1_h12 => (intro w hSw; (try dsimp only at hSw); go_simp; all_goals with_reducible rfl)
        (try simp only [Act.put, List.setIfInBounds_toArray, List.set_cons_zero, List.set_cons_succ])
        refine wpAnyH_take (i := 14) (oi := ({ dst := some 62, op := Op.load 25 (Operand.tmp 6), type := 25, pos := "law.go:152", after := #[{ on := 11, ground := Ground.guard }], guard := some (11, true) } : Oper)) (v := ?x1_v14) rfl (by kernel_rfl) (by kernel_rfl) (by kernel_rfl) (fun _ _ _ h => h) (Or.inl ⟨by rfl, ?x1_h14⟩) hHeld ?x1_r14
        case x1_h14 => (intro w hSw; (try dsimp only at hSw); go_simp; all_goals with_reducible rfl)
        (try simp only [Act.put, List.setIfInBounds_toArray, List.set_cons_zero, List.set_cons_succ])
        refine wpAnyH_ready (rs := [13]) (by kernel_rfl) (by simp) ?_
        refine AllReadyH.cons (o := ({ dst := some 61, op := Op.call { callee := Callee.value (Operand.func 41), args := #[Operand.tmp 60], argTypes := #[25] }, type := 25, pos := "law.go:152", after := #[{ on := 12, ground := Ground.data }, { on := 11, ground := Ground.chain }, { on := 11, ground := Ground.guard }], guard := some (11, true) } : Oper)) rfl (fun K hK => ?_) AllReadyH.nil
        go_simp
        go_at_call 41; (with_reducible refine (abs_any (HM.out.below (HI7.out _ (by assumption)))).mono ?_); rintro e w11 ⟨n_11, a_11, k_11, c_11, rfl, hu_11, hbr11⟩; have HAM := Lib.hid hu_11; clear hu_11
        first | refine hK.out _ _ ?_ (fun hHeld => ?_) | (go_wp2_with fail; refine hK.out _ _ ?_ (fun hHeld => ?_))
        · first | exact HL7.out _ (Below.drew HS7.out) | exact HL7.out _ (bt (HI7.out _ (by assumption)) (by assumption))
        clear hK K
        (try dsimp only at hHeld)
        (try simp only [Act.put, List.setIfInBounds_toArray, List.set_cons_zero, List.set_cons_succ])
        refine wpAnyH_ready (rs := [15]) (by kernel_rfl) (by simp) ?_
        refine AllReadyH.cons (o := ({ dst := some 63, op := Op.call { callee := Callee.value (Operand.func 41), args := #[Operand.tmp 62], argTypes := #[25] }, type := 25, pos := "law.go:152", after := #[{ on := 14, ground := Ground.data }, { on := 13, ground := Ground.chain }, { on := 11, ground := Ground.guard }], guard := some (11, true) } : Oper)) rfl (fun K hK => ?_) AllReadyH.nil
        go_simp
        go_at_call 41; (with_reducible refine (abs_any (HY.out.below (HI7.out _ (by assumption)))).mono ?_); rintro e w12 ⟨n_12, a_12, k_12, c_12, rfl, hu_12, hbr12⟩; have HAY := Lib.hid hu_12; clear hu_12
        first | refine hK.out _ _ ?_ (fun hHeld => ?_) | (go_wp2_with fail; refine hK.out _ _ ?_ (fun hHeld => ?_))
        · first | exact HL7.out _ (Below.drew HS7.out) | exact HL7.out _ (bt (HI7.out _ (by assumption)) (by assumption))
        clear hK K
        (try dsimp only at hHeld)
        (try simp only [Act.put, List.setIfInBounds_toArray, List.set_cons_zero, List.set_cons_succ])
        refine wpAnyH_ready (rs := [16]) (by kernel_rfl) (by simp) ?_
        refine AllReadyH.cons (o := ({ dst := some 64, op := Op.call { callee := Callee.value (Operand.func 36), args := #[Operand.tmp 61, Operand.tmp 63], argTypes := #[25, 25] }, type := 3, pos := "law.go:152", after := #[{ on := 13, ground := Ground.data }, { on := 15, ground := Ground.data }, { on := 15, ground := Ground.chain }, { on := 11, ground := Ground.guard }], guard := some (11, true) } : Oper)) rfl (fun K hK => ?_) AllReadyH.nil
        go_simp
        go_at_call 36; (with_reducible refine (cmp_any (HAM.out.below hbr12) HAY.out).mono ?_); rintro e w13 ⟨rfl, hbr13⟩; rw [HLT.out]
        first | refine hK.out _ _ ?_ (fun hHeld => ?_) | (go_wp2_with fail; refine hK.out _ _ ?_ (fun hHeld => ?_))
        · first | exact HL7.out _ (Below.drew HS7.out) | exact HL7.out _ (bt (HI7.out _ (by assumption)) (by assumption))
        clear hK K
        (try dsimp only at hHeld)
        (try simp only [Act.put, List.setIfInBounds_toArray, List.set_cons_zero, List.set_cons_succ])
        refine wpAnyH_take (i := 17) (oi := ({ dst := some 65, op := Op.binOp BinOp.lss 3 (Operand.tmp 64) (Operand.const (Value.int IntKind.i64 0)) 3, type := 4, pos := "law.go:152", after := #[{ on := 16, ground := Ground.data }, { on := 11, ground := Ground.guard }], guard := some (11, true) } : Oper)) (v := ?x1_v17) rfl (by kernel_rfl) (by kernel_rfl) (by kernel_rfl) (fun _ _ _ h => h) (Or.inl ⟨by rfl, ?x1_h17⟩) hHeld ?x1_r17
        case x1_h17 => (intro w hSw; (try dsimp only at hSw); go_simp; all_goals with_reducible rfl)
        (try simp only [Act.put, List.setIfInBounds_toArray, List.set_cons_zero, List.set_cons_succ])
        refine wpAnyH_take (i := 18) (oi := ({ dst := some 66, op := Op.pick (Operand.tmp 59) (Operand.tmp 65) (Operand.const (Value.bool false)), type := 4, pos := "law.go:152", after := #[{ on := 11, ground := Ground.data }, { on := 17, ground := Ground.data }], guard := none } : Oper)) (v := ?x1_v18) rfl (by kernel_rfl) (by kernel_rfl) (by kernel_rfl) (fun _ _ _ h => h) (Or.inl ⟨by rfl, ?x1_h18⟩) hHeld ?x1_r18
        case x1_h18 => (intro w hSw; (try dsimp only at hSw); go_simp; all_goals with_reducible rfl)
        (try simp only [Act.put, List.setIfInBounds_toArray, List.set_cons_zero, List.set_cons_succ])
        refine wpAnyH_take (i := 19) (oi := ({ dst := some 67, op := Op.move (Operand.tmp 66), type := 4, pos := "law.go:152", after := #[{ on := 18, ground := Ground.data }, { on := 16, ground := Ground.chain }], guard := none } : Oper)) (v := ?x1_v19) rfl (by kernel_rfl) (by kernel_rfl) (by kernel_rfl) (fun _ _ _ h => h) (Or.inl ⟨by rfl, ?x1_h19⟩) hHeld ?x1_r19
        case x1_h19 => (intro w hSw; (try dsimp only at hSw); go_simp; all_goals with_reducible rfl)
        (try simp only [Act.put, List.setIfInBounds_toArray, List.set_cons_zero, List.set_cons_succ])
        refine wpAnyH_take (i := 20) (oi := ({ dst := some 68, op := Op.load 25 (Operand.tmp 11), type := 25, pos := "law.go:152", after := #[{ on := 19, ground := Ground.guard }], guard := some (19, true) } : Oper)) (v := ?x1_v20) rfl (by kernel_rfl) (by kernel_rfl) (by kernel_rfl) (fun _ _ _ h => h) (Or.inl ⟨by rfl, ?x1_h20⟩) hHeld ?x1_r20
        case x1_h20 => (intro w hSw; (try dsimp only at hSw); go_simp; all_goals with_reducible rfl)
        (try simp only [Act.put, List.setIfInBounds_toArray, List.set_cons_zero, List.set_cons_succ])
        refine wpAnyH_ready (rs := [21]) (by kernel_rfl) (by simp) ?_
        refine AllReadyH.cons (o := ({ dst := some 69, op := Op.call { callee := Callee.value (Operand.func 23), args := #[Operand.tmp 68], argTypes := #[25] }, type := 3, pos := "law.go:152", after := #[{ on := 20, ground := Ground.data }, { on := 19, ground := Ground.chain }, { on := 19, ground := Ground.guard }], guard := some (19, true) } : Oper)) rfl (fun K hK => ?_) AllReadyH.nil
        go_simp
        go_at_call 23; (with_reducible refine (sign_any (HM.out.below (HI7.out _ (by assumption)))).mono ?_); rintro e w14 ⟨rfl, hbr14⟩; rw [show Int.sign 0 = 0 from rfl]
        first | refine hK.out _ _ ?_ (fun hHeld => ?_) | (go_wp2_with fail; refine hK.out _ _ ?_ (fun hHeld => ?_))
        · first | exact HL7.out _ (Below.drew HS7.out) | exact HL7.out _ (bt (HI7.out _ (by assumption)) (by assumption))
        clear hK K
        (try dsimp only at hHeld)
        (try simp only [Act.put, List.setIfInBounds_toArray, List.set_cons_zero, List.set_cons_succ])
        refine wpAnyH_take (i := 22) (oi := ({ dst := some 70, op := Op.binOp BinOp.eql 3 (Operand.tmp 69) (Operand.const (Value.int IntKind.i64 0)) 3, type := 4, pos := "law.go:152", after := #[{ on := 21, ground := Ground.data }, { on := 19, ground := Ground.guard }], guard := some (19, true) } : Oper)) (v := ?x1_v22) rfl (by kernel_rfl) (by kernel_rfl) (by kernel_rfl) (fun _ _ _ h => h) (Or.inl ⟨by rfl, ?x1_h22⟩) hHeld ?x1_r22
        case x1_h22 => (intro w hSw; (try dsimp only at hSw); go_simp; all_goals with_reducible rfl)
        (try simp only [Act.put, List.setIfInBounds_toArray, List.set_cons_zero, List.set_cons_succ])
        refine wpAnyH_take (i := 23) (oi := ({ dst := some 71, op := Op.move (Operand.tmp 70), type := 4, pos := "law.go:152", after := #[{ on := 22, ground := Ground.data }, { on := 21, ground := Ground.chain }, { on := 19, ground := Ground.guard }], guard := some (19, true) } : Oper)) (v := ?x1_v23) rfl (by kernel_rfl) (by kernel_rfl) (by kernel_rfl) (fun _ _ _ h => h) (Or.inl ⟨by rfl, ?x1_h23⟩) hHeld ?x1_r23
        case x1_h23 => (intro w hSw; (try dsimp only at hSw); go_simp; all_goals with_reducible rfl)
        (try simp only [Act.put, List.setIfInBounds_toArray, List.set_cons_zero, List.set_cons_succ])
        refine wpAnyH_take (i := 24) (oi := ({ dst := some 72, op := Op.load 25 (Operand.tmp 11), type := 25, pos := "law.go:152", after := #[{ on := 23, ground := Ground.guard }], guard := some (23, false) } : Oper)) (v := undef) rfl (by kernel_rfl) (by kernel_rfl) (by kernel_rfl) (fun _ _ _ h => h) (Or.inr ⟨by rfl, rfl⟩) hHeld ?_
        (try simp only [Act.put, List.setIfInBounds_toArray, List.set_cons_zero, List.set_cons_succ])
        refine wpAnyH_take (i := 25) (oi := ({ dst := some 73, op := Op.call { callee := Callee.value (Operand.func 23), args := #[Operand.tmp 72], argTypes := #[25] }, type := 3, pos := "law.go:152", after := #[{ on := 24, ground := Ground.data }, { on := 23, ground := Ground.chain }, { on := 23, ground := Ground.guard }], guard := some (23, false) } : Oper)) (v := undef) rfl (by kernel_rfl) (by kernel_rfl) (by kernel_rfl) (fun _ _ _ h => h) (Or.inr ⟨by rfl, rfl⟩) hHeld ?_
        (try simp only [Act.put, List.setIfInBounds_toArray, List.set_cons_zero, List.set_cons_succ])
        refine wpAnyH_take (i := 26) (oi := ({ dst := some 74, op := Op.load 25 (Operand.tmp 5), type := 25, pos := "law.go:152", after := #[{ on := 23, ground := Ground.guard }], guard := some (23, false) } : Oper)) (v := undef) rfl (by kernel_rfl) (by kernel_rfl) (by kernel_rfl) (fun _ _ _ h => h) (Or.inr ⟨by rfl, rfl⟩) hHeld ?_
        (try simp only [Act.put, List.setIfInBounds_toArray, List.set_cons_zero, List.set_cons_succ])
        refine wpAnyH_take (i := 27) (oi := ({ dst := some 75, op := Op.call { callee := Callee.value (Operand.func 23), args := #[Operand.tmp 74], argTypes := #[25] }, type := 3, pos := "law.go:152", after := #[{ on := 26, ground := Ground.data }, { on := 25, ground := Ground.chain }, { on := 23, ground := Ground.guard }], guard := some (23, false) } : Oper)) (v := undef) rfl (by kernel_rfl) (by kernel_rfl) (by kernel_rfl) (fun _ _ _ h => h) (Or.inr ⟨by rfl, rfl⟩) hHeld ?_
        (try simp only [Act.put, List.setIfInBounds_toArray, List.set_cons_zero, List.set_cons_succ])
        refine wpAnyH_take (i := 28) (oi := ({ dst := some 76, op := Op.binOp BinOp.eql 3 (Operand.tmp 73) (Operand.tmp 75) 3, type := 4, pos := "law.go:152", after := #[{ on := 25, ground := Ground.data }, { on := 27, ground := Ground.data }, { on := 23, ground := Ground.guard }], guard := some (23, false) } : Oper)) (v := undef) rfl (by kernel_rfl) (by kernel_rfl) (by kernel_rfl) (fun _ _ _ h => h) (Or.inr ⟨by rfl, rfl⟩) hHeld ?_
        (try simp only [Act.put, List.setIfInBounds_toArray, List.set_cons_zero, List.set_cons_succ])
        refine wpAnyH_take (i := 29) (oi := ({ dst := some 77, op := Op.pick (Operand.tmp 71) (Operand.const (Value.bool true)) (Operand.tmp 76), type := 4, pos := "law.go:152", after := #[{ on := 23, ground := Ground.data }, { on := 28, ground := Ground.data }, { on := 19, ground := Ground.guard }], guard := some (19, true) } : Oper)) (v := ?x1_v29) rfl (by kernel_rfl) (by kernel_rfl) (by kernel_rfl) (fun _ _ _ h => h) (Or.inl ⟨by rfl, ?x1_h29⟩) hHeld ?x1_r29
        case x1_h29 => (intro w hSw; (try dsimp only at hSw); go_simp; all_goals with_reducible rfl)
        (try simp only [Act.put, List.setIfInBounds_toArray, List.set_cons_zero, List.set_cons_succ])
        refine wpAnyH_take (i := 30) (oi := ({ dst := some 78, op := Op.pick (Operand.tmp 67) (Operand.tmp 77) (Operand.const (Value.bool false)), type := 4, pos := "law.go:152", after := #[{ on := 19, ground := Ground.data }, { on := 29, ground := Ground.data }], guard := none } : Oper)) (v := ?x1_v30) rfl (by kernel_rfl) (by kernel_rfl) (by kernel_rfl) (fun _ _ _ h => h) (Or.inl ⟨by rfl, ?x1_h30⟩) hHeld ?x1_r30
        case x1_h30 => (intro w hSw; (try dsimp only at hSw); go_simp; all_goals with_reducible rfl)
        (try simp only [Act.put, List.setIfInBounds_toArray, List.set_cons_zero, List.set_cons_succ])
        refine wpAnyH_take (i := 31) (oi := ({ dst := some 4, op := Op.assign (Operand.tmp 78), type := 4, pos := "law.go:152", after := #[{ on := 30, ground := Ground.data }, { on := 27, ground := Ground.chain }, { on := 0, ground := Ground.phase }, { on := 1, ground := Ground.phase }, { on := 2, ground := Ground.phase }, { on := 3, ground := Ground.phase }, { on := 4, ground := Ground.phase }, { on := 5, ground := Ground.phase }, { on := 6, ground := Ground.phase }, { on := 7, ground := Ground.phase }, { on := 8, ground := Ground.phase }, { on := 9, ground := Ground.phase }, { on := 10, ground := Ground.phase }, { on := 11, ground := Ground.phase }, { on := 12, ground := Ground.phase }, { on := 13, ground := Ground.phase }, { on := 14, ground := Ground.phase }, { on := 15, ground := Ground.phase }, { on := 16, ground := Ground.phase }, { on := 17, ground := Ground.phase }, { on := 18, ground := Ground.phase }, { on := 19, ground := Ground.phase }, { on := 20, ground := Ground.phase }, { on := 21, ground := Ground.phase }, { on := 22, ground := Ground.phase }, { on := 23, ground := Ground.phase }, { on := 24, ground := Ground.phase }, { on := 25, ground := Ground.phase }, { on := 26, ground := Ground.phase }, { on := 27, ground := Ground.phase }, { on := 28, ground := Ground.phase }, { on := 29, ground := Ground.phase }, { on := 30, ground := Ground.phase }], guard := none } : Oper)) (v := ?x1_v31) rfl (by kernel_rfl) (by kernel_rfl) (by kernel_rfl) (fun _ _ _ h => h) (Or.inl ⟨by rfl, ?x1_h31⟩) hHeld ?x1_r31
        case x1_h31 => (intro w hSw; (try dsimp only at hSw); go_simp; all_goals with_reducible rfl)
        (try simp only [Act.put, List.setIfInBounds_toArray, List.set_cons_zero, List.set_cons_succ])
        refine wpAnyH_done (by kernel_rfl) ?_ _
        replace HB := Lib.hid (bt HB.out (bt (bt (bt (bt (bt (bt (bt HC7.out hbr8) hbr9) hbr10) hbr11) hbr12) hbr13) hbr14))
        go_wp2
        go_ret
        exact ⟨by simp, HB.out⟩
      · obtain ⟨sg, hsg⟩ : ∃ sg, m.sign = sg := ⟨_, rfl⟩
        have hsg0 : (sg == 0) = false := by
                  rw [beq_eq_false_iff_ne, ← hsg]
                  intro e
                  exact hm0 (Int.sign_eq_zero_iff_zero.1 e)
        have HS2 := Lib.hid (show x.sign = sg from by
                  rcases HSG.out with q | q
                  · exact absurd q hm0
                  · rw [← q]; exact hsg)
        have HS1 := Lib.hid hsg
        clear hsg hm0
        clear cx0 cx1 fx0 fx1 cy0 cy1 fy0 fy1 cq0 cq1 fq0 fq1 cr0 cr1 fr0 fr1
        obtain ⟨cx0, cx1, fx0, fx1⟩ := res_facts Bx.out
        obtain ⟨cy0, cy1, fy0, fy1⟩ := res_facts By.out
        obtain ⟨cq0, cq1, fq0, fq1⟩ := res_facts Bq.out
        obtain ⟨cr0, cr1, fr0, fr1⟩ := res_facts Br.out
        have HL7 := Lib.hid (fun (w' : World) (hb : Below w6.heap.size w6 w') => (⟨hb, keepc hb cx0, keepc hb cx1, keepc hb cy0, keepc hb cy1, keepc hb cq0, keepc hb cq1, keepc hb cr0, keepc hb cr1⟩ : Below w6.heap.size w6 w' ∧ w'.cell? ⟨w2.heap.size, 0, none⟩ = some (.bool n0_2) ∧ w'.cell? ⟨w2.heap.size, 1, none⟩ = some (.slice a0_2 k0_2 c0_2) ∧ w'.cell? ⟨w2.heap.size + 1, 0, none⟩ = some (.bool n1_2) ∧ w'.cell? ⟨w2.heap.size + 1, 1, none⟩ = some (.slice a1_2 k1_2 c1_2) ∧ w'.cell? ⟨w4.heap.size, 0, none⟩ = some (.bool n_4) ∧ w'.cell? ⟨w4.heap.size, 1, none⟩ = some (.slice a_4 k_4 c_4) ∧ w'.cell? ⟨w4.heap.size + 1, 0, none⟩ = some (.bool n2_4) ∧ w'.cell? ⟨w4.heap.size + 1, 1, none⟩ = some (.slice a2_4 k2_4 c2_4)))
        have HI7 := Lib.hid (fun (w' : World) (hs : Below w6.heap.size w6 w' ∧ w'.cell? ⟨w2.heap.size, 0, none⟩ = some (.bool n0_2) ∧ w'.cell? ⟨w2.heap.size, 1, none⟩ = some (.slice a0_2 k0_2 c0_2) ∧ w'.cell? ⟨w2.heap.size + 1, 0, none⟩ = some (.bool n1_2) ∧ w'.cell? ⟨w2.heap.size + 1, 1, none⟩ = some (.slice a1_2 k1_2 c1_2) ∧ w'.cell? ⟨w4.heap.size, 0, none⟩ = some (.bool n_4) ∧ w'.cell? ⟨w4.heap.size, 1, none⟩ = some (.slice a_4 k_4 c_4) ∧ w'.cell? ⟨w4.heap.size + 1, 0, none⟩ = some (.bool n2_4) ∧ w'.cell? ⟨w4.heap.size + 1, 1, none⟩ = some (.slice a2_4 k2_4 c2_4)) => hs.1)
        have HS7 := Lib.hid (Below.refl w6.heap.size w6)
        have HC7 := Lib.hid (Below.drew (Below.refl w6.heap.size w6))
        have tok14 : True := trivial
        go_region_held3 (fun w' => Below w6.heap.size w6 w' ∧ w'.cell? ⟨w2.heap.size, 0, none⟩ = some (.bool n0_2) ∧ w'.cell? ⟨w2.heap.size, 1, none⟩ = some (.slice a0_2 k0_2 c0_2) ∧ w'.cell? ⟨w2.heap.size + 1, 0, none⟩ = some (.bool n1_2) ∧ w'.cell? ⟨w2.heap.size + 1, 1, none⟩ = some (.slice a1_2 k1_2 c1_2) ∧ w'.cell? ⟨w4.heap.size, 0, none⟩ = some (.bool n_4) ∧ w'.cell? ⟨w4.heap.size, 1, none⟩ = some (.slice a_4 k_4 c_4) ∧ w'.cell? ⟨w4.heap.size + 1, 0, none⟩ = some (.bool n2_4) ∧ w'.cell? ⟨w4.heap.size + 1, 1, none⟩ = some (.slice a2_4 k2_4 c2_4))
          (first | exact HL7.out _ (Below.drew HS7.out) | exact HL7.out _ (bt (HI7.out _ (by assumption)) (by assumption)))
          (first | (go_at_call 19; (with_reducible refine (mul_any (HQ.out.below (HI7.out _ (by assumption))) (HY.out.below (HI7.out _ (by assumption))) dgq dgy (by omega)).mono ?_); rintro e w8 ⟨n_8, a_8, k_8, c_8, rfl, hu_8, hbr8⟩; have HP := Lib.hid hu_8; clear hu_8) | (go_at_call 30; (with_reducible refine (add_any HP.out (HM.out.below (HI7.out _ (by assumption))) dgp (dgr.mono (by omega)) (by omega)).mono ?_); rintro e w9 ⟨n_9, a_9, k_9, c_9, rfl, hu_9, hbr9⟩; have HU := Lib.hid hu_9; clear hu_9) | (go_at_call 38; (with_reducible refine (equal_any (HX.out.below (HI7.out _ (by assumption))) (HU.out.as HEQ.out.symm) (HT.out.below (HI7.out _ (by assumption))) dgx (by omega)).mono ?_); rintro e w10 ⟨rfl, hbr10⟩) | (go_at_call 41; (with_reducible refine (abs_any (HM.out.below (HI7.out _ (by assumption)))).mono ?_); rintro e w11 ⟨n_11, a_11, k_11, c_11, rfl, hu_11, hbr11⟩; have HAM := Lib.hid hu_11; clear hu_11) | (go_at_call 41; (with_reducible refine (abs_any (HY.out.below (HI7.out _ (by assumption)))).mono ?_); rintro e w12 ⟨n_12, a_12, k_12, c_12, rfl, hu_12, hbr12⟩; have HAY := Lib.hid hu_12; clear hu_12) | (go_at_call 36; (with_reducible refine (cmp_any (HAM.out.below hbr12) HAY.out).mono ?_); rintro e w13 ⟨rfl, hbr13⟩; rw [HLT.out]) | (go_at_call 23; have _t := tok14; (with_reducible refine (sign_any (HM.out.below (HI7.out _ (by assumption)))).mono ?_); rintro e w14 ⟨rfl, hbr14⟩; clear tok14 _t; rw [HS1.out]) | (go_at_call 23; (with_reducible refine (sign_any (HM.out.below (HI7.out _ (by assumption)))).mono ?_); rintro e w15 ⟨rfl, hbr15⟩; rw [HS1.out]) | (go_at_call 23; (with_reducible refine (sign_any (HX.out.below (HI7.out _ (by assumption)))).mono ?_); rintro e w16 ⟨rfl, hbr16⟩; rw [HS2.out]))
        clear cx0 cx1 fx0 fx1 cy0 cy1 fy0 fy1 cq0 cq1 fq0 fq1 cr0 cr1 fr0 fr1
        have hbR := (bt (bt (bt (bt (bt (bt (bt (bt (bt HC7.out hbr8) hbr9) hbr10) hbr11) hbr12) hbr13) hbr14) hbr15) hbr16)
        replace HT := Lib.hid (HT.out.below hbR)
        replace HX := Lib.hid (HX.out.below hbR)
        replace HY := Lib.hid (HY.out.below hbR)
        replace HQ := Lib.hid (HQ.out.below hbR)
        replace HM := Lib.hid (HM.out.below hbR)
        replace HP := Lib.hid ((((((((HP.out.below hbr9).below hbr10).below hbr11).below hbr12).below hbr13).below hbr14).below hbr15).below hbr16)
        replace HU := Lib.hid (((((((HU.out.below hbr10).below hbr11).below hbr12).below hbr13).below hbr14).below hbr15).below hbr16)
        replace HAM := Lib.hid (((((HAM.out.below hbr12).below hbr13).below hbr14).below hbr15).below hbr16)
        replace HAY := Lib.hid ((((HAY.out.below hbr13).below hbr14).below hbr15).below hbr16)
        replace HB := Lib.hid (bt HB.out hbR)
        replace Bx := Lib.hid (blk_next Bx.out hbR)
        replace By := Lib.hid (blk_next By.out hbR)
        replace Bq := Lib.hid (blk_next Bq.out hbR)
        replace Br := Lib.hid (blk_next Br.out hbR)
        clear hbR hbr8 hbr9 hbr10 hbr11 hbr12 hbr13 hbr14 hbr15 hbr16
        go_wp2
        go_ret
        exact ⟨by simp, HB.out⟩

end Go.Proofs.YtihjaakkpnjolaaDoor
