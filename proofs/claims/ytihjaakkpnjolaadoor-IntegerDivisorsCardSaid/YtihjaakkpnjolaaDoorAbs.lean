/- The law package's abs. -/
import Derived.Test.YtihjaakkpnjolaaDoorRat
namespace Go.Proofs.YtihjaakkpnjolaaDoor
open Go.RowKit Tally

set_option maxHeartbeats 2000000 in
set_option maxRecDepth 100000 in
theorem abs_any {w : World} {v : Value} {x : Int} (h : IntR w v x) :
    Calls Tryd.prog 41 #[v] w (GivesZ w (x.natAbs : Int)) := by
  obtain ⟨n1, a1, k1, c1, rfl⟩ := h.shape
  have HX := Lib.hid h
  clear h
  go_enter Tryd.func41, Tryd.ntmps41
  go_wp2_with fail
  obtain ⟨W1, hW, hs, hb, b0, b1⟩ := alloc2 w (.cells #[.bool n1, .slice a1 k1 c1] 25) (.cells #[.bool false, .slice none 0 0] 25)
  rw [← hW]
  have HB := Lib.hid hb
  replace HX := Lib.hid (HX.out.below hb)
  have BP := Lib.hid b0
  have BR := Lib.hid b1
  clear hW hs hb b0 b1
  (with_reducible refine (sign_any HX.out).mono ?_)
  rintro e w2 ⟨rfl, hb⟩
  replace HB := Lib.hid (bt HB.out hb)
  replace HX := Lib.hid (HX.out.below hb)
  replace BP := Lib.hid (blk_next BP.out hb)
  replace BR := Lib.hid (blk_next BR.out hb)
  clear hb
  by_cases hneg : x < 0
  · have hsg : x.sign < 0 := by rw [Int.sign_eq_neg_one_of_neg hneg]; decide
    have E1 := Lib.hid (show -x = (x.natAbs : Int) from by omega)
    have lt1_P : w.heap.size < w2.heap.size := (Array.getElem?_eq_some_iff.1 BP.out).1
    have lt2_R : w.heap.size + 1 < w2.heap.size := (Array.getElem?_eq_some_iff.1 BR.out).1
    obtain ⟨cP0, cP1, fP0, fP1⟩ := res_facts BP.out
    go_wp2_with fail
    clear cP0 cP1 fP0 fP1
    (with_reducible refine (neg_any HX.out).mono ?_)
    rintro e w3 ⟨n_3, a_3, k_3, c_3, rfl, hu_3, hb⟩
    replace HB := Lib.hid (bt HB.out hb)
    replace HX := Lib.hid (HX.out.below hb)
    replace BP := Lib.hid (blk_next BP.out hb)
    replace BR := Lib.hid (blk_next BR.out hb)
    have HN := Lib.hid hu_3
    clear hu_3
    clear hb
    have lt3_P : w.heap.size < w3.heap.size := (Array.getElem?_eq_some_iff.1 BP.out).1
    have lt4_R : w.heap.size + 1 < w3.heap.size := (Array.getElem?_eq_some_iff.1 BR.out).1
    obtain ⟨cR0, cR1, fR0, fR1⟩ := res_facts BR.out
    go_wp2
    try simp only [Exit.inBlock, Exit.then]
    refine bodyPost_ret (results_cell_row rfl _ _ (w.heap.size + 1) 25 _ (0, 0) _ rfl (res_set BR.out) Tryd.underlying25 rfl (by kernel_rfl)) rfl ?_
    exact ⟨_, _, _, _, rfl, ((HN.out.stay set2_stay (noInt_one (noInt2 BR.out))).as E1.out), (fin2 HB.out (by omega))⟩
  · have hsg : ¬ x.sign < 0 := by have := Int.sign_nonneg_iff.2 (show 0 ≤ x by omega); omega
    have E1 := Lib.hid (show x = (x.natAbs : Int) from by omega)
    have lt1_P : w.heap.size < w2.heap.size := (Array.getElem?_eq_some_iff.1 BP.out).1
    have lt2_R : w.heap.size + 1 < w2.heap.size := (Array.getElem?_eq_some_iff.1 BR.out).1
    obtain ⟨cP0, cP1, fP0, fP1⟩ := res_facts BP.out
    obtain ⟨cR0, cR1, fR0, fR1⟩ := res_facts BR.out
    go_wp2
    try simp only [Exit.inBlock, Exit.then]
    refine bodyPost_ret (results_cell_row rfl _ _ (w.heap.size + 1) 25 _ (0, 0) _ rfl (res_set BR.out) Tryd.underlying25 rfl (by kernel_rfl)) rfl ?_
    exact ⟨_, _, _, _, rfl, ((HX.out.stay set2_stay (noInt_one (noInt2 BR.out))).as E1.out), (fin2 HB.out (by omega))⟩

end Go.Proofs.YtihjaakkpnjolaaDoor
