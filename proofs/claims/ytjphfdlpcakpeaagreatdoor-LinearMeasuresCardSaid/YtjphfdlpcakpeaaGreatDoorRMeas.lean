/- The reference's Det and Rank; the program's Rank that refuses. -/
import Derived.Test.YtjphfdlpcakpeaaGreatDoorRFlat
namespace Go.Proofs.YtjphfdlpcakpeaaGreatDoor
open Go.RowKit Tally

theorem keep_block {B k : Nat} {w w' : World} {o : Obj} (h : w.heap[k]? = some o) (hb : Below B w w') (hk : k < B) : w'.heap[k]? = some o := (hb.block k hk).trans h
theorem rnum_zero {w : World} {v : Value} (h : RRatR w v (((0 : Int)) : Rat)) : RRatR w v 0 := h.as rfl
/-- the determinant from the reference's run -/
theorem norm_det {m : Nat} {A : Mx} {t : St} (h : Run normR m A m t) : detN m A = if t.rank = m then t.det else 0 := by
  obtain ⟨s, hs⟩ := run_exists upR m A m
  obtain ⟨h1, h2, _⟩ := run_agree hs t h
  rw [run_detN hs, h1, h2]

set_option maxHeartbeats 4000000 in
set_option maxRecDepth 100000 in
theorem rdet_pos {w : World} {v : Value} {m N : Nat} {L : Nat → Nat} {A : Mx} (h : rMatsR w v m L A) (hm : 0 < m) (hv : IsMat m L) (hsq : m = colsN m L) (hN : ∀ i, i < m → RowD N m (A i)) (hNN : N ≤ 100) :
    Calls Tryz.prog 15 #[v] w (rGivesRE w (detN m A) 0) := by
  have H := Lib.hid h
  have HV := Lib.hid hv
  have HSQ := Lib.hid hsq
  have HN := Lib.hid hN
  have H1 := Lib.hid (show rMatsR w v m (fun _ => m) A from by have := h.even hv; rw [← hsq] at this; exact this)
  have h24 := hv.2.1
  obtain ⟨a, c, rfl⟩ := h.shape
  clear h hv hsq hN
  go_enter Tryz.func15, Tryz.ntmps15
  go_wp2_with fail
  obtain ⟨W1, hW, hs, hb, b0⟩ := alloc1 w (.cells #[.bool false, .slice none 0 0, .bool false, .slice none 0 0] 54)
  rw [← hW]
  have HB0 := Lib.hid hb
  have HR0 := Lib.hid b0
  replace H := Lib.hid (H.out.below hb)
  replace H1 := Lib.hid (H1.out.below hb)
  clear hW hs hb b0
  refine (rsquare_any H.out true (iff_of_true rfl ⟨HV.out, HSQ.out⟩)).mono ?_
  rintro e w1 ⟨rfl, hb⟩
  have HB1 := Lib.hid (bt HB0.out hb)
  have HR1 := Lib.hid (blk_next HR0.out hb)
  have hlt : w.heap.size < w1.heap.size := (Array.getElem?_eq_some_iff.1 HR1.out).1
  replace H1 := Lib.hid (H1.out.below hb)
  clear hb H HV HSQ HB0 HR0
  go_wp2_with fail
  refine (rcopied_any (y := fun _ => 0) H1.out (rrats_none _ _) (by omega) (by omega) hm (.inl ⟨rfl, rfl, rfl⟩)).mono ?_
  rintro e w2 ⟨sv, rfl, ⟨V, hx⟩, hb⟩
  obtain ⟨G, c3, g, cp, rfl, h1, h2, hmx, hG, hg⟩ := hx.done hm hm
  have HX := Lib.hid hmx
  have HG := Lib.hid hg
  have HB2 := Lib.hid (bt HB1.out hb)
  have HR2 := Lib.hid (blk_next HR1.out hb)
  have hs12 := hb.size
  clear hx hb hmx hg H1 HR1
  go_wp2_with fail
  refine (rreduce_any HX.out hm hs12 hG HG.out (Nat.le_refl m) (by omega) (by omega) h1 h2 HN.out hNN).mono ?_
  rintro e w3 ⟨t, g2, cp2, n1, a4, k1, c4, n2, a5, k2, c5, hrun, rfl, hu, hmx, hg2, hb⟩
  have HDT := Lib.hid (norm_det hrun)
  have HD := Lib.hid hu
  have HB3 := Lib.hid (HB2.out.trans (Below.mono hb (by omega)))
  have HR3 := Lib.hid (keep_block HR2.out hb hlt)
  have hrk := hrun.rank_le
  clear hrun hu hmx hg2 hb HX HG HR2 HB2
  by_cases hr : t.rank < m
  · have hri : (t.rank : Int) < (m : Int) := by omega
    have HZ := Lib.hid (show detN m A = 0 by rw [HDT.out, if_neg (by omega)])
    go_wp2_with fail
    obtain ⟨w4, hW, hs, hb, hc⟩ := alloc1 w3 (.cells #[.bool n1, .slice a4 k1 c4, .bool n2, .slice a5 k2 c5] 54)
    rw [← hW]
    have HB4 := Lib.hid (bt HB3.out hb)
    have HR4 := Lib.hid (blk_next HR3.out hb)
    clear hW hs hb hc
    (with_reducible refine ((rint_any (n := 0) (by decide) (by decide)).mono fun _ _ h => h.plain).mono ?_)
    rintro e w5 ⟨m1, d1, l1, f1, m2, d2, l2, f2, rfl, hu, hb⟩
    have HU := Lib.hid (rnum_zero hu)
    have HB5 := Lib.hid (bt HB4.out hb)
    have HR5 := Lib.hid (blk_next HR4.out hb)
    clear hu hb
    obtain ⟨⟨z0, z1, z2, z3⟩, z4, z5, z6, z7⟩ := res4_facts HR5.out
    go_wp2
    refine bodyPost_ret (results_cell_slot rfl _ _ (w.heap.size) 54 _ (0, 0) _ (.int .i64 0) rfl rfl (res4_set HR5.out) Tryz.underlying54 rfl (by kernel_rfl)) rfl ?_
    exact ⟨_, _, _, _, _, _, _, _, rfl, RRatR.as (HU.out.stay set4_stay (noInt_one (noInt4 HR5.out))) HZ.out.symm, fin4 HB5.out (Nat.le_refl _)⟩
  · have hri : ¬ (t.rank : Int) < (m : Int) := by omega
    have HZ := Lib.hid (show t.det = detN m A by rw [HDT.out, if_pos (by omega)])
    have hlt3 : w.heap.size < w3.heap.size := (Array.getElem?_eq_some_iff.1 HR3.out).1
    obtain ⟨⟨z0, z1, z2, z3⟩, z4, z5, z6, z7⟩ := res4_facts HR3.out
    go_wp2
    refine bodyPost_ret (results_cell_slot rfl _ _ (w.heap.size) 54 _ (0, 0) _ (.int .i64 0) rfl rfl (blk_next (res4_set HR3.out) (allocs_below1 _ _)) Tryz.underlying54 rfl (by kernel_rfl)) rfl ?_
    exact ⟨_, _, _, _, _, _, _, _, rfl, RRatR.as ((HD.out.stay set4_stay (noInt_one (noInt4 HR3.out))).below (allocs_below1 _ _)) HZ.out, bt (fin4 HB3.out (Nat.le_refl _)) (allocs_below1 _ _)⟩

set_option maxHeartbeats 4000000 in
set_option maxRecDepth 100000 in
theorem rdet_zero {w : World} {v : Value} {L : Nat → Nat} {A : Mx} (h : rMatsR w v 0 L A) :
    Calls Tryz.prog 15 #[v] w (rGivesRE w (detN 0 A) 0) := by
  have H := Lib.hid h
  have HM := Lib.hid (show IsMat 0 L ∧ 0 = colsN 0 L from ⟨⟨fun i hi => absurd hi (Nat.not_lt_zero _), by decide, by unfold colsN; rw [if_pos rfl]; decide⟩, rfl⟩)
  have H1 := Lib.hid (show rMatsR w v 0 (fun _ => 1) A from h.congr (fun i hi => absurd hi (Nat.not_lt_zero _)) (fun i hi => absurd hi (Nat.not_lt_zero _)))
  have HONE := Lib.hid (show (1 : Rat) = detN 0 A from (norm_det (A := A) Run.zero).symm)
  obtain ⟨a, c, rfl⟩ := h.shape
  clear h
  go_enter Tryz.func15, Tryz.ntmps15
  go_wp2_with fail
  obtain ⟨W1, hW, hs, hb, b0⟩ := alloc1 w (.cells #[.bool false, .slice none 0 0, .bool false, .slice none 0 0] 54)
  rw [← hW]
  have HB0 := Lib.hid hb
  have HR0 := Lib.hid b0
  replace H := Lib.hid (H.out.below hb)
  replace H1 := Lib.hid (H1.out.below hb)
  clear hW hs hb b0
  refine (rsquare_any H.out true (iff_of_true rfl HM.out)).mono ?_
  rintro e w1 ⟨rfl, hb⟩
  have HB1 := Lib.hid (bt HB0.out hb)
  have HR1 := Lib.hid (blk_next HR0.out hb)
  replace H1 := Lib.hid (H1.out.below hb)
  clear hb H HB0 HR0
  go_wp2_with fail
  refine (rcopied_any (y := fun _ => 0) H1.out (rrats_none _ _) (by decide) (by decide) (by decide) (.inl ⟨rfl, rfl, rfl⟩)).mono ?_
  rintro e w2 ⟨sv, rfl, ⟨V, hx⟩, hb⟩
  obtain ⟨a3, c3, rfl, -⟩ := hx.shape
  have HB2 := Lib.hid (bt HB1.out hb)
  have HR2 := Lib.hid (blk_next HR1.out hb)
  clear hx hb
  go_wp2_with fail
  refine rreduce_zero.mono ?_
  rintro e w3 ⟨n1, a4, k1, c4, n2, a5, k2, c5, rfl, hu, hb⟩
  have HD := Lib.hid hu
  have HB3 := Lib.hid (bt HB2.out hb)
  have HR3 := Lib.hid (blk_next HR2.out hb)
  clear hu hb
  have hlt3 : w.heap.size < w3.heap.size := (Array.getElem?_eq_some_iff.1 HR3.out).1
  obtain ⟨⟨z0, z1, z2, z3⟩, z4, z5, z6, z7⟩ := res4_facts HR3.out
  go_wp2
  refine bodyPost_ret (results_cell_slot rfl _ _ (w.heap.size) 54 _ (0, 0) _ (.int .i64 0) rfl rfl (blk_next (res4_set HR3.out) (allocs_below1 _ _)) Tryz.underlying54 rfl (by kernel_rfl)) rfl ?_
  exact ⟨_, _, _, _, _, _, _, _, rfl, RRatR.as ((HD.out.stay set4_stay (noInt_one (noInt4 HR3.out))).below (allocs_below1 _ _)) HONE.out, bt (fin4 HB3.out (Nat.le_refl _)) (allocs_below1 _ _)⟩

set_option maxHeartbeats 4000000 in
set_option maxRecDepth 100000 in
theorem rdet_no {w : World} {v : Value} {m : Nat} {L : Nat → Nat} {A : Mx} (h : rMatsR w v m L A) (hno : ¬ (IsMat m L ∧ m = colsN m L)) :
    Calls Tryz.prog 15 #[v] w (rGivesRE w 0 1) := by
  have H := Lib.hid h
  have HNO := Lib.hid hno
  obtain ⟨a, c, rfl⟩ := h.shape
  clear h hno
  go_enter Tryz.func15, Tryz.ntmps15
  go_wp2_with fail
  obtain ⟨W1, hW, hs, hb, b0⟩ := alloc1 w (.cells #[.bool false, .slice none 0 0, .bool false, .slice none 0 0] 54)
  rw [← hW]
  have HB := Lib.hid hb
  have HR := Lib.hid b0
  replace H := Lib.hid (H.out.below hb)
  clear hW hs hb b0
  refine (rsquare_any H.out false (iff_of_false (by decide) HNO.out)).mono ?_
  rintro e w1 ⟨rfl, hb⟩
  replace HB := Lib.hid (bt HB.out hb)
  replace HR := Lib.hid (blk_next HR.out hb)
  clear hb
  obtain ⟨⟨z0, z1, z2, z3⟩, z4, z5, z6, z7⟩ := res4_facts HR.out
  go_wp2
  refine bodyPost_ret (results_cell_slot rfl _ _ (w.heap.size) 54 _ (0, 0) _ (.int .i64 1) rfl rfl (res4_set HR.out) Tryz.underlying54 rfl (by kernel_rfl)) rfl ?_
  exact ⟨_, _, _, _, _, _, _, _, rfl, rratR_zero _, fin4 HB.out (Nat.le_refl _)⟩
end Go.Proofs.YtjphfdlpcakpeaaGreatDoor
