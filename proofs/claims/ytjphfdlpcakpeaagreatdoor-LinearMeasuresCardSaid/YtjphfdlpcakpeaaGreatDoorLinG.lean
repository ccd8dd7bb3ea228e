/- Rank and Det. -/
import Derived.Test.YtjphfdlpcakpeaaGreatDoorLinF
import Derived.Test.YtjphfdlpcakpeaaGreatDoorLinA
namespace Go.Proofs.YtjphfdlpcakpeaaGreatDoor
open Go.RowKit Tally

theorem MatsR.even {w : World} {v : Value} {m : Nat} {L : Nat → Nat} {A : Mx} (h : MatsR w v m L A) (hv : IsMat m L) : MatsR w v m (fun _ => colsN m L) A := h.congr (fun i hi => hv.1 i hi) (fun _ _ _ _ => rfl)

set_option maxHeartbeats 4000000 in
set_option maxRecDepth 100000 in
theorem rank_yes {w : World} {v : Value} {m N : Nat} {L : Nat → Nat} {A : Mx} (h : MatsR w v m L A) (hv : IsMat m L) (hN : ∀ i, i < m → RowD N (colsN m L) (A i)) (hNN : N ≤ 100) :
    Calls Tryz.prog 16 #[v] w fun e w' => ∃ s : St, Run upR m A (colsN m L) s ∧ e = .returned (.tuple #[.int .i64 (s.rank : Nat), .int .i64 0]) ∧ Below w.heap.size w w' := by
  have H := Lib.hid h
  have HV := Lib.hid hv
  have HN := Lib.hid hN
  obtain ⟨a, c, rfl⟩ := h.shape
  obtain ⟨n, hn⟩ : ∃ n, colsN m L = n := ⟨_, rfl⟩
  have HE := Lib.hid (hn ▸ h.even hv : MatsR w (.slice a m c) m (fun _ => n) A)
  have h24 := hv.2.1
  have n24 : n ≤ 24 := hn ▸ hv.2.2
  rw [hn] at HN ⊢
  have HC := Lib.hid hn
  clear h hv hN hn
  go_enter Tryz.func16, Tryz.ntmps16
  go_wp2_with fail
  refine (valid_any H.out true (iff_of_true rfl HV.out)).mono ?_
  rintro e w' ⟨rfl, rfl⟩
  go_wp2_with fail
  refine (columns_any H.out).mono ?_
  rintro e w' ⟨rfl, rfl⟩
  rw [HC.out]
  go_wp2_with fail
  (with_reducible refine (eliminated_any HE.out (Nat.le_refl _) (by omega) (by omega) HN.out hNN).mono ?_)
  rintro e w1 ⟨s, a', cp', n1, a1, k1, c1, n2, a2, k2, c2, hrun, rfl, hm, hd, hb⟩
  have HRun := Lib.hid hrun
  have HB := Lib.hid hb
  clear hrun hm hd hb
  go_wp2
  go_ret2
  exact ⟨s, HRun.out, rfl, bt HB.out (allocs_below1 _ _)⟩

set_option maxHeartbeats 4000000 in
set_option maxRecDepth 100000 in
theorem det_yes {w : World} {v : Value} {m N : Nat} {L : Nat → Nat} {A : Mx} (h : MatsR w v m L A) (hv : IsMat m L) (hsq : m = colsN m L) (hN : ∀ i, i < m → RowD N m (A i)) (hNN : N ≤ 100) :
    Calls Tryz.prog 14 #[v] w (GivesRE w (detN m A) 0) := by
  have H := Lib.hid h
  have HV := Lib.hid hv
  have HN := Lib.hid hN
  have HSQ := Lib.hid hsq
  obtain ⟨a, c, rfl⟩ := h.shape
  have HE := Lib.hid (show MatsR w (.slice a m c) m (fun _ => m) A from by have := h.even hv; rw [← hsq] at this; exact this)
  have h24 := hv.2.1
  clear h hv hN hsq
  go_enter Tryz.func14, Tryz.ntmps14
  go_wp2_with fail
  obtain ⟨W1, hW, hs, hb, b0⟩ := alloc1 w (.cells #[.bool false, .slice none 0 0, .bool false, .slice none 0 0] 47)
  rw [← hW]
  have HB := Lib.hid hb
  have HR := Lib.hid b0
  replace H := Lib.hid (H.out.below hb)
  replace HE := Lib.hid (HE.out.below hb)
  clear hW hs hb b0
  refine (square_any H.out true (iff_of_true rfl ⟨HV.out, HSQ.out⟩)).mono ?_
  rintro e w' ⟨rfl, hww⟩
  obtain rfl := hww.symm
  go_wp2_with fail
  (with_reducible refine (eliminated_any HE.out (Nat.le_refl _) (by omega) (by omega) HN.out hNN).mono ?_)
  rintro e w1 ⟨s, a', cp', n1, a1, k1, c1, n2, a2, k2, c2, hrun, rfl, hm, hd, hbe⟩
  have HRun := Lib.hid hrun
  have HDt := Lib.hid (run_detN hrun)
  have hrk := hrun.rank_le
  have HD := Lib.hid hd
  replace HR := Lib.hid (blk_next HR.out hbe)
  replace HB := Lib.hid (bt HB.out hbe)
  clear hrun hm hd hbe H HE HN HV HSQ
  by_cases hr : s.rank < m
  · have hri : (s.rank : Int) < (m : Int) := by omega
    have HDD := Lib.hid (show detN m A = 0 by rw [HDt.out, if_neg (by omega)])
    obtain ⟨⟨z0, z1, z2, z3⟩, z4, z5, z6, z7⟩ := res4_facts HR.out
    have hlt := (Array.getElem?_eq_some_iff.1 HR.out).1
    go_wp2
    refine bodyPost_ret (results_cell_slot rfl _ _ (w.heap.size) 47 _ (0, 0) _ (.int .i64 0) rfl rfl (blk_next (res4_set HR.out) (allocs_below1 _ _)) Tryz.underlying47 rfl (by kernel_rfl)) rfl ?_
    exact ⟨_, _, _, _, _, _, _, _, rfl, (ratR_zero _).as HDD.out.symm, bt (fin4 HB.out (by omega)) (allocs_below1 _ _)⟩
  · have hri : ¬ (s.rank : Int) < (m : Int) := by omega
    have HDD := Lib.hid (show s.det = detN m A by rw [HDt.out, if_pos (by omega)])
    obtain ⟨⟨z0, z1, z2, z3⟩, z4, z5, z6, z7⟩ := res4_facts HR.out
    have hlt := (Array.getElem?_eq_some_iff.1 HR.out).1
    go_wp2
    refine bodyPost_ret (results_cell_slot rfl _ _ (w.heap.size) 47 _ (0, 0) _ (.int .i64 0) rfl rfl (blk_next (res4_set HR.out) (allocs_below1 _ _)) Tryz.underlying47 rfl (by kernel_rfl)) rfl ?_
    exact ⟨_, _, _, _, _, _, _, _, rfl, ((HD.out.stay set4_stay (noInt_one (noInt4 HR.out))).below (allocs_below1 _ _)).as HDD.out, bt (fin4 HB.out (by omega)) (allocs_below1 _ _)⟩
end Go.Proofs.YtjphfdlpcakpeaaGreatDoor
