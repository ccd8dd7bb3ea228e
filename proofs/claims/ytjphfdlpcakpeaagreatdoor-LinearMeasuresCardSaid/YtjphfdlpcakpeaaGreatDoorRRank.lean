/- Rank and Det of both. -/
import Derived.Test.YtjphfdlpcakpeaaGreatDoorRMeas
namespace Go.Proofs.YtjphfdlpcakpeaaGreatDoor
open Go.RowKit Tally

set_option maxHeartbeats 4000000 in
set_option maxRecDepth 100000 in
theorem rank_no {w : World} {v : Value} {m : Nat} {L : Nat → Nat} {A : Mx} (h : MatsR w v m L A) (hno : ¬ IsMat m L) :
    Calls Tryz.prog 16 #[v] w fun e w' => e = .returned (.tuple #[.int .i64 0, .int .i64 1]) ∧ Below w.heap.size w w' := by
  have H := Lib.hid h
  have HNO := Lib.hid hno
  obtain ⟨a, c, rfl⟩ := h.shape
  clear h hno
  go_enter Tryz.func16, Tryz.ntmps16
  go_wp2_with fail
  refine (valid_any H.out false (iff_of_false (by decide) HNO.out)).mono ?_
  rintro e w' ⟨rfl, hww⟩
  obtain rfl := hww.symm
  go_wp2
  go_ret2
  exact ⟨rfl, Below.refl _ _⟩
set_option maxHeartbeats 4000000 in
set_option maxRecDepth 100000 in
theorem rrank_no {w : World} {v : Value} {m : Nat} {L : Nat → Nat} {A : Mx} (h : rMatsR w v m L A) (hno : ¬ IsMat m L) :
    Calls Tryz.prog 17 #[v] w fun e w' => e = .returned (.tuple #[.int .i64 0, .int .i64 1]) ∧ Below w.heap.size w w' := by
  have H := Lib.hid h
  have HNO := Lib.hid hno
  obtain ⟨a, c, rfl⟩ := h.shape
  clear h hno
  go_enter Tryz.func17, Tryz.ntmps17
  go_wp2_with fail
  refine (rvalid_any H.out false (iff_of_false (by decide) HNO.out)).mono ?_
  rintro e w1 ⟨rfl, hb⟩
  have HB := Lib.hid hb
  clear hb
  go_wp2
  go_ret2
  exact ⟨rfl, HB.out⟩

set_option maxHeartbeats 4000000 in
set_option maxRecDepth 100000 in
theorem rrank_yes {w : World} {v : Value} {m N : Nat} {L : Nat → Nat} {A : Mx} (h : rMatsR w v m L A) (hv : IsMat m L) (hN : ∀ i, i < m → RowD N (colsN m L) (A i)) (hNN : N ≤ 100) :
    Calls Tryz.prog 17 #[v] w fun e w' => ∃ t : St, Run normR m A (colsN m L) t ∧ e = .returned (.tuple #[.int .i64 (t.rank : Nat), .int .i64 0]) ∧ Below w.heap.size w w' := by
  have H := Lib.hid h
  have HV := Lib.hid hv
  have HN := Lib.hid hN
  have HE := Lib.hid (h.even hv)
  have h24 := hv.2.1
  have n24 := hv.2.2
  obtain ⟨a, c, rfl⟩ := h.shape
  obtain ⟨n, hn⟩ : ∃ n, colsN m L = n := ⟨_, rfl⟩
  rw [hn] at HE HN n24 ⊢
  have HC := Lib.hid hn
  clear h hv hN hn
  go_enter Tryz.func17, Tryz.ntmps17
  go_wp2_with fail
  refine (rvalid_any H.out true (iff_of_true rfl HV.out)).mono ?_
  rintro e w1 ⟨rfl, hb⟩
  have hw1 := hb.size
  have HB1 := Lib.hid hb
  replace H := Lib.hid (H.out.below hb)
  replace HE := Lib.hid (HE.out.below hb)
  clear hb
  go_wp2_with fail
  by_cases hn0 : n = 0
  · subst hn0
    have key : Calls Tryz.prog 30 #[.slice a m c, .slice none 0 0] w1 fun e w' => (∃ (a : Option Addr) (c : Nat), e = .returned (.slice a m c)) ∧ Below w1.heap.size w1 w' := rcopied_flat HE.out (by omega)
    refine key.mono ?_
    rintro e w2 ⟨⟨a3, c3, rfl⟩, hb⟩
    have HB2 := Lib.hid (bt HB1.out hb)
    replace H := Lib.hid (H.out.below hb)
    clear hb key
    go_wp2_with fail
    refine (rcolumns_any H.out).mono ?_
    rintro e w' ⟨rfl, hww⟩
    obtain rfl := hww.symm
    rw [HC.out]
    go_wp2_with fail
    refine (rreduce_zero (w := w2) (a := a3) (k := m) (c := c3)).mono ?_
    rintro e w3 ⟨n1, a4, k1, c4, n2, a5, k2, c5, rfl, hu, hb⟩
    have HB3 := Lib.hid (bt HB2.out hb)
    clear hu hb
    go_wp2
    go_ret2
    exact ⟨_, Run.zero, rfl, bt HB3.out (allocs_below1 _ _)⟩
  · have hm : 0 < m := by
      rcases Nat.eq_zero_or_pos m with q | q
      · exfalso; apply hn0; rw [← HC.out, q]; rfl
      · exact q
    refine (rcopied_any (y := fun _ => 0) HE.out (rrats_none _ _) (by omega) (by omega) (by omega) (.inl ⟨rfl, rfl, rfl⟩)).mono ?_
    rintro e w2 ⟨sv, rfl, ⟨V, hx⟩, hb⟩
    obtain ⟨G, c3, g, cp, rfl, h1, h2, hmx, hG, hg⟩ := hx.done (by omega) hm
    have HX := Lib.hid hmx
    have HG := Lib.hid hg
    have HB2 := Lib.hid (bt HB1.out hb)
    have hs12 := hb.size
    replace H := Lib.hid (H.out.below hb)
    clear hx hb hmx hg HE
    go_wp2_with fail
    refine (rcolumns_any H.out).mono ?_
    rintro e w' ⟨rfl, hww⟩
    obtain rfl := hww.symm
    rw [HC.out]
    go_wp2_with fail
    refine (rreduce_any HX.out hm hs12 hG HG.out (Nat.le_refl n) (by omega) (by omega) h1 h2 HN.out hNN).mono ?_
    rintro e w3 ⟨t, g2, cp2, n1, a4, k1, c4, n2, a5, k2, c5, hrun, rfl, hu, hmx, hg2, hb⟩
    have HRun := Lib.hid hrun
    have HB3 := Lib.hid (HB2.out.trans (Below.mono hb hw1))
    clear hrun hu hmx hg2 hb
    go_wp2
    go_ret2
    exact ⟨t, HRun.out, rfl, bt HB3.out (allocs_below1 _ _)⟩

theorem rg_none : Rg 1 (0 : Rat) := by
  refine ⟨?_, ?_⟩ <;> first | decide +kernel | (unfold Dg; decide +kernel)
/-- one number as a slice -/
theorem rats_single {w : World} {g : Nat} {n1 : Bool} {a1 : Option Addr} {k1 c1 : Nat} {n2 : Bool} {a2 : Option Addr} {k2 c2 : Nat} {q : Rat} {T : TypeId} (h : w.heap[g]? = some (.cells #[.bool n1, .slice a1 k1 c1, .bool n2, .slice a2 k2 c2] T (0, 0))) (hq : RatR w (.agg #[.bool n1, .slice a1 k1 c1, .bool n2, .slice a2 k2 c2]) q) : RatsR w (.slice (some ⟨g, 0, none⟩) 1 1) 1 (fun _ => q) := by
  obtain ⟨⟨d0, d1, d2, d3⟩, _⟩ := res4_facts h
  refine ⟨[⟨n1, a1, k1, c1, n2, a2, k2, c2⟩], rfl, ⟨_, g, 0, 1, rfl, Nat.le_refl _, by decide, fun _ => rfl, fun k x hx => ?_⟩, fun k x hx => ?_⟩
  · match k, hx with
    | 0, hx => obtain rfl : _ = x := by simpa using hx
               exact ⟨d0, d1, d2, d3⟩
  · match k, hx with
    | 0, hx => obtain rfl : _ = x := by simpa using hx
               exact hq
theorem rrats_single {w : World} {g : Nat} {n1 : Bool} {a1 : Option Addr} {k1 c1 : Nat} {n2 : Bool} {a2 : Option Addr} {k2 c2 : Nat} {q : Rat} {T : TypeId} (h : w.heap[g]? = some (.cells #[.bool n1, .slice a1 k1 c1, .bool n2, .slice a2 k2 c2] T (0, 0))) (hq : RRatR w (.agg #[.bool n1, .slice a1 k1 c1, .bool n2, .slice a2 k2 c2]) q) : rRatsR w (.slice (some ⟨g, 0, none⟩) 1 1) 1 (fun _ => q) := by
  obtain ⟨⟨d0, d1, d2, d3⟩, _⟩ := res4_facts h
  refine ⟨[⟨n1, a1, k1, c1, n2, a2, k2, c2⟩], rfl, ⟨_, g, 0, 1, rfl, Nat.le_refl _, by decide, fun _ => rfl, fun k x hx => ?_⟩, fun k x hx => ?_⟩
  · match k, hx with
    | 0, hx => obtain rfl : _ = x := by simpa using hx
               exact ⟨d0, d1, d2, d3⟩
  · match k, hx with
    | 0, hx => obtain rfl : _ = x := by simpa using hx
               exact hq
/-- the rank, the determinant, and the codes -/
noncomputable def rankV (m : Nat) (L : Nat → Nat) (A : Mx) : Nat := open Classical in if IsMat m L then (Classical.choose (run_exists upR m A (colsN m L))).rank else 0
noncomputable def rankC (m : Nat) (L : Nat → Nat) : Int := open Classical in if IsMat m L then 0 else 1
noncomputable def detV (m : Nat) (L : Nat → Nat) (A : Mx) : Rat := open Classical in if IsMat m L ∧ m = colsN m L then detN m A else 0
noncomputable def detC (m : Nat) (L : Nat → Nat) : Int := open Classical in if IsMat m L ∧ m = colsN m L then 0 else 1
section
variable {w : World} {v : Value} {m d : Nat} {L : Nat → Nat} {Z : Nat → Nat → Int}
theorem rowD_small (hv : IsMat m L) (hz : ∀ i, i < m → Small (L i) (Z i)) (hd : d ≤ 255) : ∀ i, i < m → RowD 5 (colsN m L) (ratM d Z i) := fun i hi => rowD_num (fun k hk => hz i hi k (by have := hv.1 i hi; omega)) hd
theorem rank_two (h : MatsR w v m L (ratM d Z)) (hz : ∀ i, i < m → Small (L i) (Z i)) (hd : d ≤ 255) :
    Calls Tryz.prog 16 #[v] w fun e w' => e = .returned (.tuple #[.int .i64 (rankV m L (ratM d Z) : Nat), .int .i64 (rankC m L)]) ∧ Below w.heap.size w w' := by
  by_cases hv : IsMat m L
  · refine (rank_yes h hv (rowD_small hv hz hd) (by decide)).mono ?_
    rintro e w' ⟨s, hrun, rfl, hb⟩
    have hc := Classical.choose_spec (run_exists upR m (ratM d Z) (colsN m L))
    have e1 := (run_cols hrun (Nat.le_refl _) (fun _ _ _ => rfl) hc).1
    refine ⟨?_, hb⟩
    unfold rankV rankC
    rw [if_pos hv, if_pos hv, e1]
  · refine (rank_no h hv).mono ?_
    rintro e w' ⟨rfl, hb⟩
    refine ⟨?_, hb⟩
    unfold rankV rankC
    rw [if_neg hv, if_neg hv]; rfl
theorem rrank_two (h : rMatsR w v m L (ratM d Z)) (hz : ∀ i, i < m → Small (L i) (Z i)) (hd : d ≤ 255) :
    Calls Tryz.prog 17 #[v] w fun e w' => e = .returned (.tuple #[.int .i64 (rankV m L (ratM d Z) : Nat), .int .i64 (rankC m L)]) ∧ Below w.heap.size w w' := by
  by_cases hv : IsMat m L
  · refine (rrank_yes h hv (rowD_small hv hz hd) (by decide)).mono ?_
    rintro e w' ⟨t, hrun, rfl, hb⟩
    have hc := Classical.choose_spec (run_exists upR m (ratM d Z) (colsN m L))
    have e1 := (run_agree hc t hrun).1
    refine ⟨?_, hb⟩
    unfold rankV rankC
    rw [if_pos hv, if_pos hv, e1]
  · refine (rrank_no h hv).mono ?_
    rintro e w' ⟨rfl, hb⟩
    refine ⟨?_, hb⟩
    unfold rankV rankC
    rw [if_neg hv, if_neg hv]; rfl
theorem det_two (h : MatsR w v m L (ratM d Z)) (hz : ∀ i, i < m → Small (L i) (Z i)) (hd : d ≤ 255) :
    Calls Tryz.prog 14 #[v] w (GivesRE w (detV m L (ratM d Z)) (detC m L)) := by
  by_cases hv : IsMat m L ∧ m = colsN m L
  · unfold detV detC
    rw [if_pos hv, if_pos hv]
    exact det_yes h hv.1 hv.2 (fun i hi => by have := rowD_small hv.1 hz hd i hi; rw [← hv.2] at this; exact this) (by decide : 5 ≤ 100)
  · unfold detV detC
    rw [if_neg hv, if_neg hv]
    exact det_no h hv
theorem rdet_two (h : rMatsR w v m L (ratM d Z)) (hz : ∀ i, i < m → Small (L i) (Z i)) (hd : d ≤ 255) :
    Calls Tryz.prog 15 #[v] w (rGivesRE w (detV m L (ratM d Z)) (detC m L)) := by
  by_cases hv : IsMat m L ∧ m = colsN m L
  · unfold detV detC
    rw [if_pos hv, if_pos hv]
    by_cases hm : m = 0
    · subst hm
      exact rdet_zero h
    · exact rdet_pos h (by omega) hv.1 hv.2 (fun i hi => by have := rowD_small hv.1 hz hd i hi; rw [← hv.2] at this; exact this) (by decide : 5 ≤ 100)
  · unfold detV detC
    rw [if_neg hv, if_neg hv]
    exact rdet_no h hv
theorem detV_small (hz : ∀ i, i < m → Small (L i) (Z i)) (hd : d ≤ 255) : Rg 14000000000 (detV m L (ratM d Z)) := by
  unfold detV
  split
  case isFalse => exact rg_none.mono (by decide)
  case isTrue hv =>
    obtain ⟨s, hs⟩ := run_exists upR m (ratM d Z) m
    have h24 := hv.1.2.1
    have hsm := dgs_small (N := 5) (c := m) (by decide) (by omega)
    rw [run_detN hs]
    split
    · exact Rg.mono (Rg.of (run_det (w := m) (N := 5) (fun _ _ _ _ h1 h2 h3 h4 => rows_up h1 h2 h3 h4) hs (Nat.le_refl m) (fun i hi => by have := rowD_small hv.1 hz hd i hi; rw [← hv.2] at this; exact this))) hsm
    · exact rg_none.mono (by decide)
end
end Go.Proofs.YtjphfdlpcakpeaaGreatDoor
