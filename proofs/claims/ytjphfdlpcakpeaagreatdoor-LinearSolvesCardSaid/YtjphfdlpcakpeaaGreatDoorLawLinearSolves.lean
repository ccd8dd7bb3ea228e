/- LinearSolves, walked. -/
import Derived.Test.YtjphfdlpcakpeaaGreatDoorRSolveZ
namespace Go.Proofs.YtjphfdlpcakpeaaGreatDoor
open Go.RowKit Tally

set_option maxHeartbeats 8000000 in
set_option maxRecDepth 100000 in
theorem lawSolves_any {w : World} {v u : Value} {m n d : Nat} {L : Nat → Nat} {Z : Nat → Nat → Int} {x : Nat → Int} (h : MatI w v m L Z) (hz : ∀ i, i < m → Small (L i) (Z i)) (hd : d ≤ 255) (hx : RowR w u n fun k => .int .i16 (x k)) (hxs : Small n x) (ht : Tab w) :
    Calls Tryz.prog 3 #[.agg #[v, .int .u8 d], u] w fun e w' => e = .returned (.bool true) ∧ Below w.heap.size w w' := by
  have HM := Lib.hid h
  have HZ := Lib.hid hz
  have HX := Lib.hid hx
  have HXS := Lib.hid hxs
  have HT := Lib.hid ht
  obtain ⟨a, b, o, c, rfl, -⟩ := h
  obtain ⟨a2, b2, o2, c2, rfl, -⟩ := hx
  clear hz hxs ht
  go_enter Tryz.func3, Tryz.ntmps3
  go_wp2_with fail
  obtain ⟨W1, hW, hs, hb, hc⟩ := alloc1 w (.cells #[.slice a m c, .int .u8 d] 24)
  rw [← hW]
  have HB := Lib.hid hb
  have HC := Lib.hid hc
  clear hW hs hb hc
  refine (awake22_any (HT.out.below HB.out)).mono ?_
  rintro e w1 ⟨rfl, hb⟩
  replace HC := Lib.hid (blk_next HC.out hb)
  replace HB := Lib.hid (bt HB.out hb)
  clear hb
  obtain ⟨e0, e1, e2, e3⟩ := res_facts HC.out
  go_wp2_with fail
  obtain ⟨W2, hW, hs, hb, hc⟩ := alloc1 w1 (.cells #[.slice a2 n c2] 25)
  rw [← hW]
  replace HB := Lib.hid (bt HB.out hb)
  replace HC := Lib.hid (blk_next HC.out hb)
  have HH := Lib.hid (heads_one hc)
  clear hW hs hb hc e0 e1 e2 e3
  by_cases hf : (∀ i, i < m → L i ≤ 26) ∧ (∀ i, i < 1 → n ≤ 26) ∧ m ≤ 26
  case neg =>
    have HF := Lib.hid hf
    clear hf
    refine (few_any (t := 26) (HM.out.heads.below HB.out) HH.out (by decide) false (iff_of_false (by decide) HF.out)).mono ?_
    rintro e w2 ⟨rfl, hb⟩
    replace HB := Lib.hid (bt HB.out hb)
    clear hb HH HC
    go_wp2
    go_ret
    exact ⟨rfl, HB.out⟩
  have HF := Lib.hid hf
  have hm26 := hf.2.2
  have hn26 := hf.2.1 0 (by decide)
  clear hf
  refine (few_any (t := 26) (HM.out.heads.below HB.out) HH.out (by decide) true (iff_of_true rfl HF.out)).mono ?_
  rintro e w2 ⟨rfl, hb⟩
  replace HB := Lib.hid (bt HB.out hb)
  replace HC := Lib.hid (blk_next HC.out hb)
  clear hb HH
  obtain ⟨e0, e1, e2, e3⟩ := res_facts HC.out
  go_wp2_with fail
  refine (rows_any (HM.out.below HB.out) HZ.out (fun i hi => by have := HF.out.1 i hi; omega) (by omega) hd).mono ?_
  rintro e w3 ⟨a3, b3, c3, d3, rfl, hm3, hr3, hb⟩
  have HA := Lib.hid hm3
  have HRA := Lib.hid hr3
  replace HB := Lib.hid (bt HB.out hb)
  replace HC := Lib.hid (blk_next HC.out hb)
  clear hm3 hr3 hb HM e0 e1 e2 e3
  obtain ⟨e0, e1, e2, e3⟩ := res_facts HC.out
  go_wp2_with fail
  refine (numbers_any (d := d) (HX.out.below HB.out) HXS.out hd (by omega)).mono ?_
  rintro e w4 ⟨a4, c4, rfl, hv, hb⟩
  have HV := Lib.hid (show RatsR w4 (.slice a4 n c4) n (ratV d x) from hv)
  replace HA := Lib.hid (HA.out.below hb)
  replace HRA := Lib.hid (HRA.out.below hb)
  replace HC := Lib.hid (blk_next HC.out hb)
  replace HB := Lib.hid (bt HB.out hb)
  clear hv hb e0 e1 e2 e3
  obtain ⟨K, hK⟩ : ∃ K, solLen m n L (ratM d Z) = K := ⟨_, rfl⟩
  obtain ⟨F, hF⟩ : ∃ F, solF m (ratM d Z) (ratV d x) = F := ⟨_, rfl⟩
  obtain ⟨cd, hcd⟩ : ∃ cd, solCode m n L (ratM d Z) = cd := ⟨_, rfl⟩
  have HK := Lib.hid hK
  have HFF := Lib.hid hF
  have HCD := Lib.hid hcd
  have HRF := Lib.hid (show ∀ k, k < K → Rg 14000000000 (F k) from fun k hk => by rw [← hF]; exact sol_small HZ.out hd HXS.out k (hK ▸ hk))
  have hcc : (cd == cd) = true := beq_self_eq_true _
  clear hK hF hcd
  go_wp2_with fail
  refine (solve_two HA.out HZ.out hd HV.out HXS.out).mono ?_
  rw [HK.out, HFF.out, HCD.out]
  rintro e w5 ⟨a5, c5, rfl, hv, hb⟩
  have HS1 := Lib.hid hv
  replace HRA := Lib.hid (HRA.out.below hb)
  replace HC := Lib.hid (blk_next HC.out hb)
  replace HB := Lib.hid (bt HB.out hb)
  clear hv hb HV HA
  obtain ⟨e0, e1, e2, e3⟩ := res_facts HC.out
  go_wp2_with fail
  refine (rnumbers_any (d := d) (HX.out.below HB.out) HXS.out hd (by omega)).mono ?_
  rintro e w6 ⟨a6, c6, rfl, hv, hb⟩
  have HV := Lib.hid (show rRatsR w6 (.slice a6 n c6) n (ratV d x) from hv)
  replace HS1 := Lib.hid (HS1.out.below hb)
  replace HRA := Lib.hid (HRA.out.below hb)
  replace HB := Lib.hid (bt HB.out hb)
  clear hv hb e0 e1 e2 e3 HC
  go_wp2_with fail
  refine (rsolve_two HRA.out HZ.out hd HV.out HXS.out).mono ?_
  rw [HK.out, HFF.out, HCD.out]
  rintro e w7 ⟨a7, c7, rfl, hv, hb⟩
  have HS2 := Lib.hid hv
  replace HS1 := Lib.hid (HS1.out.below hb)
  replace HB := Lib.hid (bt HB.out hb)
  clear hv hb HV HRA
  go_wp2_with fail
  refine (lsame_yes HS1.out HS2.out HRF.out (by decide) (HT.out.below HB.out)).mono ?_
  rintro e w8 ⟨rfl, hb⟩
  replace HB := Lib.hid (bt HB.out hb)
  clear hb HS1 HS2
  go_wp2
  go_ret
  exact ⟨rfl, HB.out⟩
end Go.Proofs.YtjphfdlpcakpeaaGreatDoor
