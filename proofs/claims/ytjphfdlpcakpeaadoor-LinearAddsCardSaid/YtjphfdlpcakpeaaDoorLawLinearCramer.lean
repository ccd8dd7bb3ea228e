/- LinearCramer, walked. -/
import Derived.Test.YtjphfdlpcakpeaaDoorLawLinearInverts
import Derived.Test.YtjphfdlpcakpeaaDoorPlainU
namespace Go.Proofs.YtjphfdlpcakpeaaDoor
open Go.RowKit Tally

theorem isMat_sq {m : Nat} (h : m ≤ 24) : IsMat m (fun _ => m) := by
  have e : m = 0 ∨ m ≠ 0 := by omega
  rcases e with rfl | e
  · exact ⟨fun i hi => absurd hi (Nat.not_lt_zero _), by decide, by unfold colsN; decide⟩
  · have ec : colsN m (fun _ => m) = m := by unfold colsN; rw [if_neg e]
    exact ⟨fun _ _ => ec.symm, h, by rw [ec]; exact h⟩
theorem cols_sq (m : Nat) : colsN m (fun _ => m) = m := by
  unfold colsN
  split
  · rename_i e; exact e.symm
  · rfl
theorem flat_src2 {w : World} {b o : Nat} {L : List Num} (h : ∀ k x, L[k]? = some x → Four w b (o + k * 4) x) : ∀ j u, (flat L)[j]? = some u → w.cell? ⟨b, o + j, none⟩ = some u := by
  intro j u hu
  have := flat_src h j u hu
  rwa [show (⟨b, o, none⟩ : Addr).add j = ⟨b, o + j, none⟩ from by simp [Addr.add]] at this
theorem below_put {B g o : Nat} {a w : World} {x : Num} (h : Below B a w) (hg : B ≤ g) : Below B a (putN w g o x) :=
  (((h.setCell (p := ⟨g, o, none⟩) hg _).setCell (p := ⟨g, o + 1, none⟩) hg _).setCell (p := ⟨g, o + 2, none⟩) hg _).setCell (p := ⟨g, o + 3, none⟩) hg _
/-- an own row of numbers: its block, its slice, a number of it -/
theorem own_block {w : World} {base m : Nat} {v : Value} {L : List Num} (h : OwnG notInt w base 40 4 v m (flat L)) (hl : L.length = m) (hm : 0 < m) :
    ∃ g c cur, v = .slice (some ⟨g, 0, none⟩) m c ∧ base ≤ g ∧ w.heap[g]? = some (.cells cur 40 (0, 0)) ∧ NoInt w g ∧ m ≤ c ∧ c ≤ 9223372036854775807 ∧ ∀ k x, L[k]? = some x → Four w g (k * 4) x := by
  have hs := h.sli hl
  rcases h.own.2 with ⟨rfl, h0⟩ | ⟨g, cap, cur, rfl, hb, hg, h1, h2, h3, h4⟩
  · omega
  · obtain ⟨a, b, o, c, e, _, _, r3, r4⟩ := hs
    injection e with e1 e2 e3
    have := r3 (by omega)
    rw [← e1] at this
    injection this with this
    injection this with q1 q2
    subst q1
    subst q2
    refine ⟨g, cap, cur, rfl, hb, hg, fun o K x e => ?_, h1, by simpa [maxLen] using h2, fun k x hx => ?_⟩
    · exact h.free g rfl o _ e K x rfl
    · have := r4 k x hx
      rwa [Nat.zero_add] at this
theorem cell_put {w : World} {g o i : Nat} {x : Num} {cur : Array Value} {T : TypeId} (h : w.heap[g]? = some (.cells cur T (0, 0))) (hi : i < o ∨ o + 4 ≤ i) : (putN w g o x).cell? ⟨g, i, none⟩ = w.cell? ⟨g, i, none⟩ := by
  have s1 := Joins.block_setCell (i := o) h (.bool x.n1)
  have s2 := Joins.block_setCell (i := o + 1) s1 (.slice x.a1 x.k1 x.c1)
  have s3 := Joins.block_setCell (i := o + 2) s2 (.bool x.n2)
  have s4 := Joins.block_setCell (i := o + 3) s3 (.slice x.a2 x.k2 x.c2)
  rw [Lib.cell_of_heap h, show putN w g o x = _ from rfl, putN, Lib.cell_of_heap s4]
  rw [Array.getElem?_setIfInBounds_ne (by omega), Array.getElem?_setIfInBounds_ne (by omega), Array.getElem?_setIfInBounds_ne (by omega), Array.getElem?_setIfInBounds_ne (by omega)]
theorem cell_put4 {w : World} {g o : Nat} {x : Num} {cur : Array Value} {T : TypeId} (h : w.heap[g]? = some (.cells cur T (0, 0))) (hi : o + 4 ≤ cur.size) : Four (putN w g o x) g o x := by
  have s1 := Joins.block_setCell (i := o) h (.bool x.n1)
  have s2 := Joins.block_setCell (i := o + 1) s1 (.slice x.a1 x.k1 x.c1)
  have s3 := Joins.block_setCell (i := o + 2) s2 (.bool x.n2)
  have s4 := Joins.block_setCell (i := o + 3) s3 (.slice x.a2 x.k2 x.c2)
  refine ⟨?_, ?_, ?_, ?_⟩ <;> (unfold putN; rw [Lib.cell_of_heap s4])
  · rw [Array.getElem?_setIfInBounds_ne (by omega), Array.getElem?_setIfInBounds_ne (by omega), Array.getElem?_setIfInBounds_ne (by omega), Array.getElem?_setIfInBounds_self_of_lt (by omega)]
  · rw [Array.getElem?_setIfInBounds_ne (by omega), Array.getElem?_setIfInBounds_ne (by omega), Array.getElem?_setIfInBounds_self_of_lt (by simp; omega)]
  · rw [Array.getElem?_setIfInBounds_ne (by omega), Array.getElem?_setIfInBounds_self_of_lt (by simp; omega)]
  · rw [Array.getElem?_setIfInBounds_self_of_lt (by simp; omega)]
theorem cell_size {w : World} {g i : Nat} {u : Value} {cur : Array Value} {T : TypeId} (h : w.heap[g]? = some (.cells cur T (0, 0))) (hc : w.cell? ⟨g, i, none⟩ = some u) : i < cur.size := by
  rw [Lib.cell_of_heap h] at hc
  exact (Array.getElem?_eq_some_iff.1 hc).1
/-- a number is stored in an own row -/
theorem rats_put {w : World} {g m cap c : Nat} {L : List Num} {x : Num} {q : Rat} {f : Nat → Rat} {cur : Array Value} {T : TypeId} (hl : L.length = m) (hg : w.heap[g]? = some (.cells cur T (0, 0))) (hni : NoInt w g) (h1 : m ≤ cap) (h2 : cap ≤ 9223372036854775807)
    (h4 : ∀ k x, L[k]? = some x → Four w g (k * 4) x) (hn : NumsR w L f) (hc : c < m) (hx : RatN w x q) : RatsR (putN w g (c * 4) x) (.slice (some ⟨g, 0, none⟩) m cap) m fun k => if k = c then q else f k := by
  have hni1 := noInt_one hni
  refine ⟨L.set c x, by simp [hl], ⟨_, g, 0, cap, by simp [hl], by simp [hl]; omega, h2, fun _ => rfl, fun k y hk => ?_⟩, fun k y hk => ?_⟩
  · rw [Nat.zero_add]
    by_cases e : k = c
    · subst e
      rw [List.getElem?_set_self (by omega)] at hk
      obtain rfl : x = y := by simpa using hk
      have h5 := h4 k L[k] (List.getElem?_eq_getElem (by omega))
      have := cell_size hg h5.2.2.2
      exact cell_put4 hg (by omega)
    · rw [List.getElem?_set_ne (Ne.symm e)] at hk
      obtain ⟨q0, q1, q2, q3⟩ := h4 k y hk
      refine ⟨?_, ?_, ?_, ?_⟩
      · rw [cell_put hg (by omega)]; exact q0
      · rw [cell_put hg (by omega)]; exact q1
      · rw [cell_put hg (by omega)]; exact q2
      · rw [cell_put hg (by omega)]; exact q3
  · show RatN _ y (if k = c then q else f k)
    by_cases e : k = c
    · subst e
      rw [if_pos rfl]
      rw [List.getElem?_set_self (by omega)] at hk
      obtain rfl : x = y := by simpa using hk
      exact RatR.stay hx putN_stay hni1
    · rw [if_neg e]
      rw [List.getElem?_set_ne (Ne.symm e)] at hk
      exact RatR.stay (hn k y hk) putN_stay hni1
theorem det_some {w : World} {v : Value} {m d : Nat} {L : Nat → Nat} {Z : Nat → Nat → Int} (h : MatsR w v m L (ratM d Z)) (hz : ∀ i, i < m → Small (L i) (Z i)) (hd : d ≤ 255) :
    Calls Tryd.prog 14 #[v] w fun e w' => ∃ q cd, GivesRE w q cd e w' := by
  by_cases hs : IsMat m L ∧ m = colsN m L
  · refine (det_yes h hs.1 hs.2 (fun i hi => rowD_num (fun k hk => hz i hi k (by have := hs.1.1 i hi; have := hs.2; omega)) hd) (by decide : 5 ≤ 100)).mono fun e w' h => ⟨_, _, h⟩
  · exact (det_no h hs).mono fun e w' h => ⟨_, _, h⟩

set_option maxHeartbeats 8000000 in
set_option maxRecDepth 100000 in
theorem lawCramer_any {w : World} {v u : Value} {m n d : Nat} {L : Nat → Nat} {Z : Nat → Nat → Int} {x : Nat → Int} (h : MatI w v m L Z) (hz : ∀ i, i < m → Small (L i) (Z i)) (hd : d ≤ 255) (hx : RowR w u n fun k => .int .i16 (x k)) (hxs : Small n x) (ht : Tab w) :
    Calls Tryd.prog 4 #[.agg #[v, .int .u8 d], u] w fun e w' => e = .returned (.bool true) ∧ Below w.heap.size w w' := by
  obtain ⟨i1, hi1, hz10, hz11, hz12⟩ := info_parts infoS
  obtain ⟨i2, hi2, hz20, hz21, hz22⟩ := info_parts infoQ4
  have HM := Lib.hid h
  have HZ := Lib.hid hz
  have HX := Lib.hid hx
  have HXS := Lib.hid hxs
  have HT := Lib.hid ht
  obtain ⟨a, b, o, c, rfl, -⟩ := h
  obtain ⟨a2, b2, o2, c2, rfl, -⟩ := hx
  clear hz hxs ht
  go_enter Tryd.func4, Tryd.ntmps4
  go_wp2_with fail
  obtain ⟨W1, hW, hs, hb, hc⟩ := alloc1 w (.cells #[.slice a m c, .int .u8 d] 24)
  rw [← hW]
  have HB := Lib.hid hb
  have HC := Lib.hid hc
  clear hW hs hb hc
  refine (awake22_any (HT.out.below HB.out)).mono ?_
  rintro e w1 ⟨rfl, hb⟩
  replace HC := Lib.hid (blk_next HC.out hb)
  replace HB := Lib.hid (bt HB.out hb)
  clear hb
  obtain ⟨e0, e1, e2, e3⟩ := res_facts HC.out
  go_wp2_with fail
  obtain ⟨W2, hW, hs, hb, hc⟩ := alloc1 w1 (.cells #[.slice a2 n c2] 25)
  rw [← hW]
  replace HB := Lib.hid (bt HB.out hb)
  replace HC := Lib.hid (blk_next HC.out hb)
  have HH := Lib.hid (heads_one hc)
  clear hW hs hb hc e0 e1 e2 e3
  by_cases hf : (∀ i, i < m → L i ≤ 6) ∧ (∀ i, i < 1 → n ≤ 6) ∧ m ≤ 6
  case neg =>
    have HF := Lib.hid hf
    clear hf
    refine (few_any (t := 6) (HM.out.heads.below HB.out) HH.out (by decide) false (iff_of_false (by decide) HF.out)).mono ?_
    rintro e w2 ⟨rfl, hb⟩
    replace HB := Lib.hid (bt HB.out hb)
    clear hb HH HC
    go_wp2
    go_ret
    exact ⟨rfl, HB.out⟩
  have HF := Lib.hid hf
  have hm6 := hf.2.2
  have hn6 := hf.2.1 0 (by decide)
  clear hf
  refine (few_any (t := 6) (HM.out.heads.below HB.out) HH.out (by decide) true (iff_of_true rfl HF.out)).mono ?_
  rintro e w2 ⟨rfl, hb⟩
  replace HB := Lib.hid (bt HB.out hb)
  replace HC := Lib.hid (blk_next HC.out hb)
  clear hb HH
  obtain ⟨e0, e1, e2, e3⟩ := res_facts HC.out
  go_wp2_with fail
  refine (rows_any (HM.out.below HB.out) HZ.out (fun i hi => by have := HF.out.1 i hi; omega) (by omega) hd).mono ?_
  rintro e w3 ⟨a3, b3, c3, d3, rfl, hm3, -, hb⟩
  have HA := Lib.hid hm3
  replace HB := Lib.hid (bt HB.out hb)
  clear hm3 hb HC HM e0 e1 e2 e3
  go_wp2_with fail
  refine (numbers_any (d := 2) (HX.out.below HB.out) HXS.out (by decide) (by omega)).mono ?_
  rintro e w4 ⟨a4, c4, rfl, hv4, hb⟩
  have HV := Lib.hid (show RatsR w4 (.slice a4 n c4) n (ratV 2 x) from hv4)
  replace HA := Lib.hid (HA.out.below hb)
  replace HB := Lib.hid (bt HB.out hb)
  clear hv4 hb HX
  go_wp2_with fail
  by_cases hok : IsMat m L ∧ m = colsN m L ∧ n = m
  case neg =>
    have HNO := Lib.hid hok
    clear hok
    refine (solve_no HA.out HV.out HNO.out).mono ?_
    rintro e w5 ⟨rfl, hb⟩
    replace HA := Lib.hid (HA.out.below hb)
    replace HB := Lib.hid (bt HB.out hb)
    clear hb HV
    go_wp2_with fail
    refine (det_some HA.out HZ.out hd).mono ?_
    rintro e w6 ⟨qd, cd, n1, a1, k1, c1, n2, a6, k2, c6, rfl, hq, hb⟩
    replace HB := Lib.hid (bt HB.out hb)
    clear hq hb HA
    go_wp2
    go_ret
    exact ⟨rfl, bt HB.out (allocs_below1 _ _)⟩
  have HI := Lib.hid hok.1
  have HCN := Lib.hid hok.2.1
  obtain rfl : m = n := hok.2.2.symm
  have hLn : ∀ i, i < m → L i = m := fun i hi => (hok.1.1 i hi).trans hok.2.1.symm
  have HZ2 := Lib.hid (fun (i : Nat) (hi : i < m) => (hLn i hi ▸ HZ.out i hi : Small m (Z i)))
  have HRD := Lib.hid (fun (i : Nat) (hi : i < m) => (rowD_num (HZ2.out i hi) hd : RowD 5 m (ratM d Z i)))
  have HFX := Lib.hid (fun (i : Nat) (hi : i < m) => (fewD_num (d := 2) (HXS.out i hi) (by decide) : FewD 5 (ratV 2 x i)))
  have HW := Lib.hid (wide_rows (N := 5) (M := 5) HRD.out HFX.out)
  have HEV := Lib.hid (show MatsR w4 (.slice a3 m c3) m (fun _ => m) (ratM d Z) from by have := HA.out.even hok.1; rw [← hok.2.1] at this; exact this)
  have hq : ((m : Int) == (m : Int)) = true := beq_self_eq_true _
  clear hok hLn
  refine (solve_yes HA.out HI.out HCN.out HV.out HW.out (by decide)).mono ?_
  rintro e w5 ⟨s, hrun, hb, hor⟩
  have HRun := Lib.hid hrun
  have HOr := Lib.hid hor
  replace HA := Lib.hid (HA.out.below hb)
  replace HV := Lib.hid (HV.out.below hb)
  replace HEV := Lib.hid (HEV.out.below hb)
  replace HB := Lib.hid (bt HB.out hb)
  have hrk := hrun.rank_le.2
  clear hrun hor hb
  by_cases hr : s.rank < m
  · obtain rfl : e = .returned (.tuple #[.slice none 0 0, .int .i64 14]) := by
      rcases HOr.out with h1 | h1
      · exact h1.2
      · exfalso; omega
    clear hr HOr HRun
    go_wp2_with fail
    refine (det_yes HA.out HI.out HCN.out HRD.out (by decide)).mono ?_
    rintro e w6 ⟨n1, a1, k1, c1, n2, a6, k2, c6, rfl, hqq, hb⟩
    replace HB := Lib.hid (bt HB.out hb)
    clear hqq hb HA HV HEV
    go_wp2
    go_ret
    exact ⟨rfl, bt HB.out (allocs_below1 _ _)⟩
  have hrm : s.rank = m := by omega
  have HR := Lib.hid hrm
  obtain ⟨a5, c5, rfl, h6⟩ : ∃ a5 c5, e = .returned (.tuple #[.slice a5 m c5, .int .i64 0]) ∧ RatsR w5 (.slice a5 m c5) m (fun i => s.A i m / s.A i i) := by
    rcases HOr.out with h1 | ⟨_, a5, c5, h1, h2⟩
    · exfalso; omega
    · exact ⟨a5, c5, h1, h2⟩
  have H6 := Lib.hid h6
  have HS := Lib.hid (fun (i : Nat) (hi : i < m) => Rg.mono (Rg.of (sol_fw HRun.out hrm HW.out i hi)) (show dgs 10 m ≤ 14000000000 by have := dgs_small (N := 10) (c := m) (by decide) (by omega); omega))
  have HRDt := Rg.mono (Rg.of (wide_fw HRun.out hrm HW.out)) (show dgs 10 m + 1 ≤ 14000000000 by have := dgs_small (N := 10) (c := m) (by decide) (by omega); omega)
  have HNE := Lib.hid (wide_ne HRun.out hrm)
  have HCR := Lib.hid (fun (c : Nat) (hc : c < m) => wide_cramer HRun.out hrm hc)
  clear hr hrm h6 HOr HRun hrk
  go_wp2_with fail
  refine (det_yes HA.out HI.out HCN.out HRD.out (by decide)).mono ?_
  rintro e w6 ⟨n6, a6, k6, c6, n7, a7, k7, c7, rfl, hqq, hb⟩
  have HD := Lib.hid hqq
  replace HA := Lib.hid (HA.out.below hb)
  replace HV := Lib.hid (HV.out.below hb)
  replace HEV := Lib.hid (HEV.out.below hb)
  replace H6 := Lib.hid (H6.out.below hb)
  replace HB := Lib.hid (bt HB.out hb)
  clear hqq hb
  go_wp2_with fail
  obtain ⟨w7, hW, hs, hb, hc⟩ := alloc1 w6 (.cells #[.bool n6, .slice a6 k6 c6, .bool n7, .slice a7 k7 c7] 40)
  rw [← hW]
  have HC := Lib.hid hc
  replace HD := Lib.hid (HD.out.below hb)
  replace HV := Lib.hid (HV.out.below hb)
  replace HEV := Lib.hid (HEV.out.below hb)
  replace H6 := Lib.hid (H6.out.below hb)
  replace HB := Lib.hid (bt HB.out hb)
  have hlt6 : w6.heap.size < w7.heap.size := by omega
  clear hW hs hb hc HA HCN HI HW
  obtain ⟨⟨d0, d1, d2, d3⟩, _, _, _, _⟩ := res4_facts HC.out
  have hks : ((detN m (ratM d Z)).num.sign == 0) = false := by
    rw [beq_eq_false_iff_ne]
    intro e
    exact HNE.out (Rat.num_eq_zero.1 (Int.sign_eq_zero_iff_zero.1 e))
  have HKS := Lib.hid hks
  clear hks
  refine (ratsign_any HD.out).mono ?_
  rintro e w8 ⟨rfl, hb⟩
  have hks := HKS.out
  replace HC := Lib.hid (blk_next HC.out hb)
  replace HD := Lib.hid (HD.out.below hb)
  replace HV := Lib.hid (HV.out.below hb)
  replace HEV := Lib.hid (HEV.out.below hb)
  replace H6 := Lib.hid (H6.out.below hb)
  replace HB := Lib.hid (bt HB.out hb)
  have hs8 := hb.size
  clear hb d0 d1 d2 d3
  obtain ⟨_, _, bA, oA, p3, p4⟩ := HEV.out.parts
  obtain ⟨_, _, bV, oV, q3, q4⟩ := HV.out.parts
  obtain ⟨_, _, bX, oX, r3, r4⟩ := H6.out.parts
  have P3 := Lib.hid p3
  have P4 := Lib.hid p4
  have Q3 := Lib.hid q3
  have Q4 := Lib.hid q4
  have R3 := Lib.hid r3
  have R4 := Lib.hid r4
  have HIS := Lib.hid (show IsMat m (fun _ => m) from isMat_sq (by omega))
  clear p3 p4 q3 q4 r3 r4
  go_wp2_with fail
  go_loopw [12] (fun ci wr => ∃ (k : Nat), ci = .int .i64 k ∧ k ≤ m ∧ Below w8.heap.size w8 wr) (fun ci _ => m - (intOf ci).toNat)
  case atStart => exact ⟨0, rfl, by omega, Below.refl _ _⟩
  case round =>
    obtain ⟨k, rfl, hk, hbr⟩ := hrel
    have HBr := Lib.hid hbr
    clear hbr hks
    by_cases hkm : k = m
    · obtain rfl : m = k := hkm.symm
      go_wp2
      go_ret
      exact ⟨rfl, bt HB.out HBr.out⟩
    have hkl : k < m := by omega
    have hki : (k : Int) < (m : Int) := by omega
    rename World => wo
    go_wp2_with fail
    go_loopw [13, 14] (fun ov iv wx => ∃ (j : Nat) (V : List Value) (sv : Value), sv = ov ∧ iv = .int .i64 j ∧ j ≤ m ∧ BuildM wo.heap.size wx ov V j (fun _ => m) (putC (ratM d Z) k (ratV 2 x)) ∧ Below wo.heap.size wo wx) (fun _ iv _ => m - (intOf iv).toNat)
    case atStart => exact ⟨0, [], _, rfl, rfl, by omega, BuildM.start _ _ _ _, Below.refl _ _⟩
    case round =>
      obtain ⟨j, V, ov, rfl, rfl, hj, hbm, hbx⟩ := hrel
      have HM := Lib.hid hbm
      have HBx := Lib.hid (bt HBr.out hbx)
      have HBo := Lib.hid hbx
      clear hbm hbx
      by_cases hjm : j = m
      · obtain rfl : m = j := hjm.symm
        obtain ⟨aO, cO, rfl, hmr⟩ := HM.out.mats
        have HMR := Lib.hid hmr
        have HPR := Lib.hid (putC_rows (c := k) HRD.out HFX.out)
        clear hmr
        go_wp2_with fail
        refine (det_yes HMR.out HIS.out (cols_sq m).symm HPR.out (by decide)).mono ?_
        rintro e v6 ⟨s6, t6, x6, y6, s7, t7, x7, y7, rfl, hn, hb⟩
        have HBv := Lib.hid (bt HBx.out hb)
        have HNN := Lib.hid (RatR.as hn (HCR.out k hkl))
        clear hn hb HMR HM HPR
        go_wp2_with fail
        obtain ⟨v7, hW, hs, hb, hc⟩ := alloc1 v6 (.cells #[.bool s6, .slice t6 x6 y6, .bool s7, .slice t7 x7 y7] 40)
        rw [← hW]
        have HBw := Lib.hid (bt HBv.out hb)
        have HN7 := Lib.hid (HNN.out.below hb)
        have HC7 := Lib.hid hc
        clear hW hs hb hc HNN
        obtain ⟨⟨f0, f1, f2, f3⟩, _, _, _, _⟩ := res4_facts HC7.out
        obtain ⟨⟨d0, d1, d2, d3⟩, _, _, _, _⟩ := res4_facts (blk_next HC.out HBw.out)
        obtain rfl := R3.out (by omega)
        obtain ⟨t, t4, tq⟩ := R4.out k hkl
        obtain ⟨t0, t1, t2, t3⟩ := t4.at HBw.out
        have HD7 := Lib.hid (HD.out.below HBw.out)
        have HT7 := Lib.hid (show RatR v7 (.agg #[.bool t.n1, .slice t.a1 t.k1 t.c1, .bool t.n2, .slice t.a2 t.k2 t.c2]) (s.A k m / s.A k k) from RatR.below tq HBw.out)
        have rs := HS.out k hkl
        clear t4 tq
        have HLS := Lib.hid (fun (w' : World) (hb : Below v7.heap.size v7 w') => (⟨keepc hb f0, keepc hb f1, keepc hb f2, keepc hb f3, keepc hb d0, keepc hb d1, keepc hb d2, keepc hb d3, keepc hb t0, keepc hb t1, keepc hb t2, keepc hb t3⟩ : w'.cell? ⟨v6.heap.size, 0, none⟩ = some (.bool s6) ∧ w'.cell? ⟨v6.heap.size, 1, none⟩ = some (.slice t6 x6 y6) ∧ w'.cell? ⟨v6.heap.size, 2, none⟩ = some (.bool s7) ∧ w'.cell? ⟨v6.heap.size, 3, none⟩ = some (.slice t7 x7 y7) ∧ w'.cell? ⟨w6.heap.size, 0, none⟩ = some (.bool n6) ∧ w'.cell? ⟨w6.heap.size, 1, none⟩ = some (.slice a6 k6 c6) ∧ w'.cell? ⟨w6.heap.size, 2, none⟩ = some (.bool n7) ∧ w'.cell? ⟨w6.heap.size, 3, none⟩ = some (.slice a7 k7 c7) ∧ w'.cell? ⟨bX, oX + k * 4, none⟩ = some (.bool t.n1) ∧ w'.cell? ⟨bX, oX + k * 4 + 1, none⟩ = some (.slice t.a1 t.k1 t.c1) ∧ w'.cell? ⟨bX, oX + k * 4 + 2, none⟩ = some (.bool t.n2) ∧ w'.cell? ⟨bX, oX + k * 4 + 3, none⟩ = some (.slice t.a2 t.k2 t.c2)))
        have HCZ := Lib.hid (show ((detN m (ratM d Z) * (s.A k m / s.A k k)).num * (detN m (ratM d Z) * (s.A k m / s.A k k)).den - (detN m (ratM d Z) * (s.A k m / s.A k k)).num * (detN m (ratM d Z) * (s.A k m / s.A k k)).den).sign = 0 by rw [Int.sub_self]; rfl)
        have rp := Rg.mul HRDt rs
        clear f0 f1 f2 f3 d0 d1 d2 d3 t0 t1 t2 t3
        refine wp_region_held_drew (S := fun w' => w'.cell? ⟨v6.heap.size, 0, none⟩ = some (.bool s6) ∧ w'.cell? ⟨v6.heap.size, 1, none⟩ = some (.slice t6 x6 y6) ∧ w'.cell? ⟨v6.heap.size, 2, none⟩ = some (.bool s7) ∧ w'.cell? ⟨v6.heap.size, 3, none⟩ = some (.slice t7 x7 y7) ∧ w'.cell? ⟨w6.heap.size, 0, none⟩ = some (.bool n6) ∧ w'.cell? ⟨w6.heap.size, 1, none⟩ = some (.slice a6 k6 c6) ∧ w'.cell? ⟨w6.heap.size, 2, none⟩ = some (.bool n7) ∧ w'.cell? ⟨w6.heap.size, 3, none⟩ = some (.slice a7 k7 c7) ∧ w'.cell? ⟨bX, oX + k * 4, none⟩ = some (.bool t.n1) ∧ w'.cell? ⟨bX, oX + k * 4 + 1, none⟩ = some (.slice t.a1 t.k1 t.c1) ∧ w'.cell? ⟨bX, oX + k * 4 + 2, none⟩ = some (.bool t.n2) ∧ w'.cell? ⟨bX, oX + k * 4 + 3, none⟩ = some (.slice t.a2 t.k2 t.c2)) (by kernel_rfl) ?_ (fun hHeld => ?_)
        · exact HLS.out _ (Below.drew (Below.refl _ _))
        (try dsimp only at hHeld)
        refine wpAnyH_take (i := 0) (oi := ({ dst := some 96, op := Op.move (Operand.tmp 17), type := 41, pos := "law.go:245", after := #[], guard := none } : Oper)) (v := ?y1_1_v) rfl (by kernel_rfl) (by kernel_rfl) (by kernel_rfl) (fun _ _ _ h => h) (Or.inl ⟨by rfl, ?y1_1_h⟩) hHeld ?y1_1_r
        case y1_1_h => (intro w hSw; (try dsimp only at hSw); go_simp; all_goals with_reducible rfl)
        (try simp only [Act.put, List.setIfInBounds_toArray, List.set_cons_zero, List.set_cons_succ])
        refine wpAnyH_take (i := 1) (oi := ({ dst := some 97, op := Op.binOp BinOp.neq 41 (Operand.tmp 96) (Operand.const (Value.int IntKind.i64 0)) 41, type := 4, pos := "law.go:245", after := #[{ on := 0, ground := Ground.data }], guard := none } : Oper)) (v := ?y1_2_v) rfl (by kernel_rfl) (by kernel_rfl) (by kernel_rfl) (fun _ _ _ h => h) (Or.inl ⟨by rfl, ?y1_2_h⟩) hHeld ?y1_2_r
        case y1_2_h => (intro w hSw; (try dsimp only at hSw); go_simp; all_goals with_reducible rfl)
        (try simp only [Act.put, List.setIfInBounds_toArray, List.set_cons_zero, List.set_cons_succ])
        refine wpAnyH_take (i := 2) (oi := ({ dst := some 98, op := Op.move (Operand.tmp 97), type := 4, pos := "law.go:245", after := #[{ on := 1, ground := Ground.data }], guard := none } : Oper)) (v := ?y1_3_v) rfl (by kernel_rfl) (by kernel_rfl) (by kernel_rfl) (fun _ _ _ h => h) (Or.inl ⟨by rfl, ?y1_3_h⟩) hHeld ?y1_3_r
        case y1_3_h => (intro w hSw; (try dsimp only at hSw); go_simp; all_goals with_reducible rfl)
        (try simp only [Act.put, List.setIfInBounds_toArray, List.set_cons_zero, List.set_cons_succ])
        refine wpAnyH_take (i := 3) (oi := ({ dst := some 99, op := Op.load 40 (Operand.tmp 16), type := 40, pos := "law.go:245", after := #[{ on := 2, ground := Ground.guard }], guard := some (2, false) } : Oper)) (v := ?y1_4_v) rfl (by kernel_rfl) (by kernel_rfl) (by kernel_rfl) (fun _ _ _ h => h) (Or.inl ⟨by rfl, ?y1_4_h⟩) hHeld ?y1_4_r
        case y1_4_h => (intro w hSw; (try dsimp only at hSw); go_simp; all_goals with_reducible rfl)
        (try simp only [Act.put, List.setIfInBounds_toArray, List.set_cons_zero, List.set_cons_succ])
        refine wpAnyH_take (i := 4) (oi := ({ dst := some 100, op := Op.load 40 (Operand.tmp 10), type := 40, pos := "law.go:245", after := #[{ on := 2, ground := Ground.guard }], guard := some (2, false) } : Oper)) (v := ?y1_5_v) rfl (by kernel_rfl) (by kernel_rfl) (by kernel_rfl) (fun _ _ _ h => h) (Or.inl ⟨by rfl, ?y1_5_h⟩) hHeld ?y1_5_r
        case y1_5_h => (intro w hSw; (try dsimp only at hSw); go_simp; all_goals with_reducible rfl)
        (try simp only [Act.put, List.setIfInBounds_toArray, List.set_cons_zero, List.set_cons_succ])
        refine wpAnyH_take (i := 5) (oi := ({ dst := some 101, op := Op.move (Operand.tmp 8), type := 34, pos := "law.go:245", after := #[{ on := 2, ground := Ground.guard }], guard := some (2, false) } : Oper)) (v := ?y1_6_v) rfl (by kernel_rfl) (by kernel_rfl) (by kernel_rfl) (fun _ _ _ h => h) (Or.inl ⟨by rfl, ?y1_6_h⟩) hHeld ?y1_6_r
        case y1_6_h => (intro w hSw; (try dsimp only at hSw); go_simp; all_goals with_reducible rfl)
        (try simp only [Act.put, List.setIfInBounds_toArray, List.set_cons_zero, List.set_cons_succ])
        refine wpAnyH_take (i := 6) (oi := ({ dst := some 102, op := Op.move (Operand.tmp 12), type := 3, pos := "law.go:245", after := #[{ on := 2, ground := Ground.guard }], guard := some (2, false) } : Oper)) (v := ?y1_7_v) rfl (by kernel_rfl) (by kernel_rfl) (by kernel_rfl) (fun _ _ _ h => h) (Or.inl ⟨by rfl, ?y1_7_h⟩) hHeld ?y1_7_r
        case y1_7_h => (intro w hSw; (try dsimp only at hSw); go_simp; all_goals with_reducible rfl)
        (try simp only [Act.put, List.setIfInBounds_toArray, List.set_cons_zero, List.set_cons_succ])
        refine wpAnyH_take (i := 7) (oi := ({ dst := some 103, op := Op.indexAddr 34 (Operand.tmp 101) (Operand.tmp 102), type := 0, pos := "law.go:245", after := #[{ on := 5, ground := Ground.data }, { on := 6, ground := Ground.data }, { on := 2, ground := Ground.guard }], guard := some (2, false) } : Oper)) (v := ?y1_8_v) rfl (by kernel_rfl) (by kernel_rfl) (by kernel_rfl) (fun _ _ _ h => h) (Or.inl ⟨by rfl, ?y1_8_h⟩) hHeld ?y1_8_r
        case y1_8_h => (intro w hSw; (try dsimp only at hSw); go_simp; all_goals with_reducible rfl)
        (try simp only [Act.put, List.setIfInBounds_toArray, List.set_cons_zero, List.set_cons_succ])
        refine wpAnyH_take (i := 8) (oi := ({ dst := some 104, op := Op.load 40 (Operand.tmp 103), type := 40, pos := "law.go:245", after := #[{ on := 7, ground := Ground.data }, { on := 2, ground := Ground.guard }], guard := some (2, false) } : Oper)) (v := ?y1_9_v) rfl (by kernel_rfl) (by kernel_rfl) (by kernel_rfl) (fun _ _ _ h => h) (Or.inl ⟨by rfl, ?y1_9_h⟩) hHeld ?y1_9_r
        case y1_9_h => (intro w hSw; (try dsimp only at hSw); go_simp; all_goals with_reducible rfl)
        (try simp only [Act.put, List.setIfInBounds_toArray, List.set_cons_zero, List.set_cons_succ])
        refine wpAnyH_ready (rs := [9]) (by kernel_rfl) (by simp) ?_
        refine AllReadyH.cons (o := ({ dst := some 105, op := Op.call { callee := Callee.value (Operand.func 12), args := #[Operand.tmp 100, Operand.tmp 104], argTypes := #[40, 40] }, type := 40, pos := "law.go:245", after := #[{ on := 4, ground := Ground.data }, { on := 8, ground := Ground.data }, { on := 2, ground := Ground.chain }, { on := 2, ground := Ground.guard }], guard := some (2, false) } : Oper)) rfl (fun K hK => ?_) AllReadyH.nil
        go_simp
        (go_at_call 12; (with_reducible refine ((ratmul_any (HD7.out.below (Below.drew (Below.refl _ _))) (HT7.out.below (Below.drew (Below.refl _ _))) HRDt rs (by decide)).mono fun _ _ h => h.plain).mono ?_); rintro e w9 ⟨n9, a9, k9, c9, n10, a10, k10, c10, rfl, hm, hbb⟩; have HZ9 := Lib.hid (bt (Below.drew (Below.refl v7.heap.size v7)) hbb); have HP := Lib.hid hm; clear hm hbb)
        first | refine hK.out _ _ ?_ (fun hHeld => ?_) | (go_wp2_with fail; refine hK.out _ _ ?_ (fun hHeld => ?_))
        · exact HLS.out _ HZ9.out
        clear hK K
        (try dsimp only at hHeld)
        (try simp only [Act.put, List.setIfInBounds_toArray, List.set_cons_zero, List.set_cons_succ])
        refine wpAnyH_ready (rs := [10]) (by kernel_rfl) (by simp) ?_
        refine AllReadyH.cons (o := ({ dst := some 106, op := Op.call { callee := Callee.value (Operand.func 16), args := #[Operand.tmp 99, Operand.tmp 105], argTypes := #[40, 40] }, type := 3, pos := "law.go:245", after := #[{ on := 3, ground := Ground.data }, { on := 9, ground := Ground.data }, { on := 9, ground := Ground.chain }, { on := 2, ground := Ground.guard }], guard := some (2, false) } : Oper)) rfl (fun K hK => ?_) AllReadyH.nil
        go_simp
        (go_at_call 16; (with_reducible refine (ratcmp_any (HN7.out.below HZ9.out) HP.out rp rp (by decide)).mono ?_); rintro e w10 ⟨rfl, hbb⟩; rw [HCZ.out]; have HZ10 := Lib.hid (bt HZ9.out hbb); clear hbb)
        first | refine hK.out _ _ ?_ (fun hHeld => ?_) | (go_wp2_with fail; refine hK.out _ _ ?_ (fun hHeld => ?_))
        · exact HLS.out _ HZ10.out
        clear hK K
        (try dsimp only at hHeld)
        (try simp only [Act.put, List.setIfInBounds_toArray, List.set_cons_zero, List.set_cons_succ])
        refine wpAnyH_take (i := 11) (oi := ({ dst := some 107, op := Op.binOp BinOp.neq 3 (Operand.tmp 106) (Operand.const (Value.int IntKind.i64 0)) 3, type := 4, pos := "law.go:245", after := #[{ on := 10, ground := Ground.data }, { on := 2, ground := Ground.guard }], guard := some (2, false) } : Oper)) (v := ?y1_10_v) rfl (by kernel_rfl) (by kernel_rfl) (by kernel_rfl) (fun _ _ _ h => h) (Or.inl ⟨by rfl, ?y1_10_h⟩) hHeld ?y1_10_r
        case y1_10_h => (intro w hSw; (try dsimp only at hSw); go_simp; all_goals with_reducible rfl)
        (try simp only [Act.put, List.setIfInBounds_toArray, List.set_cons_zero, List.set_cons_succ])
        refine wpAnyH_take (i := 12) (oi := ({ dst := some 108, op := Op.pick (Operand.tmp 98) (Operand.const (Value.bool true)) (Operand.tmp 107), type := 4, pos := "law.go:245", after := #[{ on := 2, ground := Ground.data }, { on := 11, ground := Ground.data }], guard := none } : Oper)) (v := ?y1_11_v) rfl (by kernel_rfl) (by kernel_rfl) (by kernel_rfl) (fun _ _ _ h => h) (Or.inl ⟨by rfl, ?y1_11_h⟩) hHeld ?y1_11_r
        case y1_11_h => (intro w hSw; (try dsimp only at hSw); go_simp; all_goals with_reducible rfl)
        (try simp only [Act.put, List.setIfInBounds_toArray, List.set_cons_zero, List.set_cons_succ])
        refine wpAnyH_done (by kernel_rfl) ?_ _
        have HBz := Lib.hid (bt HBw.out HZ10.out)
        clear HLS
        go_wp2
        go_roundw
        case rel => (first | exact ⟨k + 1, by go_num, by omega, HBz.out⟩ | ((repeat apply Exists.intro); exact ⟨⟨k + 1, by go_num, by omega, HBz.out⟩, rfl⟩))
        case measure => (simp [intOf]; omega)
      have hjl : j < m := by omega
      have hji : (j : Int) < (m : Int) := by omega
      have hVl := HM.out.len
      obtain rfl := P3.out (by omega)
      obtain ⟨a9, c9, u1, u2⟩ := P4.out j hjl
      obtain rfl := Q3.out (by omega)
      obtain ⟨t, t4, tq⟩ := Q4.out j hjl
      obtain ⟨Lr, hlr, ⟨aa, b9, o9, cc, hsl, y1, y2, y3, y4⟩, hnr⟩ := u2.below HBx.out
      rw [hlr] at hsl y1 y3
      injection hsl with e1 e2 e3
      subst e1 e3
      obtain rfl := y3 (by omega)
      have c0 := keepc HBx.out u1
      obtain ⟨t0, t1, t2, t3⟩ := t4.at HBx.out
      have htq := RatR.below tq HBx.out
      have hltA := World.block_lt_of_cell? _ _ c0
      have hltV := World.block_lt_of_cell? _ _ t0
      have HY4 := Lib.hid y4
      have HNr := Lib.hid hnr
      have HTQ := Lib.hid (show RatN wr t (ratV 2 x j) from htq)
      have HLr := Lib.hid hlr
      clear u1 u2 y4 hnr tq htq hlr
      go_wp2_with (at_builtin; refine wpList_append_good (G := notInt) _ rfl _ _ 34 rfl wr.heap.size 40 i2 (.agg #[.bool false, .slice none 0 0, .bool false, .slice none 0 0]) 4 64 Tryd.underlying34 hi2 hz20 hz21 hz22 rfl (by decide) (.slice (some ⟨wr.heap.size, 0, none⟩) 0 0) 0 [] rfl (OwnG.empty (heap_alloc_new _ _) (Nat.le_refl _)) ⟨b9, o9, none⟩ m c9 (flat Lr) rfl (by rw [flat_length, HLr.out]) ?_ (fun u hu => (flat_one u hu).1) (by unfold maxLen; omega) (by omega) (by simp) (fun u hu => (flat_one u hu).2) zero_notInt ?_)
      · exact flat_src2 (fun kk x hx => (HY4.out kk x hx).below (allocs_below1 _ _))
      · intro v3 w3 ho hg _
        have HB3 := Lib.hid (grown_below (allocs_below1 wr _) (OwnG.empty (G := notInt) (size := 4) (heap_alloc_new wr (.cells #[] 40)) (Nat.le_refl _)).own hg (Nat.le_refl _) (by simp))
        try simp only [Nat.zero_add, List.nil_append] at ho
        obtain ⟨g, cp, cur, rfl, hbg, hgg, hni, hmc, hcm, h4⟩ := own_block ho HLr.out (by omega)
        have HO := Lib.hid ho
        obtain ⟨yk, hyk⟩ : ∃ yk, Lr[k]? = some yk := ⟨_, List.getElem?_eq_getElem (by rw [HLr.out]; omega)⟩
        obtain ⟨g0, g1, g2, g3⟩ := h4 k yk hyk
        have z0 := Lib.frozen_of_heap hgg (k * 4)
        have z1 := Lib.frozen_of_heap hgg (k * 4 + 1)
        have z2 := Lib.frozen_of_heap hgg (k * 4 + 2)
        have z3 := Lib.frozen_of_heap hgg (k * 4 + 3)
        replace t0 := keepc HB3.out t0
        replace t1 := keepc HB3.out t1
        replace t2 := keepc HB3.out t2
        replace t3 := keepc HB3.out t3
        have hlg := (Array.getElem?_eq_some_iff.1 hgg).1
        have HB4 := Lib.hid (below_put (o := k * 4) (x := t) HB3.out hbg)
        have hsz4 : (putN w3 g (k * 4) t).heap.size = w3.heap.size := by simp [putN]
        have hal := heap_alloc_new (putN w3 g (k * 4) t) (.cells #[.slice (some ⟨g, 0, none⟩) m cp] 34)
        rw [hsz4] at hal
        have HAL := Lib.hid hal
        have HRW := Lib.hid ((rats_put HLr.out hgg hni hmc hcm h4 (HNr.out.below HB3.out) hkl (RatR.below HTQ.out HB3.out)).below (allocs_below1 _ (.cells #[.slice (some ⟨g, 0, none⟩) m cp] 34)))
        have HN := Lib.hid ((HM.out.below HB4.out).below (allocs_below1 _ (.cells #[.slice (some ⟨g, 0, none⟩) m cp] 34)))
        have HB5 := Lib.hid (bt (bt HBo.out HB4.out) (allocs_below1 _ (.cells #[.slice (some ⟨g, 0, none⟩) m cp] 34)))
        have hs3 := HB3.out.size
        have hso := HBo.out.size
        clear ho hg hgg hni h4 c0 hsz4 hal hyk
        go_wp2_with (at_builtin; refine wpList_append_good (G := OnlySl) _ rfl _ _ 30 rfl wo.heap.size 34 i1 (.slice none 0 0) 1 24 Tryd.underlying30 hi1 hz10 hz11 hz12 rfl (by decide) ov V.length V rfl HN.out.own ⟨w3.heap.size, 0, none⟩ 1 1 [.slice (some ⟨g, 0, none⟩) m cp] rfl rfl ?_ (one_cell HRW.out) (by unfold maxLen; omega) (by omega) (by simp; omega) (only_sl HRW.out) only_sl0 ?_)
        · first | exact row_one HAL.out | (intro jj u hu; have := row_one HAL.out jj u hu; simpa [Addr.add] using this) | (intro hu; have := row_one HAL.out 0 _ hu; simpa [Addr.add] using this)
        · intro v5 w5 ho hg _
          have HM5 := Lib.hid (HN.out.snoc (by rw [hVl]; exact ho) hg HRW.out)
          have HB6 := Lib.hid (grown_below HB5.out HN.out.own.own hg (Nat.le_refl _) (by simp [putN]; omega))
          clear ho hg HN HRW HAL HB5 HB4 HO
          go_wp2
          go_roundw
          case rel => (first | exact ⟨j + 1, _, _, rfl, by go_num, by omega, HM5.out, HB6.out⟩ | ((repeat apply Exists.intro); exact ⟨⟨j + 1, _, _, rfl, by go_num, by omega, HM5.out, HB6.out⟩, rfl⟩))
          case measure => (simp [intOf]; omega)
end Go.Proofs.YtjphfdlpcakpeaaDoor
