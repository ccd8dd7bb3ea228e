/- LinearInverts, walked. -/
import Derived.Test.YtjphfdlpcakpeaaDoorLinY
import Derived.Test.YtjphfdlpcakpeaaDoorLinE
import Derived.Test.YtjphfdlpcakpeaaDoorLinQ
import Derived.Test.YtjphfdlpcakpeaaDoorPlainT
namespace Go.Proofs.YtjphfdlpcakpeaaDoor
open Go.RowKit Tally

/-- a vector of the law's numbers -/
def ratV (d : Nat) (x : Nat → Int) : Nat → Rat := fun i => Rat.divInt (x i) (max 1 (d : Int))
def Small (n : Nat) (x : Nat → Int) : Prop := ∀ k, k < n → -32768 ≤ x k ∧ x k ≤ 32767
/-- the vector's header as a slice of slices -/
theorem heads_one {w : World} {g n c : Nat} {a : Option Addr} {T : TypeId} (h : w.heap[g]? = some (.cells #[.slice a n c] T (0, 0))) : HeadsR w (.slice (some ⟨g, 0, none⟩) 1 1) 1 (fun _ => n) := by
  refine ⟨_, g, 0, 1, rfl, Nat.le_refl _, by decide, fun _ => rfl, fun i hi => ⟨a, c, ?_⟩⟩
  obtain rfl : i = 0 := by omega
  rw [Lib.cell_of_heap h]; rfl

set_option maxHeartbeats 4000000 in
set_option maxRecDepth 100000 in
theorem lawInverts_any {w : World} {v u : Value} {m n d : Nat} {L : Nat → Nat} {Z : Nat → Nat → Int} {x : Nat → Int} (h : MatI w v m L Z) (hz : ∀ i, i < m → Small (L i) (Z i)) (hd : d ≤ 255) (hx : RowR w u n fun k => .int .i16 (x k)) (hxs : Small n x) (ht : Tab w) :
    Calls Tryd.prog 5 #[.agg #[v, .int .u8 d], u] w fun e w' => e = .returned (.bool true) ∧ Below w.heap.size w w' := by
  have HM := Lib.hid h
  have HZ := Lib.hid hz
  have HX := Lib.hid hx
  have HXS := Lib.hid hxs
  have HT := Lib.hid ht
  obtain ⟨a, b, o, c, rfl, -⟩ := h
  obtain ⟨a2, b2, o2, c2, rfl, -⟩ := hx
  clear hz hxs ht
  go_enter Tryd.func5, Tryd.ntmps5
  go_wp2_with fail
  obtain ⟨W1, hW, hs, hb, hc⟩ := alloc1 w (.cells #[.slice a m c, .int .u8 d] 24)
  rw [← hW]
  have HB := Lib.hid hb
  have HC := Lib.hid hc
  clear hW hs hb hc
  refine (awake22_any (HT.out.below HB.out)).mono ?_
  rintro e w1 ⟨rfl, hb⟩
  replace HC := Lib.hid (blk_next HC.out hb)
  replace HB := Lib.hid (bt HB.out hb)
  clear hb
  obtain ⟨e0, e1, e2, e3⟩ := res_facts HC.out
  go_wp2_with fail
  obtain ⟨W2, hW, hs, hb, hc⟩ := alloc1 w1 (.cells #[.slice a2 n c2] 25)
  rw [← hW]
  replace HB := Lib.hid (bt HB.out hb)
  replace HC := Lib.hid (blk_next HC.out hb)
  have HH := Lib.hid (heads_one hc)
  clear hW hs hb hc e0 e1 e2 e3
  by_cases hf : (∀ i, i < m → L i ≤ 10) ∧ (∀ i, i < 1 → n ≤ 10) ∧ m ≤ 10
  case neg =>
    have HF := Lib.hid hf
    clear hf
    refine (few_any (t := 10) (HM.out.heads.below HB.out) HH.out (by decide) false (iff_of_false (by decide) HF.out)).mono ?_
    rintro e w2 ⟨rfl, hb⟩
    replace HB := Lib.hid (bt HB.out hb)
    clear hb HH HC
    go_wp2
    go_ret
    exact ⟨rfl, HB.out⟩
  have HF := Lib.hid hf
  have hm10 := hf.2.2
  have hn10 := hf.2.1 0 (by decide)
  clear hf
  refine (few_any (t := 10) (HM.out.heads.below HB.out) HH.out (by decide) true (iff_of_true rfl HF.out)).mono ?_
  rintro e w2 ⟨rfl, hb⟩
  replace HB := Lib.hid (bt HB.out hb)
  replace HC := Lib.hid (blk_next HC.out hb)
  clear hb HH
  obtain ⟨e0, e1, e2, e3⟩ := res_facts HC.out
  go_wp2_with fail
  refine (rows_any (HM.out.below HB.out) HZ.out (fun i hi => by have := HF.out.1 i hi; omega) (by omega) hd).mono ?_
  rintro e w3 ⟨a3, b3, c3, d3, rfl, hm3, -, hb⟩
  have HA := Lib.hid hm3
  replace HB := Lib.hid (bt HB.out hb)
  clear hm3 hb HC HM e0 e1 e2 e3
  go_wp2_with fail
  refine (numbers_any (d := 7) (HX.out.below HB.out) HXS.out (by decide) (by omega)).mono ?_
  rintro e w4 ⟨a4, c4, rfl, hv4, hb⟩
  have HV := Lib.hid (show RatsR w4 (.slice a4 n c4) n (ratV 7 x) from hv4)
  replace HA := Lib.hid (HA.out.below hb)
  replace HB := Lib.hid (bt HB.out hb)
  clear hv4 hb HX
  go_wp2_with fail
  by_cases hok : IsMat m L ∧ n = colsN m L
  case neg =>
    have HNO := Lib.hid hok
    clear hok
    refine (apply_no HA.out HV.out HNO.out).mono ?_
    rintro e w5 ⟨rfl, hb⟩
    replace HB := Lib.hid (bt HB.out hb)
    clear hb HA HV
    go_wp2
    go_ret
    exact ⟨rfl, HB.out⟩
  have HI := Lib.hid hok.1
  have HCN := Lib.hid hok.2.symm
  have hLn : ∀ i, i < m → L i = n := fun i hi => (hok.1.1 i hi).trans hok.2.symm
  have HZ2 := Lib.hid (fun (i : Nat) (hi : i < m) => (hLn i hi ▸ HZ.out i hi : Small n (Z i)))
  have hfew : ∀ i, i < m → ∀ k, k ≤ n → FewD 11 (sumTo k (fun j => ratM d Z i j * ratV 7 x j)) := fun i hi => sum_few (d := d) (e := 7) (n := n) (by omega) hd (by decide) (HZ2.out i hi) HXS.out
  have HFW := Lib.hid hfew
  have HRA := Lib.hid (fun (i : Nat) (hi : i < m) (k : Nat) (hk : k < n) => Rg.mono (int16_fw (HZ2.out i hi k hk).1 (HZ2.out i hi k hk).2 hd : Rg 5 (ratM d Z i k)) (show 5 ≤ 11 by decide))
  have HRX := Lib.hid (fun (k : Nat) (hk : k < n) => Rg.mono (int16_fw (HXS.out k hk).1 (HXS.out k hk).2 (show 7 ≤ 255 by decide) : Rg 5 (ratV 7 x k)) (show 5 ≤ 11 by decide))
  have HRS := Lib.hid (fun (i : Nat) (hi : i < m) (k : Nat) (hk : k ≤ n) => Rg.of (FewD.fw (hfew i hi k hk)))
  clear hok hLn hfew
  refine (apply_yes HA.out HI.out HCN.out HV.out HRA.out HRX.out HRS.out (by decide)).mono ?_
  rintro e w5 ⟨a5, c5, rfl, hy5, hb⟩
  have HY := Lib.hid hy5
  replace HA := Lib.hid (HA.out.below hb)
  replace HV := Lib.hid (HV.out.below hb)
  replace HB := Lib.hid (bt HB.out hb)
  clear hy5 hb
  by_cases hmn : m = n
  case neg =>
    have hne : ((m : Int) == (n : Int)) = false := by rw [beq_eq_false_iff_ne]; omega
    have HMN := Lib.hid hmn
    clear hmn
    go_wp2
    go_ret
    exact ⟨rfl, HB.out⟩
  subst hmn
  have hq : ((m : Int) == (m : Int)) = true := beq_self_eq_true _
  go_wp2_with fail
  have hwide : ∀ i, i < m → RowD 16 (m + 1) (wideM m (ratM d Z) (fun i => sumTo m (fun j => ratM d Z i j * ratV 7 x j)) i) :=
    wide_rows (N := 5) (M := 11) (fun i hi => rowD_num (HZ2.out i hi) hd) (fun i hi => HFW.out i hi m (Nat.le_refl _))
  have HW := Lib.hid hwide
  clear hwide
  refine (solve_yes HA.out HI.out HCN.out.symm HY.out HW.out (by decide)).mono ?_
  rintro e w6 ⟨s, hrun, hb, hor⟩
  have HRun := Lib.hid hrun
  have HOr := Lib.hid hor
  replace HA := Lib.hid (HA.out.below hb)
  replace HV := Lib.hid (HV.out.below hb)
  replace HY := Lib.hid (HY.out.below hb)
  replace HB := Lib.hid (bt HB.out hb)
  have hrk := hrun.rank_le.2
  clear hrun hor hb
  have HRD := Lib.hid (fun (i : Nat) (hi : i < m) => (by rw [HCN.out]; exact rowD_num (HZ2.out i hi) hd : RowD 5 (colsN m L) (ratM d Z i)))
  by_cases hr : s.rank < m
  · have hri : (s.rank : Int) < (m : Int) := by omega
    have HR := Lib.hid hr
    obtain rfl : e = .returned (.tuple #[.slice none 0 0, .int .i64 14]) := by
      rcases HOr.out with h1 | h1
      · exact h1.2
      · exfalso; omega
    clear hr
    go_wp2_with fail
    refine (rank_yes HA.out HI.out HRD.out (by decide)).mono ?_
    rintro e w7 ⟨t, hrun, rfl, hb⟩
    rw [HCN.out] at hrun
    have hrr : t.rank = s.rank := (wide_rank HRun.out hrun).symm
    rw [hrr]
    replace HB := Lib.hid (bt HB.out hb)
    clear hrun hrr hb HOr HRun HA HV HY
    go_wp2
    go_ret
    exact ⟨rfl, HB.out⟩
  · have hrm : s.rank = m := by omega
    have HR := Lib.hid hrm
    obtain ⟨a6, c6, rfl, h6⟩ : ∃ a6 c6, e = .returned (.tuple #[.slice a6 m c6, .int .i64 0]) ∧ RatsR w6 (.slice a6 m c6) m (ratV 7 x) := by
      rcases HOr.out with h1 | ⟨_, a6, c6, h1, h2⟩
      · exfalso; omega
      · exact ⟨a6, c6, h1, h2.congr fun k hk => (solve_law HRun.out hrm (fun i _ => rfl) k hk).symm⟩
    have H6 := Lib.hid h6
    clear hr hrm h6 HOr
    go_wp2_with fail
    refine (rank_yes HA.out HI.out HRD.out (by decide)).mono ?_
    rintro e w7 ⟨t, hrun, rfl, hb⟩
    rw [HCN.out] at hrun
    have hrr : t.rank = m := (wide_rank HRun.out hrun).symm.trans HR.out
    rw [hrr]
    replace HB := Lib.hid (bt HB.out hb)
    replace HA := Lib.hid (HA.out.below hb)
    replace HV := Lib.hid (HV.out.below hb)
    replace HY := Lib.hid (HY.out.below hb)
    replace H6 := Lib.hid (H6.out.below hb)
    clear hrun hrr hb HRun
    go_wp2_with fail
    refine (linequal_any H6.out HV.out HRX.out HRX.out (by decide) true (iff_of_true rfl ⟨rfl, fun _ _ => rfl⟩)).mono ?_
    rintro e w8 ⟨rfl, hb⟩
    replace HB := Lib.hid (bt HB.out hb)
    replace HA := Lib.hid (HA.out.below hb)
    replace HY := Lib.hid (HY.out.below hb)
    replace H6 := Lib.hid (H6.out.below hb)
    clear hb HV
    go_wp2_with fail
    refine (check_yes HA.out HI.out HCN.out H6.out HY.out HRA.out HRX.out HRS.out (fun k hk => HRS.out k hk m (Nat.le_refl _)) (by decide) true (iff_of_true rfl ⟨rfl, fun _ _ => rfl⟩)).mono ?_
    rintro e w9 ⟨rfl, hb⟩
    replace HB := Lib.hid (bt HB.out hb)
    clear hb HA HY H6
    go_wp2
    go_ret
    exact ⟨rfl, HB.out⟩
end Go.Proofs.YtjphfdlpcakpeaaDoor
