/- Texts put together: RSolve, LawZS. -/
import Derived.Test.YtjphfdlpcakpeaaGreatDoorRedu
import Derived.Test.YtjphfdlpcakpeaaGreatDoorRCopZ
import Derived.Test.YtjphfdlpcakpeaaGreatDoorPlainZ
import Derived.Test.YtjphfdlpcakpeaaGreatDoorLawZZ
import Derived.Test.YtjphfdlpcakpeaaGreatDoorLawLinearAdds

/- The reference's Solve. -/

namespace Go.Proofs.YtjphfdlpcakpeaaGreatDoor
open Go.RowKit Tally

theorem BuildX.shape {B : Nat} {w : World} {v : Value} {V : List Value} {k n : Nat} {A : Mx} (h : BuildX B w v V k n A) : ∃ a c, v = .slice a k c ∧ k ≤ c ∧ c ≤ 9223372036854775807 := by
  have hl := h.len
  rcases h.own.own.2 with ⟨hv, h0⟩ | ⟨g, cap, cur, hv, hb, hg, r1, r2, r3, r4⟩
  · exact ⟨none, 0, by rw [hv]; congr 1; omega, by omega, Nat.zero_le _⟩
  · exact ⟨some ⟨g, 0, none⟩, cap, by rw [hv, hl], by omega, by simpa [maxLen] using r2⟩

set_option maxHeartbeats 4000000 in
set_option maxRecDepth 100000 in
theorem rreduce_zero {w : World} {a : Option Addr} {k c : Nat} :
    Calls Tryz.prog 31 #[.slice a k c, .int .i64 0] w fun e w' => ∃ (n1 : Bool) (a1 : Option Addr) (k1 c1 : Nat) (n2 : Bool) (a2 : Option Addr) (k2 c2 : Nat),
      e = .returned (.tuple #[.int .i64 0, .agg #[.bool n1, .slice a1 k1 c1, .bool n2, .slice a2 k2 c2]]) ∧ RRatR w' (.agg #[.bool n1, .slice a1 k1 c1, .bool n2, .slice a2 k2 c2]) 1 ∧ Below w.heap.size w w' := by
  go_enter Tryz.func31, Tryz.ntmps31
  go_wp2_with fail
  obtain ⟨W1, hW, hs, hb, b0⟩ := alloc1 w (.cells #[.bool false, .slice none 0 0, .bool false, .slice none 0 0] 54)
  rw [← hW]
  have HZ1 := Lib.hid b0
  have HB1 := Lib.hid hb
  clear hW hs hb b0
  (with_reducible refine ((rint_any (n := 1) (by decide) (by decide)).mono fun _ _ h => h.plain).mono ?_)
  rintro e w2 ⟨n1, a1, k1, c1, n2, a2, k2, c2, rfl, hu, hb⟩
  have HU := Lib.hid (rnum_one _ hu)
  have HZ2 := Lib.hid (blk_next HZ1.out hb)
  have HB2 := Lib.hid (bt HB1.out hb)
  have hz2 : w.heap.size < w2.heap.size := (Array.getElem?_eq_some_iff.1 HZ2.out).1
  clear hu hb HZ1 HB1
  go_wp2_with fail
  obtain ⟨w3, hW, hs, hb, b0⟩ := alloc1 w2 (.cells #[.bool n1, .slice a1 k1 c1, .bool n2, .slice a2 k2 c2] 54)
  rw [← hW]
  have HZ3 := Lib.hid (blk_next HZ2.out hb)
  have HP3 := Lib.hid b0
  have HU3 := Lib.hid (HU.out.below hb)
  have HB3 := Lib.hid (bt HB2.out hb)
  clear hW hs hb b0 HZ2 HB2 HU
  go_loopw [6, 8] (fun rk i wr => rk = .int .i64 0 ∧ i = .int .i64 0 ∧ wr = w3) (fun _ _ _ => 0)
  case atStart => exact ⟨rfl, rfl, rfl⟩
  case round =>
    obtain ⟨rfl, rfl, hwr⟩ := hrel
    obtain rfl := hwr.symm
    obtain ⟨⟨x0, x1, x2, x3⟩, x4, x5, x6, x7⟩ := res4_facts HP3.out
    obtain ⟨⟨z0, z1, z2, z3⟩, z4, z5, z6, z7⟩ := res4_facts HZ3.out
    go_wp2_with fail
    go_region
    go_wp2
    obtain ⟨WE, hWE⟩ : ∃ W', W' = (((((w3.setCell ⟨w.heap.size, 0, none⟩ (.bool n1)).setCell ⟨w.heap.size, 1, none⟩ (.slice a1 k1 c1)).setCell ⟨w.heap.size, 2, none⟩ (.bool n2)).setCell ⟨w.heap.size, 3, none⟩ (.slice a2 k2 c2)).drew) := ⟨_, rfl⟩
    rw [← hWE]
    have hst : Stay (w.heap.size) (w.heap.size + 1) w3 WE := by rw [hWE]; exact Stay.drew set4_stay
    have hni := noInt4 HZ3.out
    have HE := Lib.hid (show WE.heap[w.heap.size]? = some (.cells #[.bool n1, .slice a1 k1 c1, .bool n2, .slice a2 k2 c2] 54 (0, 0)) by rw [hWE]; exact res4_set HZ3.out)
    have HDE := Lib.hid (HU3.out.stay hst (noInt_one hni))
    have HBE := Lib.hid (HB3.out.trans (hst.below (Nat.le_refl _) HB3.out.size))
    clear hst hni hWE
    refine bodyPost_ret (results_tc rfl _ _ (w.heap.size) 54 _ (0, 0) _ (.int .i64 0) rfl rfl HE.out Tryz.underlying54 rfl (by kernel_rfl)) rfl ?_
    exact ⟨n1, a1, k1, c1, n2, a2, k2, c2, rfl, HDE.out, HBE.out⟩

set_option maxHeartbeats 4000000 in
set_option maxRecDepth 100000 in
theorem rsolve_zero {w : World} {v u : Value} {L : Nat → Nat} {A : Mx} {y : Nat → Rat} (h : rMatsR w v 0 L A) (hy : rRatsR w u 0 y) :
    Calls Tryz.prog 11 #[v, u] w fun e w' => e = .returned (.tuple #[.slice none 0 0, .int .i64 0]) ∧ Below w.heap.size w w' := by
  have H := Lib.hid h
  have HY := Lib.hid hy
  have HM := Lib.hid (show IsMat 0 L ∧ 0 = colsN 0 L from ⟨⟨fun i hi => absurd hi (Nat.not_lt_zero _), by decide, by unfold colsN; rw [if_pos rfl]; decide⟩, rfl⟩)
  have H1 := Lib.hid (show rMatsR w v 0 (fun _ => 1) A from h.congr (fun i hi => absurd hi (Nat.not_lt_zero _)) (fun i hi => absurd hi (Nat.not_lt_zero _)))
  obtain ⟨a, c, rfl⟩ := h.shape
  obtain ⟨a2, c2, rfl⟩ := hy.shape
  clear h hy
  go_enter Tryz.func11, Tryz.ntmps11
  go_wp2_with fail
  refine (rsquare_any H.out true (iff_of_true rfl HM.out)).mono ?_
  rintro e w1 ⟨rfl, hb⟩
  have HB := Lib.hid hb
  replace H1 := Lib.hid (H1.out.below hb)
  replace HY := Lib.hid (HY.out.below hb)
  clear hb
  go_wp2_with fail
  refine (rcopied_any H1.out HY.out (by decide) (by decide) (by decide) (.inl ⟨rfl, rfl, rfl⟩)).mono ?_
  rintro e w2 ⟨sv, rfl, ⟨V, hx⟩, hb⟩
  obtain ⟨a3, c3, rfl, -⟩ := hx.shape
  replace HB := Lib.hid (bt HB.out hb)
  clear hx hb
  go_wp2_with fail
  refine rreduce_zero.mono ?_
  rintro e w3 ⟨n1, a4, k1, c4, n2, a5, k2, c5, rfl, hu, hb⟩
  replace HB := Lib.hid (bt HB.out hb)
  clear hu hb
  go_wp2_with fail
  obtain ⟨w4, hW, hs, hb, hc⟩ := alloc1 w3 (.cells #[.bool n1, .slice a4 k1 c4, .bool n2, .slice a5 k2 c5] 54)
  rw [← hW]
  replace HB := Lib.hid (bt HB.out hb)
  clear hW hs hb hc
  go_loopw [9, 10] (fun o i wr => o = .slice none 0 0 ∧ i = .int .i64 0 ∧ wr = w4) (fun _ _ _ => 0)
  case atStart => exact ⟨rfl, rfl, rfl⟩
  case round =>
    obtain ⟨rfl, rfl, hwr⟩ := hrel
    obtain rfl := hwr.symm
    go_wp2
    go_ret2
    exact ⟨rfl, HB.out⟩

set_option maxHeartbeats 8000000 in
set_option maxRecDepth 100000 in
theorem rsolve_pos {w : World} {v u : Value} {m N : Nat} {L : Nat → Nat} {A : Mx} {y : Nat → Rat} (h : rMatsR w v m L A) (hm : 0 < m) (hv : IsMat m L) (hsq : m = colsN m L) (hy : rRatsR w u m y) (hN : ∀ i, i < m → RowD N (m + 1) (wideM m A y i)) (hNN : N ≤ 100) :
    Calls Tryz.prog 11 #[v, u] w fun e w' => ∃ t : St, Run normR m (wideM m A y) m t ∧ Below w.heap.size w w' ∧
      ((t.rank < m ∧ e = .returned (.tuple #[.slice none 0 0, .int .i64 14])) ∨ (t.rank = m ∧ ∃ a c, e = .returned (.tuple #[.slice a m c, .int .i64 0]) ∧ rRatsR w' (.slice a m c) m fun i => t.A i m)) := by
  obtain ⟨i2, hi2, hz20, hz21, hz22⟩ := info_parts rinfoQ
  have H := Lib.hid h
  have HY := Lib.hid hy
  have HV := Lib.hid hv
  have HSQ := Lib.hid hsq
  have HN := Lib.hid hN
  have H1 := Lib.hid (show rMatsR w v m (fun _ => m) A from by have := h.even hv; rw [← hsq] at this; exact this)
  have h24 := hv.2.1
  obtain ⟨a, c, rfl⟩ := h.shape
  obtain ⟨a2, c2, rfl⟩ := hy.shape
  have hq : ((m : Int) == (m : Int)) = true := beq_self_eq_true _
  clear h hy hv hsq hN
  go_enter Tryz.func11, Tryz.ntmps11
  go_wp2_with fail
  refine (rsquare_any H.out true (iff_of_true rfl ⟨HV.out, HSQ.out⟩)).mono ?_
  rintro e w1 ⟨rfl, hb⟩
  have hw1 := hb.size
  have HB := Lib.hid hb
  replace H1 := Lib.hid (H1.out.below hb)
  replace HY := Lib.hid (HY.out.below hb)
  clear hb H HV HSQ
  go_wp2_with fail
  refine (rcopied_any H1.out HY.out (by omega) (by omega) hm (.inr ⟨rfl, rfl, rfl⟩)).mono ?_
  rintro e w2 ⟨sv, rfl, ⟨V, hx⟩, hb⟩
  obtain ⟨G, c3, g, cp, rfl, h1, h2, hmx, hG, hg⟩ := hx.done (by omega) hm
  have HX := Lib.hid hmx
  have HG := Lib.hid hg
  replace HB := Lib.hid (bt HB.out hb)
  have hs12 := hb.size
  clear hx hb hmx hg H1 HY
  go_wp2_with fail
  refine (rreduce_any HX.out hm hs12 hG HG.out (show m ≤ m + 1 by omega) (by omega) (by omega) h1 h2 HN.out hNN).mono ?_
  rintro e w3 ⟨t, g2, cp2, n1, a4, k1, c4, n2, a5, k2, c5, hrun, rfl, hu, hmx, hg2, hb⟩
  have HRun := Lib.hid hrun
  have HA := Lib.hid hmx
  replace HB := Lib.hid (HB.out.trans (Below.mono hb hw1))
  have hrk := hrun.rank_le
  clear hrun hu hmx hg2 hb HX HG
  by_cases hr : t.rank < m
  · have hri : (t.rank : Int) < (m : Int) := by omega
    have HR := Lib.hid hr
    clear hr
    go_wp2
    go_ret2
    exact ⟨t, HRun.out, bt HB.out (allocs_below1 _ _), .inl ⟨HR.out, rfl⟩⟩
  have hri : ¬ (t.rank : Int) < (m : Int) := by omega
  have HR := Lib.hid (show t.rank = m by omega)
  go_wp2_with fail
  obtain ⟨w4, hW, hs, hb, hc⟩ := alloc1 w3 (.cells #[.bool n1, .slice a4 k1 c4, .bool n2, .slice a5 k2 c5] 54)
  rw [← hW]
  replace HA := Lib.hid (HA.out.below hb)
  replace HB := Lib.hid (bt HB.out hb)
  clear hW hs hb hc
  go_loopw [9, 10] (fun o i wr => ∃ (k : Nat) (Ls : List Num) (sv : Value), sv = o ∧ i = .int .i64 k ∧ k ≤ m ∧ rBuildN w4.heap.size wr o Ls k (fun i => t.A i m) ∧ Below w4.heap.size w4 wr) (fun _ i _ => m - (intOf i).toNat)
  case atStart => exact ⟨0, [], _, rfl, rfl, by omega, rBuildN.start _ _ _, Below.refl _ _⟩
  case round =>
    obtain ⟨k, Ls, o, rfl, rfl, hk, hbn, hbr⟩ := hrel
    have HNl := Lib.hid hbn
    have HBr := Lib.hid hbr
    clear hbn hbr
    by_cases hkm : k = m
    · obtain rfl : m = k := hkm.symm
      obtain ⟨a', c', rfl, hrr⟩ := HNl.out.rats
      have HRR := Lib.hid hrr
      clear hrr
      go_wp2
      go_ret2
      exact ⟨t, HRun.out, bt HB.out HBr.out, .inr ⟨HR.out, a', c', rfl, HRR.out⟩⟩
    have hkl : k < m := by omega
    have hki : (k : Int) < (m : Int) := by omega
    have q1 := keepc HBr.out (HA.out.head k hkl)
    obtain ⟨x, hx4, hxq⟩ := (HA.out.row k hkl).elem (show m < m + 1 by omega)
    obtain ⟨x0, x1, x2, x3⟩ := hx4.at HBr.out
    have HX := Lib.hid (show rRatN wr ⟨x.n1, x.a1, x.k1, x.c1, x.n2, x.a2, x.k2, x.c2⟩ (t.A k m) from RRatR.below hxq HBr.out)
    have hmm1 : (m : Int) < ((m + 1 : Nat) : Int) := by omega
    have hmm2 : (m : Int) < (m : Int) + 1 := by omega
    have hlen := HNl.out.len
    have HO := Lib.hid (HNl.out.own)
    have hbs := HBr.out.size
    clear hx4 hxq
    go_wp2_with (at_builtin; refine wpList_append_free _ rfl _ _ 37 rfl w4.heap.size 54 i2 (.agg #[.bool false, .slice none 0 0, .bool false, .slice none 0 0]) 4 64 Tryz.underlying37 hi2 hz20 hz21 hz22 rfl (by decide) _ _ _ rfl (HO.out.below (allocs_below1 _ _)) ⟨wr.heap.size, 0, none⟩ 1 1 (flat [⟨x.n1, x.a1, x.k1, x.c1, x.n2, x.a2, x.k2, x.c2⟩]) rfl rfl ?_ (fun u hu => (flat_one u hu).1) (by unfold maxLen; omega) (by omega) (by simp; omega) (fun u hu => (flat_one u hu).2) zero_notInt ?_)
    · first | exact fun _ _ hq => hq | exact cells_at4 _ _ _ _ _ _ (by first | rfl | simp)
    · intro v' w5 ho hg _
      have hb2 := allocs_below1 wr (.cells #[.bool x.n1, .slice x.a1 x.k1 x.c1, .bool x.n2, .slice x.a2 x.k2 x.c2] 54)
      have HN2 := Lib.hid (rBuildN.snoc (HNl.out.below hb2) (by rw [hlen]; exact ho) hg (RRatR.below HX.out hb2))
      have HB3 := Lib.hid (grown_below (bt HBr.out hb2) (HO.out.below hb2).own hg (Nat.le_refl _) (by simp; omega))
      clear ho hg hb2
      go_wp2
      go_roundw
      case rel => (first | exact ⟨k + 1, _, _, rfl, by go_num, by omega, HN2.out, HB3.out⟩ | ((repeat apply Exists.intro); exact ⟨⟨k + 1, _, _, rfl, by go_num, by omega, HN2.out, HB3.out⟩, rfl⟩))
      case measure => (simp [intOf]; omega)
end Go.Proofs.YtjphfdlpcakpeaaGreatDoor

/- Solve of both: the same code, the same solution. -/

namespace Go.Proofs.YtjphfdlpcakpeaaGreatDoor
open Go.RowKit Tally

set_option maxHeartbeats 4000000 in
set_option maxRecDepth 100000 in
theorem rsolve_no {w : World} {v u : Value} {m n : Nat} {L : Nat → Nat} {A : Mx} {x : Nat → Rat} (h : rMatsR w v m L A) (hx : rRatsR w u n x) (hno : ¬ (IsMat m L ∧ m = colsN m L ∧ n = m)) :
    Calls Tryz.prog 11 #[v, u] w fun e w' => e = .returned (.tuple #[.slice none 0 0, .int .i64 1]) ∧ Below w.heap.size w w' := by
  have H := Lib.hid h
  have HNO := Lib.hid hno
  obtain ⟨a, c, rfl⟩ := h.shape
  obtain ⟨a2, c2, rfl⟩ := hx.shape
  clear h hx hno
  by_cases hv : IsMat m L ∧ m = colsN m L
  · have HV := Lib.hid hv
    have hne : ((n : Int) == (m : Int)) = false := by
      rw [beq_eq_false_iff_ne]
      intro e
      exact HNO.out ⟨HV.out.1, HV.out.2, by omega⟩
    clear hv
    go_enter Tryz.func11, Tryz.ntmps11
    go_wp2_with fail
    refine (rsquare_any H.out true (iff_of_true rfl HV.out)).mono ?_
    rintro e w1 ⟨rfl, hb⟩
    have HB := Lib.hid hb
    clear hb
    go_wp2
    go_ret2
    exact ⟨rfl, HB.out⟩
  · have HV := Lib.hid hv
    clear hv
    go_enter Tryz.func11, Tryz.ntmps11
    go_wp2_with fail
    refine (rsquare_any H.out false (iff_of_false (by decide) HV.out)).mono ?_
    rintro e w1 ⟨rfl, hb⟩
    have HB := Lib.hid hb
    clear hb
    go_wp2
    go_ret2
    exact ⟨rfl, HB.out⟩

/-- the solution, if there is one -/
def IsSol (m : Nat) (A : Mx) (y f : Nat → Rat) : Prop := ∀ i, i < m → sumTo m (fun j => A i j * f j) = y i
noncomputable def solF (m : Nat) (A : Mx) (y : Nat → Rat) : Nat → Rat := open Classical in if h : ∃ f, IsSol m A y f then Classical.choose h else fun _ => 0
theorem solF_is {m : Nat} {A : Mx} {y f : Nat → Rat} (h : IsSol m A y f) : IsSol m A y (solF m A y) := by
  unfold solF
  rw [dif_pos ⟨f, h⟩]
  exact Classical.choose_spec (⟨f, h⟩ : ∃ f, IsSol m A y f)
noncomputable def solLen (m n : Nat) (L : Nat → Nat) (A : Mx) : Nat := open Classical in if solCode m n L A = 0 then m else 0
def GivesS2 (w : World) (k : Nat) (f : Nat → Rat) (cd : Int) (e : Ending) (w' : World) : Prop :=
  ∃ (a : Option Addr) (c : Nat), e = .returned (.tuple #[.slice a k c, .int .i64 cd]) ∧ RatsR w' (.slice a k c) k f ∧ Below w.heap.size w w'
def rGivesS2 (w : World) (k : Nat) (f : Nat → Rat) (cd : Int) (e : Ending) (w' : World) : Prop :=
  ∃ (a : Option Addr) (c : Nat), e = .returned (.tuple #[.slice a k c, .int .i64 cd]) ∧ rRatsR w' (.slice a k c) k f ∧ Below w.heap.size w w'

section
variable {w : World} {v u : Value} {m n d : Nat} {L : Nat → Nat} {Z : Nat → Nat → Int} {y : Nat → Int}
theorem sol_wide (hok : IsMat m L ∧ m = colsN m L ∧ n = m) (hz : ∀ i, i < m → Small (L i) (Z i)) (hd : d ≤ 255) (hys : Small n y) : ∀ i, i < m → RowD (5 + 5) (m + 1) (wideM m (ratM d Z) (ratV d y) i) :=
  wide_rows (N := 5) (M := 5) (fun i hi2 => (rowD_num (fun k hk => hz i hi2 k (by have := hok.1.1 i hi2; have := hok.2.1; omega)) hd : RowD 5 m (ratM d Z i))) (fun i hi => fewD_num (hys i (by have := hok.2.2; omega)) hd)
theorem code_sing {s : St} {y2 : Nat → Rat} (hok : IsMat m L ∧ m = colsN m L ∧ n = m) (h : Run upR m (wideM m (ratM d Z) y2) m s) (hr : s.rank < m) : solCode m n L (ratM d Z) = 14 := by
  unfold solCode
  rw [if_pos hok, if_neg]
  rintro ⟨y3, s2, h2, h3⟩
  have := wide_rank2 h h2
  omega
theorem code_ok {s : St} {y2 : Nat → Rat} (hok : IsMat m L ∧ m = colsN m L ∧ n = m) (h : Run upR m (wideM m (ratM d Z) y2) m s) (hr : s.rank = m) : solCode m n L (ratM d Z) = 0 := by
  unfold solCode
  rw [if_pos hok, if_pos ⟨y2, s, h, hr⟩]
theorem code_no (hok : ¬ (IsMat m L ∧ m = colsN m L ∧ n = m)) : solCode m n L (ratM d Z) = 1 := by unfold solCode; rw [if_neg hok]

theorem solve_two (h : MatsR w v m L (ratM d Z)) (hz : ∀ i, i < m → Small (L i) (Z i)) (hd : d ≤ 255) (hy : RatsR w u n (ratV d y)) (hys : Small n y) :
    Calls Tryz.prog 9 #[v, u] w (GivesS2 w (solLen m n L (ratM d Z)) (solF m (ratM d Z) (ratV d y)) (solCode m n L (ratM d Z))) := by
  by_cases hok : IsMat m L ∧ m = colsN m L ∧ n = m
  · have hW := sol_wide hok hz hd hys
    refine (solve_yes h hok.1 hok.2.1 (by rw [← hok.2.2]; exact hy) hW (by decide)).mono ?_
    rintro e w' ⟨s, hrun, hb, hor⟩
    rcases hor with ⟨hlt, rfl⟩ | ⟨hr, a, c, rfl, hx⟩
    · have h1 := code_sing (n := n) hok hrun hlt
      refine ⟨none, 0, by unfold solLen; rw [h1, if_neg (by decide)], ?_, hb⟩
      unfold solLen; rw [h1, if_neg (by decide)]; exact rats_none _ _
    · have h1 := code_ok (n := n) hok hrun hr
      refine ⟨a, c, by unfold solLen; rw [h1, if_pos rfl], ?_, hb⟩
      unfold solLen; rw [h1, if_pos rfl]
      exact hx.congr fun k hk => (solve_law hrun hr (solF_is (solve_sum hrun hr)) k hk).symm
  · refine (solve_no h hy hok).mono ?_
    rintro e w' ⟨rfl, hb⟩
    have h1 : solCode m n L (ratM d Z) = 1 := code_no hok
    refine ⟨none, 0, by unfold solLen; rw [h1, if_neg (by decide)], ?_, hb⟩
    unfold solLen; rw [h1, if_neg (by decide)]; exact rats_none _ _
theorem rsolve_two (h : rMatsR w v m L (ratM d Z)) (hz : ∀ i, i < m → Small (L i) (Z i)) (hd : d ≤ 255) (hy : rRatsR w u n (ratV d y)) (hys : Small n y) :
    Calls Tryz.prog 11 #[v, u] w (rGivesS2 w (solLen m n L (ratM d Z)) (solF m (ratM d Z) (ratV d y)) (solCode m n L (ratM d Z))) := by
  by_cases hok : IsMat m L ∧ m = colsN m L ∧ n = m
  · have hW := sol_wide hok hz hd hys
    obtain ⟨s, hs⟩ := run_exists upR m (wideM m (ratM d Z) (ratV d y)) m
    by_cases hm : m = 0
    · have h1 := code_ok (n := n) hok hs (by have := hs.rank_le; omega)
      have hn : n = 0 := by have := hok.2.2; omega
      subst hm
      subst hn
      refine (rsolve_zero h hy).mono ?_
      rintro e w' ⟨rfl, hb⟩
      refine ⟨none, 0, by unfold solLen; rw [h1, if_pos rfl], ?_, hb⟩
      unfold solLen; rw [h1, if_pos rfl]; exact rrats_none _ _
    · refine (rsolve_pos h (by omega) hok.1 hok.2.1 (by rw [← hok.2.2]; exact hy) hW (by decide)).mono ?_
      rintro e w' ⟨t, hrun, hb, hor⟩
      obtain ⟨e1, _, e3⟩ := norm_sol hs hrun
      rcases hor with ⟨hlt, rfl⟩ | ⟨hr, a, c, rfl, hx⟩
      · have h1 := code_sing (n := n) hok hs (by omega)
        refine ⟨none, 0, by unfold solLen; rw [h1, if_neg (by decide)], ?_, hb⟩
        unfold solLen; rw [h1, if_neg (by decide)]; exact rrats_none _ _
      · have hsr : s.rank = m := by omega
        have h1 := code_ok (n := n) hok hs hsr
        refine ⟨a, c, by unfold solLen; rw [h1, if_pos rfl], ?_, hb⟩
        unfold solLen; rw [h1, if_pos rfl]
        exact hx.congr fun k hk => (e3 hsr k hk).trans (solve_law hs hsr (solF_is (solve_sum hs hsr)) k hk).symm
  · refine (rsolve_no h hy hok).mono ?_
    rintro e w' ⟨rfl, hb⟩
    have h1 : solCode m n L (ratM d Z) = 1 := code_no hok
    refine ⟨none, 0, by unfold solLen; rw [h1, if_neg (by decide)], ?_, hb⟩
    unfold solLen; rw [h1, if_neg (by decide)]; exact rrats_none _ _
/-- the solution's sizes -/
theorem sol_small (hz : ∀ i, i < m → Small (L i) (Z i)) (hd : d ≤ 255) (hys : Small n y) : ∀ i, i < solLen m n L (ratM d Z) → Rg 14000000000 (solF m (ratM d Z) (ratV d y) i) := by
  intro i hi
  unfold solLen at hi
  split at hi
  case isFalse => exact absurd hi (Nat.not_lt_zero _)
  case isTrue h0 =>
    by_cases hok : IsMat m L ∧ m = colsN m L ∧ n = m
    · obtain ⟨s, hs⟩ := run_exists upR m (wideM m (ratM d Z) (ratV d y)) m
      have hle := hs.rank_le
      have hsr : s.rank = m := by
        by_cases q : s.rank < m
        · rw [code_sing (n := n) hok hs q] at h0
          exact absurd h0 (by decide)
        · omega
      have hW := sol_wide hok hz hd hys
      have h24 := hok.1.2.1
      have hsm := dgs_small (N := 5 + 5) (c := m) (by decide) (by omega)
      rw [solve_law hs hsr (solF_is (solve_sum hs hsr)) i hi]
      exact Rg.mono (Rg.of (sol_fw hs hsr hW i hi)) (by omega)
    · rw [code_no hok] at h0
      exact absurd h0 (by decide)
end
end Go.Proofs.YtjphfdlpcakpeaaGreatDoor
