/- The reference's elimination. -/
import Derived.Test.YtjphfdlpcakpeaaGreatDoorRMatX
import Derived.Test.YtjphfdlpcakpeaaGreatDoorRRatI
import Derived.Test.YtjphfdlpcakpeaaGreatDoorPlainZ
import Derived.WalkMore
import Derived.BigRegion
import Derived.Deep.DeepCutAuto
namespace Go.Proofs.YtjphfdlpcakpeaaGreatDoor
open Go.RowKit Tally

theorem RefR.onlyP {P : Nat → Prop} {w w' : World} {v : Value} {z : Int} (h : RefR w v z) (hs : OnlyP P w w') (hn : ∀ g, P g → NoInt w g) : RefR w' v z := by
  obtain ⟨neg, s, l, h1, ⟨a, b, o, c, h2, h3, h4, h5, h6⟩, h7⟩ := h
  refine ⟨neg, s, l, h1, ⟨a, b, o, c, h2, h3, h4, h5, fun i hil => ?_⟩, h7⟩
  have hc := h6 i hil
  exact hs.cell (fun q => hn b q _ _ _ hc) hc
theorem RRatR.onlyP {P : Nat → Prop} {w w' : World} {v : Value} {q : Rat} (h : RRatR w v q) (hs : OnlyP P w w') (hn : ∀ g, P g → NoInt w g) : RRatR w' v q := by
  obtain ⟨n1, a1, k1, c1, n2, a2, k2, c2, d, h1, h2, h3, h4⟩ := h
  exact ⟨n1, a1, k1, c1, n2, a2, k2, c2, d, h1, h2.onlyP hs hn, h3.onlyP hs hn, h4⟩
theorem results_tc {P : Program} {fn : Func} {p r : Tmp} {ty : TypeId} (h : fn.results = #[.tmp p, .cell r ty]) (tmps : Array Value) (w : World) (g : Nat) (t : TypeId) (cs : Array Value) (fr : Nat × Nat) (d : TypeDesc) (vp : Value)
    (hr : tmps.getD r undef = .pointer (some ⟨g, 0, none⟩)) (hp : tmps.getD p undef = vp) (hg : w.heap[g]? = some (.cells cs t fr))
    (hu : P.underlying ty = some d) (hd : (match d with | .struct _ | .array _ _ => true | _ => false) = true) (hi : (P.info? ty).map (·.size) = some cs.size) :
    (results fn tmps).run P w = .ok (.tuple #[vp, .agg cs]) w := by
  have hp' : tmps[p]?.getD undef = vp := by simpa using hp
  have hr' : tmps[r]?.getD undef = .pointer (some ⟨g, 0, none⟩) := by simpa using hr
  simp [results, h, hp', hr', asAddr, run_loadVar_row w g t ty cs fr d hg hu hd hi]
theorem rnum_one (w : World) {v : Value} (h : RRatR w v (((1 : Int)) : Rat)) : RRatR w v 1 := h.as rfl

set_option maxHeartbeats 8000000 in
set_option maxRecDepth 100000 in
theorem rreduce_any {w : World} {m n c N G B cap : Nat} {g cp : Nat → Nat} {A : Mx} (h : MatX w G m n g cp A) (hm0 : 0 < m) (hB : B ≤ w.heap.size) (hGB : B ≤ G) (hgB : ∀ i, i < m → B ≤ g i) (hc : c ≤ n) (hm : m ≤ 24) (hn : n ≤ 25) (hcap : m ≤ cap) (hcap2 : cap ≤ 9223372036854775807) (hN : ∀ i, i < m → RowD N n (A i)) (hNN : N ≤ 100) :
    Calls Tryz.prog 31 #[.slice (some ⟨G, 0, none⟩) m cap, .int .i64 (c : Nat)] w fun e w' => ∃ (s : St) (g' cp' : Nat → Nat) (n1 : Bool) (a1 : Option Addr) (k1 c1 : Nat) (n2 : Bool) (a2 : Option Addr) (k2 c2 : Nat),
      Run normR m A c s ∧ e = .returned (.tuple #[.int .i64 (s.rank : Nat), .agg #[.bool n1, .slice a1 k1 c1, .bool n2, .slice a2 k2 c2]]) ∧ RRatR w' (.agg #[.bool n1, .slice a1 k1 c1, .bool n2, .slice a2 k2 c2]) s.det ∧ MatX w' G m n g' cp' s.A ∧ (∀ i, i < m → B ≤ g' i) ∧ Below B w w' := by
  have HA0 := Lib.hid h
  have HGL := Lib.hid (show ∀ x, x < m → B ≤ g x ∧ g x < w.heap.size from fun x hx => ⟨hgB x hx, h.glt hx⟩)
  have hGl := h.Glt
  have HN := Lib.hid hN
  have hm63 : (m : Int) ≤ 9223372036854775807 := by omega
  clear h hgB hN
  go_enter Tryz.func31, Tryz.ntmps31
  go_wp2_with fail
  obtain ⟨W1, hW, hs, hb, b0⟩ := alloc1 w (.cells #[.bool false, .slice none 0 0, .bool false, .slice none 0 0] 54)
  rw [← hW]
  have HA1 := Lib.hid (HA0.out.below hb)
  have HZ1 := Lib.hid b0
  have HB1 := Lib.hid (show Below B w W1 from Below.mono hb hB)
  clear hW hs hb b0 HA0
  (with_reducible refine ((rint_any (n := 1) (by decide) (by decide)).mono fun _ _ h => h.plain).mono ?_)
  rintro e w2 ⟨m1, d1, l1, f1, m2, d2, l2, f2, rfl, hu, hb⟩
  have HU := Lib.hid (rnum_one _ hu)
  have HA2 := Lib.hid (HA1.out.below hb)
  have HZ2 := Lib.hid (blk_next HZ1.out hb)
  have HB2 := Lib.hid (HB1.out.trans (Below.mono hb (by have := HB1.out.size; omega)))
  have hz2 : w.heap.size < w2.heap.size := (Array.getElem?_eq_some_iff.1 HZ2.out).1
  clear hu hb HA1 HZ1 HB1
  go_wp2_with fail
  obtain ⟨w3, hW, hs, hb, b0⟩ := alloc1 w2 (.cells #[.bool m1, .slice d1 l1 f1, .bool m2, .slice d2 l2 f2] 54)
  rw [← hW]
  have HA3 := Lib.hid (HA2.out.below hb)
  have HZ3 := Lib.hid (blk_next HZ2.out hb)
  have HP3 := Lib.hid b0
  have HU3 := Lib.hid (HU.out.below hb)
  have HB3 := Lib.hid (HB2.out.trans (Below.mono hb (by have := HB2.out.size; omega)))
  clear hW hs hb b0 HA2 HZ2 HB2 HU
  go_loopw [6, 8] (fun rk i wr => ∃ (cc : Nat) (s : St) (g cp : Nat → Nat) (n1 : Bool) (a1 : Option Addr) (k1 c1 : Nat) (n2 : Bool) (a2 : Option Addr) (k2 c2 : Nat), rk = .int .i64 (s.rank : Nat) ∧ i = .int .i64 cc ∧ cc ≤ c ∧ Run normR m A cc s ∧ MatX wr G m n g cp s.A ∧ (∀ x, x < m → B ≤ g x ∧ g x < w.heap.size) ∧ wr.heap[w.heap.size]? = some (.cells #[.bool false, .slice none 0 0, .bool false, .slice none 0 0] 54 (0, 0)) ∧ wr.heap[w2.heap.size]? = some (.cells #[.bool n1, .slice a1 k1 c1, .bool n2, .slice a2 k2 c2] 54 (0, 0)) ∧ RRatR wr (.agg #[.bool n1, .slice a1 k1 c1, .bool n2, .slice a2 k2 c2]) s.det ∧ Below B w wr) (fun _ i _ => c - (intOf i).toNat)
  case atStart => exact ⟨0, ⟨A, 0, 1⟩, g, cp, _, _, _, _, _, _, _, _, rfl, rfl, by omega, Run.zero, HA3.out, HGL.out, HZ3.out, HP3.out, HU3.out, HB3.out⟩
  case round =>
    rename World => wo
    clear HA3 HGL HZ3 HP3 HU3 HB3
    obtain ⟨cc, s, g, cp, n1, a1, k1, c1, n2, a2, k2, c2, rfl, rfl, hcc, hrun, hma, hgs, hzr, hdr, hdd, hbr⟩ := hrel
    have HRun := Lib.hid hrun
    have HA := Lib.hid hma
    have HGS := Lib.hid hgs
    have HZr := Lib.hid hzr
    have HDr := Lib.hid hdr
    have HDD := Lib.hid hdd
    have HBr := Lib.hid hbr
    have hrk := hrun.rank_le
    clear hrun hma hgs hzr hdr hdd hbr
    by_cases hend : cc < c ∧ s.rank < m
    case neg =>
      have HS := Lib.hid (show Run normR m A c s from by
        by_cases e : cc = c
        · rw [← e]; exact HRun.out
        · exact run_fill_to HRun.out (by omega) hcc)
      obtain ⟨⟨x0, x1, x2, x3⟩, x4, x5, x6, x7⟩ := res4_facts HDr.out
      obtain ⟨⟨z0, z1, z2, z3⟩, z4, z5, z6, z7⟩ := res4_facts HZr.out
      by_cases hcm : cc < c
      · have hci : (cc : Int) < (c : Int) := by omega
        have hri : ¬ (s.rank : Int) < (m : Int) := by omega
        clear hend
        go_wp2_with fail
        go_region
        go_wp2
        obtain ⟨WE, hWE⟩ : ∃ W', W' = (((((wo.setCell ⟨w.heap.size, 0, none⟩ (.bool n1)).setCell ⟨w.heap.size, 1, none⟩ (.slice a1 k1 c1)).setCell ⟨w.heap.size, 2, none⟩ (.bool n2)).setCell ⟨w.heap.size, 3, none⟩ (.slice a2 k2 c2)).drew) := ⟨_, rfl⟩
        rw [← hWE]
        have hst : Stay (w.heap.size) (w.heap.size + 1) wo WE := by rw [hWE]; exact Stay.drew set4_stay
        have hni := noInt4 HZr.out
        have HE := Lib.hid (show WE.heap[w.heap.size]? = some (.cells #[.bool n1, .slice a1 k1 c1, .bool n2, .slice a2 k2 c2] 54 (0, 0)) by rw [hWE]; exact res4_set HZr.out)
        have HAE := Lib.hid (HA.out.stay hst (by omega) (fun x hx => by have := (HGS.out x hx).2; omega) hni)
        have HDE := Lib.hid (HDD.out.stay hst (noInt_one hni))
        have HBE := Lib.hid (HBr.out.trans (hst.below hB (by have := HBr.out.size; omega)))
        clear hst hni hWE
        refine bodyPost_ret (results_tc rfl _ _ (w.heap.size) 54 _ (0, 0) _ (.int .i64 (s.rank : Nat)) rfl rfl HE.out Tryz.underlying54 rfl (by kernel_rfl)) rfl ?_
        exact ⟨s, g, cp, n1, a1, k1, c1, n2, a2, k2, c2, HS.out, rfl, HDE.out, HAE.out, fun x hx => (HGS.out x hx).1, HBE.out⟩
      · have hci : ¬ (cc : Int) < (c : Int) := by omega
        clear hend
        go_wp2_with fail
        go_region
        go_wp2
        obtain ⟨WE, hWE⟩ : ∃ W', W' = (((((wo.setCell ⟨w.heap.size, 0, none⟩ (.bool n1)).setCell ⟨w.heap.size, 1, none⟩ (.slice a1 k1 c1)).setCell ⟨w.heap.size, 2, none⟩ (.bool n2)).setCell ⟨w.heap.size, 3, none⟩ (.slice a2 k2 c2)).drew) := ⟨_, rfl⟩
        rw [← hWE]
        have hst : Stay (w.heap.size) (w.heap.size + 1) wo WE := by rw [hWE]; exact Stay.drew set4_stay
        have hni := noInt4 HZr.out
        have HE := Lib.hid (show WE.heap[w.heap.size]? = some (.cells #[.bool n1, .slice a1 k1 c1, .bool n2, .slice a2 k2 c2] 54 (0, 0)) by rw [hWE]; exact res4_set HZr.out)
        have HAE := Lib.hid (HA.out.stay hst (by omega) (fun x hx => by have := (HGS.out x hx).2; omega) hni)
        have HDE := Lib.hid (HDD.out.stay hst (noInt_one hni))
        have HBE := Lib.hid (HBr.out.trans (hst.below hB (by have := HBr.out.size; omega)))
        clear hst hni hWE
        refine bodyPost_ret (results_tc rfl _ _ (w.heap.size) 54 _ (0, 0) _ (.int .i64 (s.rank : Nat)) rfl rfl HE.out Tryz.underlying54 rfl (by kernel_rfl)) rfl ?_
        exact ⟨s, g, cp, n1, a1, k1, c1, n2, a2, k2, c2, HS.out, rfl, HDE.out, HAE.out, fun x hx => (HGS.out x hx).1, HBE.out⟩
    have hcl := hend.1
    have hrm := hend.2
    have hci : (cc : Int) < (c : Int) := by omega
    have hri : (s.rank : Int) < (m : Int) := by omega
    have hcn : (cc : Int) < (n : Int) := by omega
    have rows := run_rows_norm HRun.out (by omega) HN.out
    clear hend
    go_wp2_with fail
    go_loopw [9] (fun i wi => ∃ (j : Nat), i = .int .i64 j ∧ s.rank ≤ j ∧ j ≤ m ∧ (∀ x, s.rank ≤ x → x < j → s.A x cc = 0) ∧ Below wo.heap.size wo wi) (fun i _ => m - (intOf i).toNat)
    case atStart => exact ⟨s.rank, rfl, Nat.le_refl _, by omega, fun x h1 h2 => by omega, Below.refl _ _⟩
    case round =>
      obtain ⟨j, rfl, hj1, hj2, hz, hbi⟩ := hrel
      have HAi := Lib.hid (HA.out.below hbi)
      have HZi := Lib.hid (blk_next HZr.out hbi)
      have HDi := Lib.hid (blk_next HDr.out hbi)
      have HDDi := Lib.hid (HDD.out.below hbi)
      have HBi := Lib.hid (HBr.out.trans (Below.mono hbi (by have := HBr.out.size; omega)))
      have HZC := Lib.hid hz
      have HBI := Lib.hid hbi
      clear hz hbi
      by_cases hjm : j = m
      · obtain rfl : m = j := hjm.symm
        have HS := Lib.hid (Run.succ HRun.out (IsStep.none (fun x h1 h2 => HZC.out x h1 h2)))
        go_wp2
        go_roundw
        case rel => (first | exact ⟨cc + 1, s, g, cp, n1, a1, k1, c1, n2, a2, k2, c2, rfl, by go_num, by omega, HS.out, HAi.out, HGS.out, HZi.out, HDi.out, HDDi.out, HBi.out⟩ | ((repeat apply Exists.intro); exact ⟨⟨cc + 1, s, g, cp, n1, a1, k1, c1, n2, a2, k2, c2, rfl, by go_num, by omega, HS.out, HAi.out, HGS.out, HZi.out, HDi.out, HDDi.out, HBi.out⟩, rfl⟩))
        case measure => (simp [intOf]; omega)
      have hjl : j < m := by omega
      have hji : (j : Int) < (m : Int) := by omega
      have q1 := HAi.out.head j hjl
      obtain ⟨x, hx4, hxq⟩ := (HAi.out.row j hjl).elem (show cc < n by omega)
      obtain ⟨x0, x1, x2, x3⟩ := hx4
      have HX := Lib.hid (show RRatR wr (.agg #[.bool x.n1, .slice x.a1 x.k1 x.c1, .bool x.n2, .slice x.a2 x.k2 x.c2]) (s.A j cc) from hxq)
      clear hxq
      go_wp2_with fail
      (with_reducible refine (rratsign_any HX.out).mono ?_)
      rintro e w1 ⟨rfl, hb1⟩
      by_cases hz : s.A j cc = 0
      · have HZ2 := Lib.hid (show ∀ x, s.rank ≤ x → x < j + 1 → s.A x cc = 0 from fun x h1 h2 => by
          by_cases e : x = j
          · rw [e]; exact hz
          · exact HZC.out x h1 (by omega))
        have HB1 := Lib.hid (bt HBI.out hb1)
        rw [hz, show (0 : Rat).num.sign = 0 from rfl]
        clear q1 x0 x1 x2 x3 hb1
        go_wp2
        go_roundw
        case rel => (first | exact ⟨j + 1, by go_num, by omega, by omega, HZ2.out, HB1.out⟩ | ((repeat apply Exists.intro); exact ⟨⟨j + 1, by go_num, by omega, by omega, HZ2.out, HB1.out⟩, rfl⟩))
        case measure => (simp [intOf]; omega)
      have hks : ((s.A j cc).num.sign == 0) = false := by
        rw [beq_eq_false_iff_ne]
        intro e
        exact hz (Rat.num_eq_zero.1 (Int.sign_eq_zero_iff_zero.1 e))
      replace HAi := Lib.hid (HAi.out.below hb1)
      replace HZi := Lib.hid (blk_next HZi.out hb1)
      replace HDi := Lib.hid (blk_next HDi.out hb1)
      replace HDDi := Lib.hid (HDDi.out.below hb1)
      replace HBi := Lib.hid (HBi.out.trans (Below.mono hb1 (by have := HBi.out.size; omega)))
      have NZ := Lib.hid hz
      have hjmf : ((j : Int) == (m : Int)) = false := by rw [beq_eq_false_iff_ne]; omega
      clear q1 x0 x1 x2 x3 hb1 hz HA HZr HDr HDD HBr HBI HX
      go_upto_if 51 with (fail)
      go_cut [] (fun wc => ∃ (g2 cp2 : Nat → Nat) (n3 : Bool) (a3 : Option Addr) (k3 c3 : Nat) (n4 : Bool) (a4 : Option Addr) (k4 c4 : Nat), MatX wc G m n g2 cp2 (swapR s.A j s.rank) ∧ (∀ x, x < m → B ≤ g2 x ∧ g2 x < w.heap.size) ∧ wc.heap[w.heap.size]? = some (.cells #[.bool false, .slice none 0 0, .bool false, .slice none 0 0] 54 (0, 0)) ∧ wc.heap[w2.heap.size]? = some (.cells #[.bool n3, .slice a3 k3 c3, .bool n4, .slice a4 k4 c4] 54 (0, 0)) ∧ RRatR wc (.agg #[.bool n3, .slice a3 k3 c3, .bool n4, .slice a4 k4 c4]) (if j = s.rank then s.det else -s.det) ∧ Below B w wc)
      case first =>
        by_cases hjr : j = s.rank
        · subst hjr
          have hne : ((s.rank : Int) == (s.rank : Int)) = true := beq_self_eq_true _
          have HSW := Lib.hid (show MatX w1 G m n g cp (swapR s.A s.rank s.rank) from by rw [swapR_self]; exact HAi.out)
          have HDE := Lib.hid (show RRatR w1 (.agg #[.bool n1, .slice a1 k1 c1, .bool n2, .slice a2 k2 c2]) (if s.rank = s.rank then s.det else -s.det) from by rw [if_pos rfl]; exact HDDi.out)
          go_wp2_with fail
          go_meet
          exact ⟨g, cp, n1, a1, k1, c1, n2, a2, k2, c2, HSW.out, HGS.out, HZi.out, HDi.out, HDE.out, HBi.out⟩
        · have hne : ((j : Int) == (s.rank : Int)) = false := by rw [beq_eq_false_iff_ne]; omega
          have hne2 : ((j : Int) != (s.rank : Int)) = true := by rw [bne_iff_ne]; omega
          have q1 := HAi.out.head j hjl
          have q2 := HAi.out.head s.rank hrm
          have q3 := HAi.out.headFree j
          have q4 := HAi.out.headFree s.rank
          go_wp2_with fail
          go_region
          obtain ⟨X, hX⟩ : ∃ X, X = (w1.setCell ⟨G, j, none⟩ (.slice (some ⟨g s.rank, 0, none⟩) n (cp s.rank))).setCell ⟨G, s.rank, none⟩ (.slice (some ⟨g j, 0, none⟩) n (cp j)) := ⟨_, rfl⟩
          rw [← hX]
          have hst : Stay G (G + 1) w1 X := by rw [hX]; exact ((Stay.refl _ _ _).setCell (Nat.le_refl _) (Nat.lt_succ_self _) _ _).setCell (Nat.le_refl _) (Nat.lt_succ_self _) _ _
          have bd := Below.drew (Below.refl X.heap.size X)
          have HAs := Lib.hid (show MatX X.drew G m n (fun a => g (swapI j s.rank a)) (fun a => cp (swapI j s.rank a)) (swapR s.A j s.rank) from by rw [hX]; exact (HAi.out.swap hjl hrm).below (Below.drew (Below.refl _ _)))
          have hni := noInt_one HAi.out.headNo
          have hlz := (Array.getElem?_eq_some_iff.1 HZi.out).1
          have hlp := (Array.getElem?_eq_some_iff.1 HDi.out).1
          have HZs := Lib.hid (show X.drew.heap[w.heap.size]? = some (.cells #[.bool false, .slice none 0 0, .bool false, .slice none 0 0] 54 (0, 0)) from (hst.block (w.heap.size) hlz (by omega)).trans HZi.out)
          have HDs := Lib.hid (show X.drew.heap[w2.heap.size]? = some (.cells #[.bool n1, .slice a1 k1 c1, .bool n2, .slice a2 k2 c2] 54 (0, 0)) from (hst.block (w2.heap.size) hlp (by omega)).trans HDi.out)
          have HDDs := Lib.hid (show RRatR X.drew (.agg #[.bool n1, .slice a1 k1 c1, .bool n2, .slice a2 k2 c2]) s.det from (HDDi.out.stay hst hni).below bd)
          have HBs := Lib.hid (show Below B w X.drew from Below.drew (HBi.out.trans (hst.below hGB (by have := HBi.out.size; omega))))
          have HGs2 := Lib.hid (show ∀ x, x < m → B ≤ g (swapI j s.rank x) ∧ g (swapI j s.rank x) < w.heap.size from fun x hx => HGS.out _ (swapI_lt hjl hrm hx))
          clear hX hst hni hlz hlp q1 q2 q3 q4 bd
          obtain ⟨⟨z0, z1, z2, z3⟩, _, _, _, _⟩ := res4_facts HDs.out
          go_wp2_with fail
          (with_reducible refine (rratneg_any HDDs.out).mono ?_)
          rintro e w5 ⟨t1, t2, t3, t4, t5, t6, t7, t8, rfl, hu, hb⟩
          have HP5 := Lib.hid (blk_next HDs.out hb)
          obtain ⟨⟨y0, y1, y2, y3⟩, y4, y5, y6, y7⟩ := res4_facts HP5.out
          have hst5 := set4_stay (r := w2.heap.size) (w := w5) (x := .bool t1) (y := .slice t2 t3 t4) (z := .bool t5) (u := .slice t6 t7 t8)
          have hn5 := noInt4 HP5.out
          have HA5 := Lib.hid ((HAs.out.below hb).stay hst5 (by omega) (fun x hx => by have := (HGs2.out x hx).2; omega) hn5)
          have HZ5 := Lib.hid ((hst5.block (w.heap.size) (Array.getElem?_eq_some_iff.1 (blk_next HZs.out hb)).1 (by omega)).trans (blk_next HZs.out hb))
          have HD5 := Lib.hid (res4_set (x' := .bool t1) (y' := .slice t2 t3 t4) (z' := .bool t5) (u' := .slice t6 t7 t8) HP5.out)
          have HDD5 := Lib.hid (RRatR.as (hu.stay hst5 (noInt_one hn5)) (show -s.det = if j = s.rank then s.det else -s.det by rw [if_neg hjr]))
          have HB5 := Lib.hid ((HBs.out.trans (Below.mono hb (by have := HBs.out.size; omega))).trans (hst5.below (show B ≤ w2.heap.size by omega) (by have := HBs.out.size; have := hb.size; omega)))
          clear hu hb hst5 hn5 z0 z1 z2 z3
          go_wp2_with fail
          go_meet
          exact ⟨fun a => g (swapI j s.rank a), fun a => cp (swapI j s.rank a), t1, t2, t3, t4, t5, t6, t7, t8, HA5.out, HGs2.out, HZ5.out, HD5.out, HDD5.out, HB5.out⟩
      case rest =>
      obtain ⟨g2, cp2, n3, a3, k3, c3, n4, a4, k4, c4, hma, hgs, hz, hdb, hdd, hbc⟩ := hcut
      have HBc0 : w.heap.size ≤ wc.heap.size := Nat.le_of_lt (Array.getElem?_eq_some_iff.1 hz).1
      obtain ⟨A2, hA2⟩ : ∃ A2, swapR s.A j s.rank = A2 := ⟨_, rfl⟩
      obtain ⟨D2, hD2⟩ : ∃ D2, (if j = s.rank then s.det else -s.det) = D2 := ⟨_, rfl⟩
      rw [hA2] at hma
      rw [hD2] at hdd
      have hpv : A2 s.rank cc = s.A j cc := by rw [← hA2]; exact swapR_pivot _ _ _ _
      have hsm := dgs_small (N := N) (c := cc) hNN (by omega)
      have rows2 : ∀ x, x < m → RowD (dgs N cc) n (A2 x) := by rw [← hA2]; exact swap_rows hjl hrm rows
      have hdet : Fw (dgs N cc + 1) s.det := run_det (fun _ _ _ _ h1 h2 h3 h4 => rows_norm h1 h2 h3 h4) HRun.out (by omega) HN.out
      have rdet : Rg 14000000000 D2 := by
        rw [← hD2]
        split
        · exact (Rg.of hdet).mono (by omega)
        · exact (Rg.of (fw_neg hdet)).mono (by omega)
      have HSTEP := Lib.hid (show IsStep normR m cc s ⟨normR A2 s.rank cc, s.rank + 1, D2 * A2 s.rank cc⟩ from by rw [← hA2, ← hD2, swapR_pivot]; exact IsStep.piv j hj1 hjl HZC.out NZ.out)
      have HROW := Lib.hid rows2
      have NZP := Lib.hid (show A2 s.rank cc ≠ 0 from by rw [hpv]; exact NZ.out)
      have rall := Lib.hid (fun (x y : Nat) (hx : x < m) (hy : y < n) => (Rg.of ((rows2 x hx).fw hy)).mono (show dgs N cc ≤ 14000000000 by omega))
      have HAc := Lib.hid hma
      have HGc := Lib.hid hgs
      have HZc := Lib.hid hz
      have HDc := Lib.hid hdb
      have HDDc := Lib.hid hdd
      have HBc := Lib.hid hbc
      clear hma hgs hz hdb hdd hbc hA2 hD2 hpv rows rows2 hdet HAi HZi HDi HDDi HBi HGS HZC NZ
      have q1 := HAc.out.head s.rank hrm
      obtain ⟨y, hy4, hyq⟩ := (HAc.out.row s.rank hrm).elem (show cc < n by omega)
      obtain ⟨y0, y1, y2, y3⟩ := hy4
      have HY := Lib.hid (show RRatR wc (.agg #[.bool y.n1, .slice y.a1 y.k1 y.c1, .bool y.n2, .slice y.a2 y.k2 y.c2]) (A2 s.rank cc) from hyq)
      obtain ⟨⟨z0, z1, z2, z3⟩, z4, z5, z6, z7⟩ := res4_facts HDc.out
      have hlp := (Array.getElem?_eq_some_iff.1 HDc.out).1
      clear hyq
      go_wp2_with fail
      obtain ⟨w6, hW, hs, hb, hc6⟩ := alloc1 wc (.cells #[.bool y.n1, .slice y.a1 y.k1 y.c1, .bool y.n2, .slice y.a2 y.k2 y.c2] 54)
      rw [← hW]
      have HA6 := Lib.hid (HAc.out.below hb)
      have HZ6 := Lib.hid (blk_next HZc.out hb)
      have HP6 := Lib.hid (blk_next HDc.out hb)
      have HDD6 := Lib.hid (HDDc.out.below hb)
      have HY6 := Lib.hid (HY.out.below hb)
      have HV6 := Lib.hid hc6
      have HB6 := Lib.hid (HBc.out.trans (Below.mono hb (by have := HBc.out.size; omega)))
      clear hW hs hb hc6 q1 y0 y1 y2 y3 z0 z1 z2 z3 z4 z5 z6 z7 HAc HZc HDc HDDc HBc HY
      (with_reducible refine ((rratmul_any HDD6.out HY6.out rdet (rall.out s.rank cc hrm (by omega)) (by decide)).mono fun _ _ h => h.plain).mono ?_)
      rintro e w7 ⟨t1, t2, t3, t4, t5, t6, t7, t8, rfl, hu, hb⟩
      have HP7 := Lib.hid (blk_next HP6.out hb)
      obtain ⟨⟨y0, y1, y2, y3⟩, y4, y5, y6, y7⟩ := res4_facts HP7.out
      go_wp2_with fail
      obtain ⟨w8, hW8⟩ : ∃ X, X = (((w7.setCell ⟨w2.heap.size, 0, none⟩ (.bool t1)).setCell ⟨w2.heap.size, 1, none⟩ (.slice t2 t3 t4)).setCell ⟨w2.heap.size, 2, none⟩ (.bool t5)).setCell ⟨w2.heap.size, 3, none⟩ (.slice t6 t7 t8) := ⟨_, rfl⟩
      rw [← hW8]
      have hst5 : Stay (w2.heap.size) (w2.heap.size + 1) w7 w8 := by rw [hW8]; exact set4_stay
      have hn5 := noInt4 HP7.out
      have HA8 := Lib.hid ((HA6.out.below hb).stay hst5 (by omega) (fun x hx => by have := (HGc.out x hx).2; omega) hn5)
      have HZ8 := Lib.hid ((hst5.block (w.heap.size) (Array.getElem?_eq_some_iff.1 (blk_next HZ6.out hb)).1 (by omega)).trans (blk_next HZ6.out hb))
      have HV8 := Lib.hid ((hst5.block (wc.heap.size) (Array.getElem?_eq_some_iff.1 (blk_next HV6.out hb)).1 (by omega)).trans (blk_next HV6.out hb))
      have HP8 := Lib.hid (show w8.heap[w2.heap.size]? = some (.cells #[.bool t1, .slice t2 t3 t4, .bool t5, .slice t6 t7 t8] 54 (0, 0)) by rw [hW8]; exact res4_set HP7.out)
      have HDD8 := Lib.hid (hu.stay hst5 (noInt_one hn5))
      have HY8 := Lib.hid ((HY6.out.below hb).stay hst5 (noInt_one hn5))
      have HB8 := Lib.hid ((HB6.out.trans (Below.mono hb (by have := HB6.out.size; omega))).trans (hst5.below (show B ≤ w2.heap.size by omega) (by have := HB6.out.size; have := hb.size; omega)))
      clear hW8 hu hb hst5 hn5 y0 y1 y2 y3 y4 y5 y6 y7 HP6 HP7 HA6 HZ6 HDD6 HY6 HV6 HB6
      go_loopw [11] (fun i wr => ∃ (k : Nat), i = .int .i64 k ∧ k ≤ n ∧ MatX wr G m n g2 cp2 (divIn A2 s.rank cc k) ∧ OnlyP (RowsP m g2) w8 wr) (fun i _ => n - (intOf i).toNat)
      case atStart => exact ⟨0, rfl, by omega, by rw [divIn_start]; exact HA8.out, OnlyP.refl _ _⟩
      case round =>
        obtain ⟨k, rfl, hk, hma, hon⟩ := hrel
        have HR := Lib.hid hma
        have HO := Lib.hid hon
        clear hma hon
        have q1 := HR.out.head s.rank hrm
        by_cases hkn : k = n
        · obtain rfl : n = k := hkn.symm
          have HC0 := Lib.hid (HR.out.congr (fun x hx y hy => divIn_done (A := A2) (r := s.rank) (c := cc) (i := x) hy))
          have hnp : ¬ RowsP m g2 w2.heap.size := fun ⟨i, hi, e⟩ => by have := (HGc.out i hi).2; omega
          have hnz : ¬ RowsP m g2 w.heap.size := fun ⟨i, hi, e⟩ => by have := (HGc.out i hi).2; omega
          have HP10 := Lib.hid (HO.out.heap hnp HP8.out)
          have HZ10 := Lib.hid (HO.out.heap hnz HZ8.out)
          have HDD10 := Lib.hid (HDD8.out.onlyP HO.out HA8.out.noInt)
          have HB10 := Lib.hid (HB8.out.trans (HO.out.below (fun b ⟨i, hi, e⟩ => by have := (HGc.out i hi).1; omega) (by have := HB8.out.size; omega)))
          have hw8 := HO.out.size
          have hw8b : w.heap.size ≤ w8.heap.size := Nat.le_of_lt (Array.getElem?_eq_some_iff.1 HZ8.out).1
          clear hnp hnz HP8 HZ8 HDD8 HB8 HA8 HR HO HY8 HV8
          rename World => w10
          go_wp2_with fail
          clear q1
          go_loopw [12] (fun i wr => ∃ (a : Nat), i = .int .i64 a ∧ a ≤ m ∧ MatX wr G m n g2 cp2 (clrIn A2 s.rank cc a 0) ∧ OnlyP (RowsP m g2) w10 wr) (fun i _ => m - (intOf i).toNat)
          case atStart => exact ⟨0, rfl, by omega, HC0.out, OnlyP.refl _ _⟩
          case round =>
            obtain ⟨a, rfl, ha, hma, hon⟩ := hrel
            have HR := Lib.hid hma
            have HO := Lib.hid hon
            clear hma hon
            by_cases ham0 : a = m
            · obtain rfl : m = a := ham0.symm
              have HE := Lib.hid (HR.out.congr (fun x hx y hy => clrIn_done (A := A2) (r := s.rank) (c := cc) (j := y) hx))
              have hnp : ¬ RowsP m g2 w2.heap.size := fun ⟨i, hi, e⟩ => by have := (HGc.out i hi).2; omega
              have hnz : ¬ RowsP m g2 w.heap.size := fun ⟨i, hi, e⟩ => by have := (HGc.out i hi).2; omega
              have HP11 := Lib.hid (HO.out.heap hnp HP10.out)
              have HZ11 := Lib.hid (HO.out.heap hnz HZ10.out)
              have HDD11 := Lib.hid (HDD10.out.onlyP HO.out HC0.out.noInt)
              have HB11 := Lib.hid (HB10.out.trans (HO.out.below (fun b ⟨i, hi, e⟩ => by have := (HGc.out i hi).1; omega) (by have := HB10.out.size; omega)))
              have HS := Lib.hid (Run.succ HRun.out HSTEP.out)
              clear hnp hnz HP10 HZ10 HDD10 HB10 HC0 HR HO
              go_wp2
              go_roundw
              case rel => (first | exact ⟨cc + 1, _, g2, cp2, t1, t2, t3, t4, t5, t6, t7, t8, by go_num, by go_num, by omega, HS.out, HE.out, HGc.out, HZ11.out, HP11.out, HDD11.out, HB11.out⟩ | ((repeat apply Exists.intro); exact ⟨⟨cc + 1, _, g2, cp2, t1, t2, t3, t4, t5, t6, t7, t8, by go_num, by go_num, by omega, HS.out, HE.out, HGc.out, HZ11.out, HP11.out, HDD11.out, HB11.out⟩, rfl⟩))
              case measure => (simp [intOf]; omega)
            have ham : a < m := by omega
            have hai : (a : Int) < (m : Int) := by omega
            have q1 := HR.out.head a ham
            obtain ⟨f, hf4, hfq⟩ := (HR.out.row a ham).elem (show cc < n by omega)
            obtain ⟨f0, f1, f2, f3⟩ := hf4
            have HF0 := Lib.hid (show RRatR wr (.agg #[.bool f.n1, .slice f.a1 f.k1 f.c1, .bool f.n2, .slice f.a2 f.k2 f.c2]) (clrIn A2 s.rank cc a 0 a cc) from hfq)
            clear hfq
            rename World => wi
            go_wp2_with fail
            obtain ⟨w11, hW, hs, hb, hc11⟩ := alloc1 wi (.cells #[.bool f.n1, .slice f.a1 f.k1 f.c1, .bool f.n2, .slice f.a2 f.k2 f.c2] 54)
            rw [← hW]
            have HR11 := Lib.hid (HR.out.below hb)
            have HO11 := Lib.hid (HO.out.next hb)
            have HF11 := Lib.hid (HF0.out.below hb)
            have HFB := Lib.hid hc11
            have hlw : w.heap.size ≤ wi.heap.size := Nat.le_trans (by have := hw8; omega) HO.out.size
            clear hW hs hb hc11 HR HO HF0 f0 f1 f2 f3 q1
            go_loopw [14] (fun i wr => ∃ (k : Nat), i = .int .i64 k ∧ k ≤ n ∧ MatX wr G m n g2 cp2 (clrIn A2 s.rank cc a k) ∧ OnlyP (RowsP m g2) w11 wr ∧ ((a = s.rank ∨ A2 a cc = 0) → k = 0)) (fun i _ => n - (intOf i).toNat)
            case atStart => exact ⟨0, rfl, by omega, HR11.out, OnlyP.refl _ _, fun _ => rfl⟩
            case round =>
              obtain ⟨k, rfl, hk, hma, hon, hk0⟩ := hrel
              have HR := Lib.hid hma
              have HO := Lib.hid hon
              have HK0 := Lib.hid hk0
              clear hma hon hk0
              by_cases har : a = s.rank
              · obtain rfl : k = 0 := HK0.out (.inl har)
                have hne : ((a : Int) == (s.rank : Int)) = true := by rw [har]; exact beq_self_eq_true _
                have hne2 : ((a : Int) != (s.rank : Int)) = false := by rw [bne, hne]; rfl
                have HN1 := Lib.hid (HR.out.congr (fun x hx y hy => show clrIn A2 s.rank cc a 0 x y = clrIn A2 s.rank cc (a + 1) 0 x y by rw [har]; exact clrIn_pivot))
                have HO1 := Lib.hid (HO11.out.trans HO.out)
                clear har HR HO HK0
                go_wp2
                go_roundw
                case rel => (first | exact ⟨a + 1, by go_num, by omega, HN1.out, HO1.out⟩ | ((repeat apply Exists.intro); exact ⟨⟨a + 1, by go_num, by omega, HN1.out, HO1.out⟩, rfl⟩))
                case measure => (simp [intOf]; omega)
              have hne : ((a : Int) == (s.rank : Int)) = false := by rw [beq_eq_false_iff_ne]; omega
              have hne2 : ((a : Int) != (s.rank : Int)) = true := by rw [bne, hne]; rfl
              have hnv : ¬ RowsP m g2 wi.heap.size := fun ⟨i, hi, e⟩ => by have := (HGc.out i hi).2; omega
              have HFk := Lib.hid (HO.out.heap hnv HFB.out)
              have HF := Lib.hid (RRatR.as (HF11.out.onlyP HO.out HR11.out.noInt) (clrIn_here (A := A2) (c := cc) har (Nat.zero_le _)))
              obtain ⟨⟨v0, v1, v2, v3⟩, _, _, _, _⟩ := res4_facts HFk.out
              clear hnv
              go_wp2_with fail
              (with_reducible refine (rratsign_any HF.out).mono ?_)
              rintro e w12 ⟨rfl, hb⟩
              replace HR := Lib.hid (HR.out.below hb)
              replace HO := Lib.hid (HO.out.next hb)
              replace HFk := Lib.hid (blk_next HFk.out hb)
              replace HF := Lib.hid (HF.out.below hb)
              clear hb v0 v1 v2 v3
              by_cases haz : A2 a cc = 0
              · obtain rfl : k = 0 := HK0.out (.inr haz)
                have HN1 := Lib.hid (HR.out.congr (fun x hx y hy => clrIn_zero (r := s.rank) (i := x) (j := y) haz))
                have HO1 := Lib.hid (HO11.out.trans HO.out)
                rw [haz, show (0 : Rat).num.sign = 0 from rfl]
                clear har haz HR HO HK0
                go_wp2
                go_roundw
                case rel => (first | exact ⟨a + 1, by go_num, by omega, HN1.out, HO1.out⟩ | ((repeat apply Exists.intro); exact ⟨⟨a + 1, by go_num, by omega, HN1.out, HO1.out⟩, rfl⟩))
                case measure => (simp [intOf]; omega)
              have hks : ((A2 a cc).num.sign == 0) = false := by
                rw [beq_eq_false_iff_ne]
                intro e
                exact haz (Rat.num_eq_zero.1 (Int.sign_eq_zero_iff_zero.1 e))
              have hks2 : ((A2 a cc).num.sign != 0) = true := by rw [bne, hks]; rfl
              have q1 := HR.out.head a ham
              by_cases hkn : k = n
              · obtain rfl : n = k := hkn.symm
                have HN1 := Lib.hid (HR.out.congr (fun x hx y hy => clrIn_next (A := A2) (r := s.rank) (c := cc) (a := a) (i := x) hy))
                have HO1 := Lib.hid (HO11.out.trans HO.out)
                clear har haz HR HO HK0
                go_wp2
                go_roundw
                case rel => (first | exact ⟨a + 1, by go_num, by omega, HN1.out, HO1.out⟩ | ((repeat apply Exists.intro); exact ⟨⟨a + 1, by go_num, by omega, HN1.out, HO1.out⟩, rfl⟩))
                case measure => (simp [intOf]; omega)
              have hkl : k < n := by omega
              have hki : (k : Int) < (n : Int) := by omega
              have q2 := HR.out.head s.rank hrm
              obtain ⟨x, hx4, hxq⟩ := (HR.out.row a ham).elem hkl
              obtain ⟨x0, x1, x2, x3⟩ := hx4
              rw [clrIn_here har (Nat.le_refl _)] at hxq
              obtain ⟨p, hp4, hpq⟩ := (HR.out.row s.rank hrm).elem hkl
              obtain ⟨p0, p1, p2, p3⟩ := hp4
              rw [clrIn_row] at hpq
              have HX := Lib.hid (show RRatR w12 (.agg #[.bool x.n1, .slice x.a1 x.k1 x.c1, .bool x.n2, .slice x.a2 x.k2 x.c2]) (A2 a k) from hxq)
              have HP := Lib.hid (show RRatR w12 (.agg #[.bool p.n1, .slice p.a1 p.k1 p.c1, .bool p.n2, .slice p.a2 p.k2 p.c2]) (A2 s.rank k / A2 s.rank cc) from hpq)
              obtain ⟨⟨v0, v1, v2, v3⟩, _, _, _, _⟩ := res4_facts HFk.out
              have rf := rall.out a cc ham (by omega)
              have rp : Rg 14000000000 (A2 s.rank k / A2 s.rank cc) := (Rg.of ((rowD_norm (show cc < n by omega) (HROW.out s.rank hrm) NZP.out).fw hkl)).mono (by omega)
              have rm := Rg.mul rf rp
              have rx := (rall.out a k ham hkl).mono (show 14000000000 ≤ 2 * 14000000000 + 1 by decide)
              clear hxq hpq
              rename World => wr
              go_wp2_with fail
              have hg1 := HR.out.apart a ham
              have hg2 := (HGc.out a ham).2
              have hg3 : g2 s.rank ≠ g2 a := fun q => har (HR.out.inj s.rank a hrm ham q).symm
              have HL := Lib.hid (fun (w' : World) (hs : Stay (g2 a) ((g2 a) + 1) wr w') => (⟨hs.cell (by omega) q1, hs.cell (by omega) q2, hs.cell (.inr (by omega)) v0, hs.cell (.inr (by omega)) v1, hs.cell (.inr (by omega)) v2, hs.cell (.inr (by omega)) v3, hs.cell (by omega) p0, hs.cell (by omega) p1, hs.cell (by omega) p2, hs.cell (by omega) p3⟩ : w'.cell? ⟨G, a, none⟩ = some (.slice (some ⟨g2 a, 0, none⟩) n (cp2 a)) ∧ w'.cell? ⟨G, s.rank, none⟩ = some (.slice (some ⟨g2 s.rank, 0, none⟩) n (cp2 s.rank)) ∧ w'.cell? ⟨wi.heap.size, 0, none⟩ = some (.bool f.n1) ∧ w'.cell? ⟨wi.heap.size, 1, none⟩ = some (.slice f.a1 f.k1 f.c1) ∧ w'.cell? ⟨wi.heap.size, 2, none⟩ = some (.bool f.n2) ∧ w'.cell? ⟨wi.heap.size, 3, none⟩ = some (.slice f.a2 f.k2 f.c2) ∧ w'.cell? ⟨g2 s.rank, k * 4, none⟩ = some (.bool p.n1) ∧ w'.cell? ⟨g2 s.rank, k * 4 + 1, none⟩ = some (.slice p.a1 p.k1 p.c1) ∧ w'.cell? ⟨g2 s.rank, k * 4 + 2, none⟩ = some (.bool p.n2) ∧ w'.cell? ⟨g2 s.rank, k * 4 + 3, none⟩ = some (.slice p.a2 p.k2 p.c2)))
              have HS0 := Lib.hid (Stay.refl (g2 a) ((g2 a) + 1) wr)
              refine wp_region_held_drew (S := fun w' => w'.cell? ⟨G, a, none⟩ = some (.slice (some ⟨g2 a, 0, none⟩) n (cp2 a)) ∧ w'.cell? ⟨G, s.rank, none⟩ = some (.slice (some ⟨g2 s.rank, 0, none⟩) n (cp2 s.rank)) ∧ w'.cell? ⟨wi.heap.size, 0, none⟩ = some (.bool f.n1) ∧ w'.cell? ⟨wi.heap.size, 1, none⟩ = some (.slice f.a1 f.k1 f.c1) ∧ w'.cell? ⟨wi.heap.size, 2, none⟩ = some (.bool f.n2) ∧ w'.cell? ⟨wi.heap.size, 3, none⟩ = some (.slice f.a2 f.k2 f.c2) ∧ w'.cell? ⟨g2 s.rank, k * 4, none⟩ = some (.bool p.n1) ∧ w'.cell? ⟨g2 s.rank, k * 4 + 1, none⟩ = some (.slice p.a1 p.k1 p.c1) ∧ w'.cell? ⟨g2 s.rank, k * 4 + 2, none⟩ = some (.bool p.n2) ∧ w'.cell? ⟨g2 s.rank, k * 4 + 3, none⟩ = some (.slice p.a2 p.k2 p.c2)) (by kernel_rfl) ?_ (fun hHeld => ?_)
              · exact HL.out _ (Stay.drew HS0.out)
              (try dsimp only at hHeld)
              refine wpAnyH_take (i := 0) (oi := ({ dst := some 137, op := Op.move (Operand.tmp 0), type := 29, pos := "ref.go:83", after := #[], guard := none } : Oper)) (v := ?y2_1_v) rfl (by kernel_rfl) (by kernel_rfl) (by kernel_rfl) (fun _ _ _ h => h) (Or.inl ⟨by rfl, ?y2_1_h⟩) hHeld ?y2_1_r
              case y2_1_h => (intro w hSw; (try dsimp only at hSw); go_simp; all_goals with_reducible rfl)
              (try simp only [Act.put, List.setIfInBounds_toArray, List.set_cons_zero, List.set_cons_succ])
              refine wpAnyH_take (i := 1) (oi := ({ dst := some 138, op := Op.move (Operand.tmp 12), type := 3, pos := "ref.go:83", after := #[], guard := none } : Oper)) (v := ?y2_2_v) rfl (by kernel_rfl) (by kernel_rfl) (by kernel_rfl) (fun _ _ _ h => h) (Or.inl ⟨by rfl, ?y2_2_h⟩) hHeld ?y2_2_r
              case y2_2_h => (intro w hSw; (try dsimp only at hSw); go_simp; all_goals with_reducible rfl)
              (try simp only [Act.put, List.setIfInBounds_toArray, List.set_cons_zero, List.set_cons_succ])
              refine wpAnyH_take (i := 2) (oi := ({ dst := some 139, op := Op.indexAddr 29 (Operand.tmp 137) (Operand.tmp 138), type := 0, pos := "ref.go:83", after := #[{ on := 0, ground := Ground.data }, { on := 1, ground := Ground.data }], guard := none } : Oper)) (v := ?y2_3_v) rfl (by kernel_rfl) (by kernel_rfl) (by kernel_rfl) (fun _ _ _ h => h) (Or.inl ⟨by rfl, ?y2_3_h⟩) hHeld ?y2_3_r
              case y2_3_h => (intro w hSw; (try dsimp only at hSw); go_simp; all_goals with_reducible rfl)
              (try simp only [Act.put, List.setIfInBounds_toArray, List.set_cons_zero, List.set_cons_succ])
              refine wpAnyH_take (i := 3) (oi := ({ dst := some 140, op := Op.load 37 (Operand.tmp 139), type := 37, pos := "ref.go:83", after := #[{ on := 2, ground := Ground.data }], guard := none } : Oper)) (v := ?y2_4_v) rfl (by kernel_rfl) (by kernel_rfl) (by kernel_rfl) (fun _ _ _ h => h) (Or.inl ⟨by rfl, ?y2_4_h⟩) hHeld ?y2_4_r
              case y2_4_h => (intro w hSw; (try dsimp only at hSw); go_simp; all_goals with_reducible rfl)
              (try simp only [Act.put, List.setIfInBounds_toArray, List.set_cons_zero, List.set_cons_succ])
              refine wpAnyH_take (i := 4) (oi := ({ dst := some 141, op := Op.move (Operand.tmp 14), type := 3, pos := "ref.go:83", after := #[], guard := none } : Oper)) (v := ?y2_5_v) rfl (by kernel_rfl) (by kernel_rfl) (by kernel_rfl) (fun _ _ _ h => h) (Or.inl ⟨by rfl, ?y2_5_h⟩) hHeld ?y2_5_r
              case y2_5_h => (intro w hSw; (try dsimp only at hSw); go_simp; all_goals with_reducible rfl)
              (try simp only [Act.put, List.setIfInBounds_toArray, List.set_cons_zero, List.set_cons_succ])
              refine wpAnyH_take (i := 5) (oi := ({ dst := some 142, op := Op.move (Operand.tmp 0), type := 29, pos := "ref.go:83", after := #[], guard := none } : Oper)) (v := ?y2_6_v) rfl (by kernel_rfl) (by kernel_rfl) (by kernel_rfl) (fun _ _ _ h => h) (Or.inl ⟨by rfl, ?y2_6_h⟩) hHeld ?y2_6_r
              case y2_6_h => (intro w hSw; (try dsimp only at hSw); go_simp; all_goals with_reducible rfl)
              (try simp only [Act.put, List.setIfInBounds_toArray, List.set_cons_zero, List.set_cons_succ])
              refine wpAnyH_take (i := 6) (oi := ({ dst := some 143, op := Op.move (Operand.tmp 12), type := 3, pos := "ref.go:83", after := #[], guard := none } : Oper)) (v := ?y2_7_v) rfl (by kernel_rfl) (by kernel_rfl) (by kernel_rfl) (fun _ _ _ h => h) (Or.inl ⟨by rfl, ?y2_7_h⟩) hHeld ?y2_7_r
              case y2_7_h => (intro w hSw; (try dsimp only at hSw); go_simp; all_goals with_reducible rfl)
              (try simp only [Act.put, List.setIfInBounds_toArray, List.set_cons_zero, List.set_cons_succ])
              refine wpAnyH_take (i := 7) (oi := ({ dst := some 144, op := Op.indexAddr 29 (Operand.tmp 142) (Operand.tmp 143), type := 0, pos := "ref.go:83", after := #[{ on := 5, ground := Ground.data }, { on := 6, ground := Ground.data }], guard := none } : Oper)) (v := ?y2_8_v) rfl (by kernel_rfl) (by kernel_rfl) (by kernel_rfl) (fun _ _ _ h => h) (Or.inl ⟨by rfl, ?y2_8_h⟩) hHeld ?y2_8_r
              case y2_8_h => (intro w hSw; (try dsimp only at hSw); go_simp; all_goals with_reducible rfl)
              (try simp only [Act.put, List.setIfInBounds_toArray, List.set_cons_zero, List.set_cons_succ])
              refine wpAnyH_take (i := 8) (oi := ({ dst := some 145, op := Op.load 37 (Operand.tmp 144), type := 37, pos := "ref.go:83", after := #[{ on := 7, ground := Ground.data }], guard := none } : Oper)) (v := ?y2_9_v) rfl (by kernel_rfl) (by kernel_rfl) (by kernel_rfl) (fun _ _ _ h => h) (Or.inl ⟨by rfl, ?y2_9_h⟩) hHeld ?y2_9_r
              case y2_9_h => (intro w hSw; (try dsimp only at hSw); go_simp; all_goals with_reducible rfl)
              (try simp only [Act.put, List.setIfInBounds_toArray, List.set_cons_zero, List.set_cons_succ])
              refine wpAnyH_take (i := 9) (oi := ({ dst := some 146, op := Op.move (Operand.tmp 14), type := 3, pos := "ref.go:83", after := #[], guard := none } : Oper)) (v := ?y2_10_v) rfl (by kernel_rfl) (by kernel_rfl) (by kernel_rfl) (fun _ _ _ h => h) (Or.inl ⟨by rfl, ?y2_10_h⟩) hHeld ?y2_10_r
              case y2_10_h => (intro w hSw; (try dsimp only at hSw); go_simp; all_goals with_reducible rfl)
              (try simp only [Act.put, List.setIfInBounds_toArray, List.set_cons_zero, List.set_cons_succ])
              refine wpAnyH_take (i := 10) (oi := ({ dst := some 147, op := Op.indexAddr 37 (Operand.tmp 145) (Operand.tmp 146), type := 0, pos := "ref.go:83", after := #[{ on := 8, ground := Ground.data }, { on := 9, ground := Ground.data }], guard := none } : Oper)) (v := ?y2_11_v) rfl (by kernel_rfl) (by kernel_rfl) (by kernel_rfl) (fun _ _ _ h => h) (Or.inl ⟨by rfl, ?y2_11_h⟩) hHeld ?y2_11_r
              case y2_11_h => (intro w hSw; (try dsimp only at hSw); go_simp; all_goals with_reducible rfl)
              (try simp only [Act.put, List.setIfInBounds_toArray, List.set_cons_zero, List.set_cons_succ])
              refine wpAnyH_take (i := 12) (oi := ({ dst := some 149, op := Op.load 54 (Operand.tmp 13), type := 54, pos := "ref.go:83", after := #[], guard := none } : Oper)) (v := ?y2_12_v) rfl (by kernel_rfl) (by kernel_rfl) (by kernel_rfl) (fun _ _ _ h => h) (Or.inl ⟨by rfl, ?y2_12_h⟩) hHeld ?y2_12_r
              case y2_12_h => (intro w hSw; (try dsimp only at hSw); go_simp; all_goals with_reducible rfl)
              (try simp only [Act.put, List.setIfInBounds_toArray, List.set_cons_zero, List.set_cons_succ])
              refine wpAnyH_take (i := 13) (oi := ({ dst := some 150, op := Op.move (Operand.tmp 0), type := 29, pos := "ref.go:83", after := #[], guard := none } : Oper)) (v := ?y2_13_v) rfl (by kernel_rfl) (by kernel_rfl) (by kernel_rfl) (fun _ _ _ h => h) (Or.inl ⟨by rfl, ?y2_13_h⟩) hHeld ?y2_13_r
              case y2_13_h => (intro w hSw; (try dsimp only at hSw); go_simp; all_goals with_reducible rfl)
              (try simp only [Act.put, List.setIfInBounds_toArray, List.set_cons_zero, List.set_cons_succ])
              refine wpAnyH_take (i := 14) (oi := ({ dst := some 151, op := Op.move (Operand.tmp 6), type := 3, pos := "ref.go:83", after := #[], guard := none } : Oper)) (v := ?y2_14_v) rfl (by kernel_rfl) (by kernel_rfl) (by kernel_rfl) (fun _ _ _ h => h) (Or.inl ⟨by rfl, ?y2_14_h⟩) hHeld ?y2_14_r
              case y2_14_h => (intro w hSw; (try dsimp only at hSw); go_simp; all_goals with_reducible rfl)
              (try simp only [Act.put, List.setIfInBounds_toArray, List.set_cons_zero, List.set_cons_succ])
              refine wpAnyH_take (i := 15) (oi := ({ dst := some 152, op := Op.indexAddr 29 (Operand.tmp 150) (Operand.tmp 151), type := 0, pos := "ref.go:83", after := #[{ on := 13, ground := Ground.data }, { on := 14, ground := Ground.data }], guard := none } : Oper)) (v := ?y2_15_v) rfl (by kernel_rfl) (by kernel_rfl) (by kernel_rfl) (fun _ _ _ h => h) (Or.inl ⟨by rfl, ?y2_15_h⟩) hHeld ?y2_15_r
              case y2_15_h => (intro w hSw; (try dsimp only at hSw); go_simp; all_goals with_reducible rfl)
              (try simp only [Act.put, List.setIfInBounds_toArray, List.set_cons_zero, List.set_cons_succ])
              refine wpAnyH_take (i := 16) (oi := ({ dst := some 153, op := Op.load 37 (Operand.tmp 152), type := 37, pos := "ref.go:83", after := #[{ on := 15, ground := Ground.data }], guard := none } : Oper)) (v := ?y2_16_v) rfl (by kernel_rfl) (by kernel_rfl) (by kernel_rfl) (fun _ _ _ h => h) (Or.inl ⟨by rfl, ?y2_16_h⟩) hHeld ?y2_16_r
              case y2_16_h => (intro w hSw; (try dsimp only at hSw); go_simp; all_goals with_reducible rfl)
              (try simp only [Act.put, List.setIfInBounds_toArray, List.set_cons_zero, List.set_cons_succ])
              refine wpAnyH_take (i := 17) (oi := ({ dst := some 154, op := Op.move (Operand.tmp 14), type := 3, pos := "ref.go:83", after := #[], guard := none } : Oper)) (v := ?y2_17_v) rfl (by kernel_rfl) (by kernel_rfl) (by kernel_rfl) (fun _ _ _ h => h) (Or.inl ⟨by rfl, ?y2_17_h⟩) hHeld ?y2_17_r
              case y2_17_h => (intro w hSw; (try dsimp only at hSw); go_simp; all_goals with_reducible rfl)
              (try simp only [Act.put, List.setIfInBounds_toArray, List.set_cons_zero, List.set_cons_succ])
              refine wpAnyH_take (i := 18) (oi := ({ dst := some 155, op := Op.indexAddr 37 (Operand.tmp 153) (Operand.tmp 154), type := 0, pos := "ref.go:83", after := #[{ on := 16, ground := Ground.data }, { on := 17, ground := Ground.data }], guard := none } : Oper)) (v := ?y2_18_v) rfl (by kernel_rfl) (by kernel_rfl) (by kernel_rfl) (fun _ _ _ h => h) (Or.inl ⟨by rfl, ?y2_18_h⟩) hHeld ?y2_18_r
              case y2_18_h => (intro w hSw; (try dsimp only at hSw); go_simp; all_goals with_reducible rfl)
              (try simp only [Act.put, List.setIfInBounds_toArray, List.set_cons_zero, List.set_cons_succ])
              refine wpAnyH_take (i := 19) (oi := ({ dst := some 156, op := Op.load 54 (Operand.tmp 155), type := 54, pos := "ref.go:83", after := #[{ on := 18, ground := Ground.data }], guard := none } : Oper)) (v := ?y2_19_v) rfl (by kernel_rfl) (by kernel_rfl) (by kernel_rfl) (fun _ _ _ h => h) (Or.inl ⟨by rfl, ?y2_19_h⟩) hHeld ?y2_19_r
              case y2_19_h => (intro w hSw; (try dsimp only at hSw); go_simp; all_goals with_reducible rfl)
              (try simp only [Act.put, List.setIfInBounds_toArray, List.set_cons_zero, List.set_cons_succ])
              refine wpAnyH_ready (rs := [11, 20]) (by kernel_rfl) (by simp) ?_
              refine AllReadyH.cons (o := ({ dst := some 148, op := Op.load 54 (Operand.tmp 147), type := 54, pos := "ref.go:83", after := #[{ on := 10, ground := Ground.data }], guard := none } : Oper)) rfl (fun K hK => ?_) (AllReadyH.cons (o := ({ dst := some 157, op := Op.call { callee := Callee.value (Operand.func 40), args := #[Operand.tmp 149, Operand.tmp 156], argTypes := #[54, 54] }, type := 54, pos := "ref.go:83", after := #[{ on := 12, ground := Ground.data }, { on := 19, ground := Ground.data }], guard := none } : Oper)) rfl (fun K hK => ?_) AllReadyH.nil)
              · go_simp
                first | refine hK.out _ _ ?_ (fun hHeld => ?_) | (go_wp2_with fail; refine hK.out _ _ ?_ (fun hHeld => ?_))
                · exact HL.out _ (Stay.drew HS0.out)
                clear hK K
                (try dsimp only at hHeld)
                (try simp only [Act.put, List.setIfInBounds_toArray, List.set_cons_zero, List.set_cons_succ])
                refine wpAnyH_ready (rs := [20]) (by kernel_rfl) (by simp) ?_
                refine AllReadyH.cons (o := ({ dst := some 157, op := Op.call { callee := Callee.value (Operand.func 40), args := #[Operand.tmp 149, Operand.tmp 156], argTypes := #[54, 54] }, type := 54, pos := "ref.go:83", after := #[{ on := 12, ground := Ground.data }, { on := 19, ground := Ground.data }], guard := none } : Oper)) rfl (fun K hK => ?_) AllReadyH.nil
                go_simp
                (go_at_call 40; (with_reducible refine ((rratmul_any (HF.out.below (Below.drew (Below.refl _ _))) (HP.out.below (Below.drew (Below.refl _ _))) rf rp (by decide)).mono fun _ _ h => h.plain).mono ?_); rintro e w9 ⟨o1, o2, o3, o4, o5, o6, o7, o8, rfl, hu, hb1⟩; have HT1 := Lib.hid (Stay.next (Stay.drew HS0.out) hb1); have HQ1 := Lib.hid hu; have HR8 := Lib.hid ((HR.out.below (Below.drew (Below.refl _ _))).below hb1); have HX9 := Lib.hid ((HX.out.below (Below.drew (Below.refl _ _))).below hb1); have u0 := keepc hb1 (show wr.drew.cell? _ = _ from x0); have u1 := keepc hb1 (show wr.drew.cell? _ = _ from x1); have u2 := keepc hb1 (show wr.drew.cell? _ = _ from x2); have u3 := keepc hb1 (show wr.drew.cell? _ = _ from x3); have HO8 := Lib.hid ((HO.out.next (Below.drew (Below.refl _ _))).next hb1); clear hu)
                first | refine hK.out _ _ ?_ (fun hHeld => ?_) | (go_wp2_with fail; refine hK.out _ _ ?_ (fun hHeld => ?_))
                · exact HL.out _ HT1.out
                clear hK K
                (try dsimp only at hHeld)
                (try simp only [Act.put, List.setIfInBounds_toArray, List.set_cons_zero, List.set_cons_succ])
                refine wpAnyH_ready (rs := [21]) (by kernel_rfl) (by simp) ?_
                refine AllReadyH.cons (o := ({ dst := some 158, op := Op.call { callee := Callee.value (Operand.func 56), args := #[Operand.tmp 148, Operand.tmp 157], argTypes := #[54, 54] }, type := 54, pos := "ref.go:83", after := #[{ on := 11, ground := Ground.data }, { on := 20, ground := Ground.data }, { on := 20, ground := Ground.chain }], guard := none } : Oper)) rfl (fun K hK => ?_) AllReadyH.nil
                go_simp
                (go_at_call 56; (with_reducible refine ((rratsub_any HX9.out HQ1.out rx rm (by decide)).mono fun _ _ h => h.plain).mono ?_); rintro e w10b ⟨r1, r2, r3, r4, r5, r6, r7, r8, rfl, hu, hb2⟩; have HT2 := Lib.hid (Stay.next HT1.out hb2); have HQ := Lib.hid (show rRatN w10b ⟨r1, r2, r3, r4, r5, r6, r7, r8⟩ _ from hu); have HR9 := Lib.hid (HR8.out.below hb2); replace u0 := keepc hb2 u0; replace u1 := keepc hb2 u1; replace u2 := keepc hb2 u2; replace u3 := keepc hb2 u3; have z0 := (HR9.out.row a ham).unfrozen (k * 4); have z1 := (HR9.out.row a ham).unfrozen (k * 4 + 1); have z2 := (HR9.out.row a ham).unfrozen (k * 4 + 2); have z3 := (HR9.out.row a ham).unfrozen (k * 4 + 3); have HO9 := Lib.hid (HO8.out.next hb2); clear hu hb1 hb2)
                first | refine hK.out _ _ ?_ (fun hHeld => ?_) | (go_wp2_with fail; refine hK.out _ _ ?_ (fun hHeld => ?_))
                · exact HL.out _ HT2.out
                clear hK K
                (try dsimp only at hHeld)
                (try simp only [Act.put, List.setIfInBounds_toArray, List.set_cons_zero, List.set_cons_succ])
                refine wpAnyH_take (i := 22) (oi := ({ dst := some 159, op := Op.indexAddr 37 (Operand.tmp 140) (Operand.tmp 141), type := 0, pos := "ref.go:83", after := #[{ on := 3, ground := Ground.data }, { on := 4, ground := Ground.data }, { on := 0, ground := Ground.phase }, { on := 1, ground := Ground.phase }, { on := 2, ground := Ground.phase }, { on := 3, ground := Ground.phase }, { on := 4, ground := Ground.phase }, { on := 5, ground := Ground.phase }, { on := 6, ground := Ground.phase }, { on := 7, ground := Ground.phase }, { on := 8, ground := Ground.phase }, { on := 9, ground := Ground.phase }, { on := 10, ground := Ground.phase }, { on := 11, ground := Ground.phase }, { on := 12, ground := Ground.phase }, { on := 13, ground := Ground.phase }, { on := 14, ground := Ground.phase }, { on := 15, ground := Ground.phase }, { on := 16, ground := Ground.phase }, { on := 17, ground := Ground.phase }, { on := 18, ground := Ground.phase }, { on := 19, ground := Ground.phase }, { on := 20, ground := Ground.phase }, { on := 21, ground := Ground.phase }], guard := none } : Oper)) (v := ?y2_20_v) rfl (by kernel_rfl) (by kernel_rfl) (by kernel_rfl) (fun _ _ _ h => h) (Or.inl ⟨by rfl, ?y2_20_h⟩) hHeld ?y2_20_r
                case y2_20_h => (intro w hSw; (try dsimp only at hSw); go_simp; all_goals with_reducible rfl)
                (try simp only [Act.put, List.setIfInBounds_toArray, List.set_cons_zero, List.set_cons_succ])
                refine wpAnyH_ready (rs := [23]) (by kernel_rfl) (by simp) ?_
                refine AllReadyH.cons (o := ({ dst := none, op := Op.store 54 (Operand.tmp 159) (Operand.tmp 158), type := 0, pos := "ref.go:83", after := #[{ on := 22, ground := Ground.data }, { on := 21, ground := Ground.data }, { on := 21, ground := Ground.chain }, { on := 0, ground := Ground.phase }, { on := 1, ground := Ground.phase }, { on := 2, ground := Ground.phase }, { on := 3, ground := Ground.phase }, { on := 4, ground := Ground.phase }, { on := 5, ground := Ground.phase }, { on := 6, ground := Ground.phase }, { on := 7, ground := Ground.phase }, { on := 8, ground := Ground.phase }, { on := 9, ground := Ground.phase }, { on := 10, ground := Ground.phase }, { on := 11, ground := Ground.phase }, { on := 12, ground := Ground.phase }, { on := 13, ground := Ground.phase }, { on := 14, ground := Ground.phase }, { on := 15, ground := Ground.phase }, { on := 16, ground := Ground.phase }, { on := 17, ground := Ground.phase }, { on := 18, ground := Ground.phase }, { on := 19, ground := Ground.phase }, { on := 20, ground := Ground.phase }, { on := 21, ground := Ground.phase }], guard := none } : Oper)) rfl (fun K hK => ?_) AllReadyH.nil
                go_simp
                first | refine hK.out _ _ ?_ (fun hHeld => ?_) | (go_wp2_with fail; refine hK.out _ _ ?_ (fun hHeld => ?_))
                · exact HL.out _ (stay_four HT2.out)
                clear hK K
                (try dsimp only at hHeld)
                (try simp only [Act.put, List.setIfInBounds_toArray, List.set_cons_zero, List.set_cons_succ])
                refine wpAnyH_done (by kernel_rfl) ?_ _
                have HM2 := Lib.hid (by have := HR9.out.put (x := ⟨r1, r2, r3, r4, r5, r6, r7, r8⟩) ham hkl HQ.out; rw [clrIn_put har] at this; exact this : MatX (putN w10b (g2 a) (k * 4) ⟨r1, r2, r3, r4, r5, r6, r7, r8⟩) G m n g2 cp2 (clrIn A2 s.rank cc a (k + 1)))
                have HO2 := Lib.hid (HO9.out.trans (OnlyP.of_stay (putN_stay (w := w10b) (b := g2 a) (o := k * 4) (x := ⟨r1, r2, r3, r4, r5, r6, r7, r8⟩)) ⟨a, ham, rfl⟩))
                have HK2 := Lib.hid (show (a = s.rank ∨ A2 a cc = 0) → k + 1 = 0 from fun q => absurd q (fun q => q.elim har haz))
                clear HL q1 q2 v0 v1 v2 v3 x0 x1 x2 x3 u0 u1 u2 u3 z0 z1 z2 z3 p0 p1 p2 p3 har haz
                go_wp2
                go_roundw
                case rel => (first | exact ⟨k + 1, by go_num, by omega, HM2.out, HO2.out, HK2.out⟩ | ((repeat apply Exists.intro); exact ⟨⟨k + 1, by go_num, by omega, HM2.out, HO2.out, HK2.out⟩, rfl⟩))
                case measure => (simp [intOf]; omega)
              · go_simp
                (go_at_call 40; (with_reducible refine ((rratmul_any (HF.out.below (Below.drew (Below.refl _ _))) (HP.out.below (Below.drew (Below.refl _ _))) rf rp (by decide)).mono fun _ _ h => h.plain).mono ?_); rintro e w9 ⟨o1, o2, o3, o4, o5, o6, o7, o8, rfl, hu, hb1⟩; have HT1 := Lib.hid (Stay.next (Stay.drew HS0.out) hb1); have HQ1 := Lib.hid hu; have HR8 := Lib.hid ((HR.out.below (Below.drew (Below.refl _ _))).below hb1); have HX9 := Lib.hid ((HX.out.below (Below.drew (Below.refl _ _))).below hb1); have u0 := keepc hb1 (show wr.drew.cell? _ = _ from x0); have u1 := keepc hb1 (show wr.drew.cell? _ = _ from x1); have u2 := keepc hb1 (show wr.drew.cell? _ = _ from x2); have u3 := keepc hb1 (show wr.drew.cell? _ = _ from x3); have HO8 := Lib.hid ((HO.out.next (Below.drew (Below.refl _ _))).next hb1); clear hu)
                first | refine hK.out _ _ ?_ (fun hHeld => ?_) | (go_wp2_with fail; refine hK.out _ _ ?_ (fun hHeld => ?_))
                · exact HL.out _ HT1.out
                clear hK K
                (try dsimp only at hHeld)
                (try simp only [Act.put, List.setIfInBounds_toArray, List.set_cons_zero, List.set_cons_succ])
                refine wpAnyH_ready (rs := [11]) (by kernel_rfl) (by simp) ?_
                refine AllReadyH.cons (o := ({ dst := some 148, op := Op.load 54 (Operand.tmp 147), type := 54, pos := "ref.go:83", after := #[{ on := 10, ground := Ground.data }], guard := none } : Oper)) rfl (fun K hK => ?_) AllReadyH.nil
                go_simp
                first | refine hK.out _ _ ?_ (fun hHeld => ?_) | (go_wp2_with fail; refine hK.out _ _ ?_ (fun hHeld => ?_))
                · exact HL.out _ HT1.out
                clear hK K
                (try dsimp only at hHeld)
                (try simp only [Act.put, List.setIfInBounds_toArray, List.set_cons_zero, List.set_cons_succ])
                refine wpAnyH_ready (rs := [21]) (by kernel_rfl) (by simp) ?_
                refine AllReadyH.cons (o := ({ dst := some 158, op := Op.call { callee := Callee.value (Operand.func 56), args := #[Operand.tmp 148, Operand.tmp 157], argTypes := #[54, 54] }, type := 54, pos := "ref.go:83", after := #[{ on := 11, ground := Ground.data }, { on := 20, ground := Ground.data }, { on := 20, ground := Ground.chain }], guard := none } : Oper)) rfl (fun K hK => ?_) AllReadyH.nil
                go_simp
                (go_at_call 56; (with_reducible refine ((rratsub_any HX9.out HQ1.out rx rm (by decide)).mono fun _ _ h => h.plain).mono ?_); rintro e w10b ⟨r1, r2, r3, r4, r5, r6, r7, r8, rfl, hu, hb2⟩; have HT2 := Lib.hid (Stay.next HT1.out hb2); have HQ := Lib.hid (show rRatN w10b ⟨r1, r2, r3, r4, r5, r6, r7, r8⟩ _ from hu); have HR9 := Lib.hid (HR8.out.below hb2); replace u0 := keepc hb2 u0; replace u1 := keepc hb2 u1; replace u2 := keepc hb2 u2; replace u3 := keepc hb2 u3; have z0 := (HR9.out.row a ham).unfrozen (k * 4); have z1 := (HR9.out.row a ham).unfrozen (k * 4 + 1); have z2 := (HR9.out.row a ham).unfrozen (k * 4 + 2); have z3 := (HR9.out.row a ham).unfrozen (k * 4 + 3); have HO9 := Lib.hid (HO8.out.next hb2); clear hu hb1 hb2)
                first | refine hK.out _ _ ?_ (fun hHeld => ?_) | (go_wp2_with fail; refine hK.out _ _ ?_ (fun hHeld => ?_))
                · exact HL.out _ HT2.out
                clear hK K
                (try dsimp only at hHeld)
                (try simp only [Act.put, List.setIfInBounds_toArray, List.set_cons_zero, List.set_cons_succ])
                refine wpAnyH_take (i := 22) (oi := ({ dst := some 159, op := Op.indexAddr 37 (Operand.tmp 140) (Operand.tmp 141), type := 0, pos := "ref.go:83", after := #[{ on := 3, ground := Ground.data }, { on := 4, ground := Ground.data }, { on := 0, ground := Ground.phase }, { on := 1, ground := Ground.phase }, { on := 2, ground := Ground.phase }, { on := 3, ground := Ground.phase }, { on := 4, ground := Ground.phase }, { on := 5, ground := Ground.phase }, { on := 6, ground := Ground.phase }, { on := 7, ground := Ground.phase }, { on := 8, ground := Ground.phase }, { on := 9, ground := Ground.phase }, { on := 10, ground := Ground.phase }, { on := 11, ground := Ground.phase }, { on := 12, ground := Ground.phase }, { on := 13, ground := Ground.phase }, { on := 14, ground := Ground.phase }, { on := 15, ground := Ground.phase }, { on := 16, ground := Ground.phase }, { on := 17, ground := Ground.phase }, { on := 18, ground := Ground.phase }, { on := 19, ground := Ground.phase }, { on := 20, ground := Ground.phase }, { on := 21, ground := Ground.phase }], guard := none } : Oper)) (v := ?y2_21_v) rfl (by kernel_rfl) (by kernel_rfl) (by kernel_rfl) (fun _ _ _ h => h) (Or.inl ⟨by rfl, ?y2_21_h⟩) hHeld ?y2_21_r
                case y2_21_h => (intro w hSw; (try dsimp only at hSw); go_simp; all_goals with_reducible rfl)
                (try simp only [Act.put, List.setIfInBounds_toArray, List.set_cons_zero, List.set_cons_succ])
                refine wpAnyH_ready (rs := [23]) (by kernel_rfl) (by simp) ?_
                refine AllReadyH.cons (o := ({ dst := none, op := Op.store 54 (Operand.tmp 159) (Operand.tmp 158), type := 0, pos := "ref.go:83", after := #[{ on := 22, ground := Ground.data }, { on := 21, ground := Ground.data }, { on := 21, ground := Ground.chain }, { on := 0, ground := Ground.phase }, { on := 1, ground := Ground.phase }, { on := 2, ground := Ground.phase }, { on := 3, ground := Ground.phase }, { on := 4, ground := Ground.phase }, { on := 5, ground := Ground.phase }, { on := 6, ground := Ground.phase }, { on := 7, ground := Ground.phase }, { on := 8, ground := Ground.phase }, { on := 9, ground := Ground.phase }, { on := 10, ground := Ground.phase }, { on := 11, ground := Ground.phase }, { on := 12, ground := Ground.phase }, { on := 13, ground := Ground.phase }, { on := 14, ground := Ground.phase }, { on := 15, ground := Ground.phase }, { on := 16, ground := Ground.phase }, { on := 17, ground := Ground.phase }, { on := 18, ground := Ground.phase }, { on := 19, ground := Ground.phase }, { on := 20, ground := Ground.phase }, { on := 21, ground := Ground.phase }], guard := none } : Oper)) rfl (fun K hK => ?_) AllReadyH.nil
                go_simp
                first | refine hK.out _ _ ?_ (fun hHeld => ?_) | (go_wp2_with fail; refine hK.out _ _ ?_ (fun hHeld => ?_))
                · exact HL.out _ (stay_four HT2.out)
                clear hK K
                (try dsimp only at hHeld)
                (try simp only [Act.put, List.setIfInBounds_toArray, List.set_cons_zero, List.set_cons_succ])
                refine wpAnyH_done (by kernel_rfl) ?_ _
                have HM2 := Lib.hid (by have := HR9.out.put (x := ⟨r1, r2, r3, r4, r5, r6, r7, r8⟩) ham hkl HQ.out; rw [clrIn_put har] at this; exact this : MatX (putN w10b (g2 a) (k * 4) ⟨r1, r2, r3, r4, r5, r6, r7, r8⟩) G m n g2 cp2 (clrIn A2 s.rank cc a (k + 1)))
                have HO2 := Lib.hid (HO9.out.trans (OnlyP.of_stay (putN_stay (w := w10b) (b := g2 a) (o := k * 4) (x := ⟨r1, r2, r3, r4, r5, r6, r7, r8⟩)) ⟨a, ham, rfl⟩))
                have HK2 := Lib.hid (show (a = s.rank ∨ A2 a cc = 0) → k + 1 = 0 from fun q => absurd q (fun q => q.elim har haz))
                clear HL q1 q2 v0 v1 v2 v3 x0 x1 x2 x3 u0 u1 u2 u3 z0 z1 z2 z3 p0 p1 p2 p3 har haz
                go_wp2
                go_roundw
                case rel => (first | exact ⟨k + 1, by go_num, by omega, HM2.out, HO2.out, HK2.out⟩ | ((repeat apply Exists.intro); exact ⟨⟨k + 1, by go_num, by omega, HM2.out, HO2.out, HK2.out⟩, rfl⟩))
                case measure => (simp [intOf]; omega)
        have hkl : k < n := by omega
        have hki : (k : Int) < (n : Int) := by omega
        obtain ⟨x, hx4, hxq⟩ := (HR.out.row s.rank hrm).elem hkl
        obtain ⟨x0, x1, x2, x3⟩ := hx4
        rw [divIn_here (Nat.le_refl _)] at hxq
        have HX := Lib.hid (show RRatR wr (.agg #[.bool x.n1, .slice x.a1 x.k1 x.c1, .bool x.n2, .slice x.a2 x.k2 x.c2]) (A2 s.rank k) from hxq)
        have HYr := Lib.hid (HY8.out.onlyP HO.out HA8.out.noInt)
        have hnv : ¬ RowsP m g2 wc.heap.size := fun ⟨i, hi, e⟩ => by have := (HGc.out i hi).2; omega
        obtain ⟨⟨v0, v1, v2, v3⟩, _, _, _, _⟩ := res4_facts (HO.out.heap hnv HV8.out)
        have z0 := (HR.out.row s.rank hrm).unfrozen (k * 4)
        have z1 := (HR.out.row s.rank hrm).unfrozen (k * 4 + 1)
        have z2 := (HR.out.row s.rank hrm).unfrozen (k * 4 + 2)
        have z3 := (HR.out.row s.rank hrm).unfrozen (k * 4 + 3)
        have rx := rall.out s.rank k hrm hkl
        have ry := rall.out s.rank cc hrm (by omega)
        clear hxq
        go_wp2_with fail
        have hg1 := HR.out.apart s.rank hrm
        have hg2 := (HGc.out s.rank hrm).2
        have hwc : w.heap.size ≤ wc.heap.size := HBc0
        have HL := Lib.hid (fun (w' : World) (hs : Stay (g2 s.rank) ((g2 s.rank) + 1) wr w') => (⟨hs.cell (by omega) q1, hs.cell (.inr (by omega)) v0, hs.cell (.inr (by omega)) v1, hs.cell (.inr (by omega)) v2, hs.cell (.inr (by omega)) v3⟩ : w'.cell? ⟨G, s.rank, none⟩ = some (.slice (some ⟨g2 s.rank, 0, none⟩) n (cp2 s.rank)) ∧ w'.cell? ⟨wc.heap.size, 0, none⟩ = some (.bool y.n1) ∧ w'.cell? ⟨wc.heap.size, 1, none⟩ = some (.slice y.a1 y.k1 y.c1) ∧ w'.cell? ⟨wc.heap.size, 2, none⟩ = some (.bool y.n2) ∧ w'.cell? ⟨wc.heap.size, 3, none⟩ = some (.slice y.a2 y.k2 y.c2)))
        have HS0 := Lib.hid (Stay.refl (g2 s.rank) ((g2 s.rank) + 1) wr)
        refine wp_region_held_drew (S := fun w' => w'.cell? ⟨G, s.rank, none⟩ = some (.slice (some ⟨g2 s.rank, 0, none⟩) n (cp2 s.rank)) ∧ w'.cell? ⟨wc.heap.size, 0, none⟩ = some (.bool y.n1) ∧ w'.cell? ⟨wc.heap.size, 1, none⟩ = some (.slice y.a1 y.k1 y.c1) ∧ w'.cell? ⟨wc.heap.size, 2, none⟩ = some (.bool y.n2) ∧ w'.cell? ⟨wc.heap.size, 3, none⟩ = some (.slice y.a2 y.k2 y.c2)) (by kernel_rfl) ?_ (fun hHeld => ?_)
        · exact HL.out _ (Stay.drew HS0.out)
        (try dsimp only at hHeld)
        refine wpAnyH_take (i := 0) (oi := ({ dst := some 88, op := Op.move (Operand.tmp 0), type := 29, pos := "ref.go:78", after := #[], guard := none } : Oper)) (v := ?y1_1_v) rfl (by kernel_rfl) (by kernel_rfl) (by kernel_rfl) (fun _ _ _ h => h) (Or.inl ⟨by rfl, ?y1_1_h⟩) hHeld ?y1_1_r
        case y1_1_h => (intro w hSw; (try dsimp only at hSw); go_simp; all_goals with_reducible rfl)
        (try simp only [Act.put, List.setIfInBounds_toArray, List.set_cons_zero, List.set_cons_succ])
        refine wpAnyH_take (i := 1) (oi := ({ dst := some 89, op := Op.move (Operand.tmp 6), type := 3, pos := "ref.go:78", after := #[], guard := none } : Oper)) (v := ?y1_2_v) rfl (by kernel_rfl) (by kernel_rfl) (by kernel_rfl) (fun _ _ _ h => h) (Or.inl ⟨by rfl, ?y1_2_h⟩) hHeld ?y1_2_r
        case y1_2_h => (intro w hSw; (try dsimp only at hSw); go_simp; all_goals with_reducible rfl)
        (try simp only [Act.put, List.setIfInBounds_toArray, List.set_cons_zero, List.set_cons_succ])
        refine wpAnyH_take (i := 2) (oi := ({ dst := some 90, op := Op.indexAddr 29 (Operand.tmp 88) (Operand.tmp 89), type := 0, pos := "ref.go:78", after := #[{ on := 0, ground := Ground.data }, { on := 1, ground := Ground.data }], guard := none } : Oper)) (v := ?y1_3_v) rfl (by kernel_rfl) (by kernel_rfl) (by kernel_rfl) (fun _ _ _ h => h) (Or.inl ⟨by rfl, ?y1_3_h⟩) hHeld ?y1_3_r
        case y1_3_h => (intro w hSw; (try dsimp only at hSw); go_simp; all_goals with_reducible rfl)
        (try simp only [Act.put, List.setIfInBounds_toArray, List.set_cons_zero, List.set_cons_succ])
        refine wpAnyH_take (i := 3) (oi := ({ dst := some 91, op := Op.load 37 (Operand.tmp 90), type := 37, pos := "ref.go:78", after := #[{ on := 2, ground := Ground.data }], guard := none } : Oper)) (v := ?y1_4_v) rfl (by kernel_rfl) (by kernel_rfl) (by kernel_rfl) (fun _ _ _ h => h) (Or.inl ⟨by rfl, ?y1_4_h⟩) hHeld ?y1_4_r
        case y1_4_h => (intro w hSw; (try dsimp only at hSw); go_simp; all_goals with_reducible rfl)
        (try simp only [Act.put, List.setIfInBounds_toArray, List.set_cons_zero, List.set_cons_succ])
        refine wpAnyH_take (i := 4) (oi := ({ dst := some 92, op := Op.move (Operand.tmp 11), type := 3, pos := "ref.go:78", after := #[], guard := none } : Oper)) (v := ?y1_5_v) rfl (by kernel_rfl) (by kernel_rfl) (by kernel_rfl) (fun _ _ _ h => h) (Or.inl ⟨by rfl, ?y1_5_h⟩) hHeld ?y1_5_r
        case y1_5_h => (intro w hSw; (try dsimp only at hSw); go_simp; all_goals with_reducible rfl)
        (try simp only [Act.put, List.setIfInBounds_toArray, List.set_cons_zero, List.set_cons_succ])
        refine wpAnyH_take (i := 5) (oi := ({ dst := some 93, op := Op.move (Operand.tmp 0), type := 29, pos := "ref.go:78", after := #[], guard := none } : Oper)) (v := ?y1_6_v) rfl (by kernel_rfl) (by kernel_rfl) (by kernel_rfl) (fun _ _ _ h => h) (Or.inl ⟨by rfl, ?y1_6_h⟩) hHeld ?y1_6_r
        case y1_6_h => (intro w hSw; (try dsimp only at hSw); go_simp; all_goals with_reducible rfl)
        (try simp only [Act.put, List.setIfInBounds_toArray, List.set_cons_zero, List.set_cons_succ])
        refine wpAnyH_take (i := 6) (oi := ({ dst := some 94, op := Op.move (Operand.tmp 6), type := 3, pos := "ref.go:78", after := #[], guard := none } : Oper)) (v := ?y1_7_v) rfl (by kernel_rfl) (by kernel_rfl) (by kernel_rfl) (fun _ _ _ h => h) (Or.inl ⟨by rfl, ?y1_7_h⟩) hHeld ?y1_7_r
        case y1_7_h => (intro w hSw; (try dsimp only at hSw); go_simp; all_goals with_reducible rfl)
        (try simp only [Act.put, List.setIfInBounds_toArray, List.set_cons_zero, List.set_cons_succ])
        refine wpAnyH_take (i := 7) (oi := ({ dst := some 95, op := Op.indexAddr 29 (Operand.tmp 93) (Operand.tmp 94), type := 0, pos := "ref.go:78", after := #[{ on := 5, ground := Ground.data }, { on := 6, ground := Ground.data }], guard := none } : Oper)) (v := ?y1_8_v) rfl (by kernel_rfl) (by kernel_rfl) (by kernel_rfl) (fun _ _ _ h => h) (Or.inl ⟨by rfl, ?y1_8_h⟩) hHeld ?y1_8_r
        case y1_8_h => (intro w hSw; (try dsimp only at hSw); go_simp; all_goals with_reducible rfl)
        (try simp only [Act.put, List.setIfInBounds_toArray, List.set_cons_zero, List.set_cons_succ])
        refine wpAnyH_take (i := 8) (oi := ({ dst := some 96, op := Op.load 37 (Operand.tmp 95), type := 37, pos := "ref.go:78", after := #[{ on := 7, ground := Ground.data }], guard := none } : Oper)) (v := ?y1_9_v) rfl (by kernel_rfl) (by kernel_rfl) (by kernel_rfl) (fun _ _ _ h => h) (Or.inl ⟨by rfl, ?y1_9_h⟩) hHeld ?y1_9_r
        case y1_9_h => (intro w hSw; (try dsimp only at hSw); go_simp; all_goals with_reducible rfl)
        (try simp only [Act.put, List.setIfInBounds_toArray, List.set_cons_zero, List.set_cons_succ])
        refine wpAnyH_take (i := 9) (oi := ({ dst := some 97, op := Op.move (Operand.tmp 11), type := 3, pos := "ref.go:78", after := #[], guard := none } : Oper)) (v := ?y1_10_v) rfl (by kernel_rfl) (by kernel_rfl) (by kernel_rfl) (fun _ _ _ h => h) (Or.inl ⟨by rfl, ?y1_10_h⟩) hHeld ?y1_10_r
        case y1_10_h => (intro w hSw; (try dsimp only at hSw); go_simp; all_goals with_reducible rfl)
        (try simp only [Act.put, List.setIfInBounds_toArray, List.set_cons_zero, List.set_cons_succ])
        refine wpAnyH_take (i := 10) (oi := ({ dst := some 98, op := Op.indexAddr 37 (Operand.tmp 96) (Operand.tmp 97), type := 0, pos := "ref.go:78", after := #[{ on := 8, ground := Ground.data }, { on := 9, ground := Ground.data }], guard := none } : Oper)) (v := ?y1_11_v) rfl (by kernel_rfl) (by kernel_rfl) (by kernel_rfl) (fun _ _ _ h => h) (Or.inl ⟨by rfl, ?y1_11_h⟩) hHeld ?y1_11_r
        case y1_11_h => (intro w hSw; (try dsimp only at hSw); go_simp; all_goals with_reducible rfl)
        (try simp only [Act.put, List.setIfInBounds_toArray, List.set_cons_zero, List.set_cons_succ])
        refine wpAnyH_take (i := 12) (oi := ({ dst := some 100, op := Op.load 54 (Operand.tmp 10), type := 54, pos := "ref.go:78", after := #[], guard := none } : Oper)) (v := ?y1_12_v) rfl (by kernel_rfl) (by kernel_rfl) (by kernel_rfl) (fun _ _ _ h => h) (Or.inl ⟨by rfl, ?y1_12_h⟩) hHeld ?y1_12_r
        case y1_12_h => (intro w hSw; (try dsimp only at hSw); go_simp; all_goals with_reducible rfl)
        (try simp only [Act.put, List.setIfInBounds_toArray, List.set_cons_zero, List.set_cons_succ])
        refine wpAnyH_ready (rs := [11]) (by kernel_rfl) (by simp) ?_
        refine AllReadyH.cons (o := ({ dst := some 99, op := Op.load 54 (Operand.tmp 98), type := 54, pos := "ref.go:78", after := #[{ on := 10, ground := Ground.data }], guard := none } : Oper)) rfl (fun K hK => ?_) AllReadyH.nil
        go_simp
        first | refine hK.out _ _ ?_ (fun hHeld => ?_) | (go_wp2_with fail; refine hK.out _ _ ?_ (fun hHeld => ?_))
        · exact HL.out _ (Stay.drew HS0.out)
        clear hK K
        (try dsimp only at hHeld)
        (try simp only [Act.put, List.setIfInBounds_toArray, List.set_cons_zero, List.set_cons_succ])
        refine wpAnyH_ready (rs := [13]) (by kernel_rfl) (by simp) ?_
        refine AllReadyH.cons (o := ({ dst := some 101, op := Op.call { callee := Callee.value (Operand.func 55), args := #[Operand.tmp 99, Operand.tmp 100], argTypes := #[54, 54] }, type := 55, pos := "ref.go:78", after := #[{ on := 11, ground := Ground.data }, { on := 12, ground := Ground.data }], guard := none } : Oper)) rfl (fun K hK => ?_) AllReadyH.nil
        go_simp
        (go_at_call 55; (with_reducible refine ((rratdiv_any (HX.out.below (Below.drew (Below.refl _ _))) (HYr.out.below (Below.drew (Below.refl _ _))) rx ry (by decide) NZP.out).mono fun _ _ h => h.plain).mono ?_); rintro e w9 ⟨r1, r2, r3, r4, r5, r6, r7, r8, rfl, hu, hbb⟩; have HT := Lib.hid (Stay.next (Stay.drew HS0.out) hbb); have HQ := Lib.hid (show rRatN w9 ⟨r1, r2, r3, r4, r5, r6, r7, r8⟩ _ from hu); have HR9 := Lib.hid ((HR.out.below (Below.drew (Below.refl _ _))).below hbb); have u0 := keepc hbb (show wr.drew.cell? _ = _ from x0); have u1 := keepc hbb (show wr.drew.cell? _ = _ from x1); have u2 := keepc hbb (show wr.drew.cell? _ = _ from x2); have u3 := keepc hbb (show wr.drew.cell? _ = _ from x3); have z0 := (HR9.out.row s.rank hrm).unfrozen (k * 4); have z1 := (HR9.out.row s.rank hrm).unfrozen (k * 4 + 1); have z2 := (HR9.out.row s.rank hrm).unfrozen (k * 4 + 2); have z3 := (HR9.out.row s.rank hrm).unfrozen (k * 4 + 3); have HO9 := Lib.hid ((HO.out.next (Below.drew (Below.refl _ _))).next hbb); clear hu hbb)
        first | refine hK.out _ _ ?_ (fun hHeld => ?_) | (go_wp2_with fail; refine hK.out _ _ ?_ (fun hHeld => ?_))
        · exact HL.out _ HT.out
        clear hK K
        (try dsimp only at hHeld)
        (try simp only [Act.put, List.setIfInBounds_toArray, List.set_cons_zero, List.set_cons_succ])
        refine wpAnyH_take (i := 14) (oi := ({ dst := some 87, op := Op.move (Operand.tmp 101), type := 55, pos := "ref.go:78", after := #[{ on := 13, ground := Ground.data }], guard := none } : Oper)) (v := ?y1_13_v) rfl (by kernel_rfl) (by kernel_rfl) (by kernel_rfl) (fun _ _ _ h => h) (Or.inl ⟨by rfl, ?y1_13_h⟩) hHeld ?y1_13_r
        case y1_13_h => (intro w hSw; (try dsimp only at hSw); go_simp; all_goals with_reducible rfl)
        (try simp only [Act.put, List.setIfInBounds_toArray, List.set_cons_zero, List.set_cons_succ])
        refine wpAnyH_take (i := 15) (oi := ({ dst := some 102, op := Op.extract (Operand.tmp 87) 0, type := 54, pos := "ref.go:78", after := #[{ on := 14, ground := Ground.data }], guard := none } : Oper)) (v := ?y1_14_v) rfl (by kernel_rfl) (by kernel_rfl) (by kernel_rfl) (fun _ _ _ h => h) (Or.inl ⟨by rfl, ?y1_14_h⟩) hHeld ?y1_14_r
        case y1_14_h => (intro w hSw; (try dsimp only at hSw); go_simp; all_goals with_reducible rfl)
        (try simp only [Act.put, List.setIfInBounds_toArray, List.set_cons_zero, List.set_cons_succ])
        refine wpAnyH_take (i := 16) (oi := ({ dst := some 103, op := Op.extract (Operand.tmp 87) 1, type := 33, pos := "ref.go:78", after := #[{ on := 14, ground := Ground.data }, { on := 18, ground := Ground.gcOnly Departure.lateStores }], guard := none } : Oper)) (v := ?y1_15_v) rfl (by kernel_rfl) (by kernel_rfl) (by kernel_rfl) (fun _ _ _ h => h) (Or.inl ⟨by rfl, ?y1_15_h⟩) hHeld ?y1_15_r
        case y1_15_h => (intro w hSw; (try dsimp only at hSw); go_simp; all_goals with_reducible rfl)
        (try simp only [Act.put, List.setIfInBounds_toArray, List.set_cons_zero, List.set_cons_succ])
        refine wpAnyH_take (i := 17) (oi := ({ dst := some 104, op := Op.indexAddr 37 (Operand.tmp 91) (Operand.tmp 92), type := 0, pos := "ref.go:78", after := #[{ on := 3, ground := Ground.data }, { on := 4, ground := Ground.data }, { on := 0, ground := Ground.phase }, { on := 1, ground := Ground.phase }, { on := 2, ground := Ground.phase }, { on := 3, ground := Ground.phase }, { on := 4, ground := Ground.phase }, { on := 5, ground := Ground.phase }, { on := 6, ground := Ground.phase }, { on := 7, ground := Ground.phase }, { on := 8, ground := Ground.phase }, { on := 9, ground := Ground.phase }, { on := 10, ground := Ground.phase }, { on := 11, ground := Ground.phase }, { on := 12, ground := Ground.phase }, { on := 13, ground := Ground.phase }, { on := 14, ground := Ground.phase }, { on := 15, ground := Ground.phase }, { on := 16, ground := Ground.textOnly Departure.lateStores }], guard := none } : Oper)) (v := ?y1_16_v) rfl (by kernel_rfl) (by kernel_rfl) (by kernel_rfl) (fun _ _ _ h => h) (Or.inl ⟨by rfl, ?y1_16_h⟩) hHeld ?y1_16_r
        case y1_16_h => (intro w hSw; (try dsimp only at hSw); go_simp; all_goals with_reducible rfl)
        (try simp only [Act.put, List.setIfInBounds_toArray, List.set_cons_zero, List.set_cons_succ])
        refine wpAnyH_ready (rs := [18]) (by kernel_rfl) (by simp) ?_
        refine AllReadyH.cons (o := ({ dst := none, op := Op.store 54 (Operand.tmp 104) (Operand.tmp 102), type := 0, pos := "ref.go:78", after := #[{ on := 17, ground := Ground.data }, { on := 15, ground := Ground.data }, { on := 13, ground := Ground.chain }, { on := 0, ground := Ground.phase }, { on := 1, ground := Ground.phase }, { on := 2, ground := Ground.phase }, { on := 3, ground := Ground.phase }, { on := 4, ground := Ground.phase }, { on := 5, ground := Ground.phase }, { on := 6, ground := Ground.phase }, { on := 7, ground := Ground.phase }, { on := 8, ground := Ground.phase }, { on := 9, ground := Ground.phase }, { on := 10, ground := Ground.phase }, { on := 11, ground := Ground.phase }, { on := 12, ground := Ground.phase }, { on := 13, ground := Ground.phase }, { on := 14, ground := Ground.phase }, { on := 15, ground := Ground.phase }, { on := 16, ground := Ground.textOnly Departure.lateStores }], guard := none } : Oper)) rfl (fun K hK => ?_) AllReadyH.nil
        go_simp
        first | refine hK.out _ _ ?_ (fun hHeld => ?_) | (go_wp2_with fail; refine hK.out _ _ ?_ (fun hHeld => ?_))
        · exact HL.out _ (stay_four HT.out)
        clear hK K
        (try dsimp only at hHeld)
        (try simp only [Act.put, List.setIfInBounds_toArray, List.set_cons_zero, List.set_cons_succ])
        refine wpAnyH_done (by kernel_rfl) ?_ _
        have HM2 := Lib.hid (by have := HR9.out.put (x := ⟨r1, r2, r3, r4, r5, r6, r7, r8⟩) hrm hkl HQ.out; rw [divIn_put] at this; exact this : MatX (putN w9 (g2 s.rank) (k * 4) ⟨r1, r2, r3, r4, r5, r6, r7, r8⟩) G m n g2 cp2 (divIn A2 s.rank cc (k + 1)))
        have HO2 := Lib.hid (HO9.out.trans (OnlyP.of_stay (putN_stay (w := w9) (b := g2 s.rank) (o := k * 4) (x := ⟨r1, r2, r3, r4, r5, r6, r7, r8⟩)) ⟨s.rank, hrm, rfl⟩))
        clear HL q1 v0 v1 v2 v3 x0 x1 x2 x3 u0 u1 u2 u3 z0 z1 z2 z3
        go_wp2
        go_roundw
        case rel => (first | exact ⟨k + 1, by go_num, by omega, HM2.out, HO2.out⟩ | ((repeat apply Exists.intro); exact ⟨⟨k + 1, by go_num, by omega, HM2.out, HO2.out⟩, rfl⟩))
        case measure => (simp [intOf]; omega)
end Go.Proofs.YtjphfdlpcakpeaaGreatDoor
