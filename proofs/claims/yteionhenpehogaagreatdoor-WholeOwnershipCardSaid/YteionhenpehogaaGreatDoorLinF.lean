import Derived.Test.YteionhenpehogaaGreatDoorLinC
import Derived.WalkMore
namespace Go.Proofs.YteionhenpehogaaGreatDoor
open Go.RowKit Tally
theorem infoS : (Tryz.prog.info? 26).map (fun i => (i.zero, i.size, i.bytes)) = some (some (.slice none 0 0), 1, 24) := by kernel_rfl
theorem infoQ4 : (Tryz.prog.info? 37).map (fun i => (i.zero, i.size, i.bytes)) = some (some (.agg #[.bool false, .slice none 0 0, .bool false, .slice none 0 0]), 4, 64) := by kernel_rfl
theorem dgs_small {N c : Nat} (hN : N ≤ 100) (hc : c ≤ 27) : dgs N c + 1 ≤ 14000000000 := by
 rw [dgs_eq]
 have h1 : 2 ^ c ≤ 2 ^ 27 := Nat.pow_le_pow_right (by decide) hc
 have h2 : 2 ^ c * (N + 1) ≤ 2 ^ 27 * 101 := Nat.mul_le_mul h1 (by omega)
 have h3 : (2 : Nat) ^ 27 * 101 ≤ 14000000000 := by decide
 omega
theorem MatO.stay {w w' : World} {G m n D : Nat} {g : Nat → Nat} {A : Mx} (h : MatO w G m n g A) (hs : Stay D (D + 1) w w') (hG : G ≠ D) (hg : ∀ i, i < m → g i ≠ D) (hn : NoInt w D) : MatO w' G m n g A := by
 obtain ⟨T, h1⟩ := h.outer
 refine ⟨⟨T, ?_⟩, fun i hi => ?_, h.apart, h.inj⟩
 ·rw [hs.block G (Array.getElem?_eq_some_iff.1 h1).1 (by omega)]; exact h1
 ·obtain ⟨L, q1, q2, q3⟩ := h.row i hi
  have := hg i hi
  exact ⟨L, q1, by rw [hs.block (g i) (Array.getElem?_eq_some_iff.1 q2).1 (by omega)]; exact q2, q3.stay hs (noInt_one hn)⟩
theorem results_ttc {P : Program} {fn : Func} {p q r : Tmp} {ty : TypeId} (h : fn.results = #[.tmp p, .tmp q, .cell r ty]) (tmps : Array Value) (w : World) (g : Nat) (t : TypeId) (cs : Array Value) (fr : Nat × Nat) (d : TypeDesc) (vp vq : Value)
  (hr : tmps.getD r undef = .pointer (some ⟨g, 0, none⟩)) (hp : tmps.getD p undef = vp) (hq : tmps.getD q undef = vq) (hg : w.heap[g]? = some (.cells cs t fr))
  (hu : P.underlying ty = some d) (hd : (match d with | .struct _ | .array _ _ => true | _ => false) = true) (hi : (P.info? ty).map (·.size) = some cs.size) :
  (results fn tmps).run P w = .ok (.tuple #[vp, vq, .agg cs]) w := by
 have hp' : tmps[p]?.getD undef = vp := by simpa using hp
 have hq' : tmps[q]?.getD undef = vq := by simpa using hq
 have hr' : tmps[r]?.getD undef = .pointer (some ⟨g, 0, none⟩) := by simpa using hr
 simp [results, h, hp', hq', hr', asAddr, run_loadVar_row w g t ty cs fr d hg hu hd hi]
theorem swapR_pivot (A : Mx) (j r k : Nat) : swapR A j r r k = A j k := by
 simp only [swapR, swapI]
 split
 ·rename_i h; rw [h]
 ·simp
theorem Stay.fresh {lo hi b : Nat} {a w w' : World} (h : Stay lo hi a w) (k : Stay b (b + 1) w w') (hb : a.heap.size ≤ b) : Stay lo hi a w' :=
 ⟨k.os.trans h.os, k.tape.trans h.tape, k.output.trans h.output, Nat.le_trans h.size k.size, fun i hi hne => (k.block i (Nat.lt_of_lt_of_le hi h.size) (by omega)).trans (h.block i hi hne)⟩
theorem Four.below0 {B : Nat} {w w' : World} {b o : Nat} {x : Num} (h : Four w b o x) (hb : Below B w w') (hB : B = w.heap.size := by rfl) : Four w' b o x := by subst hB; exact h.below hb
theorem NumsR.below0 {B : Nat} {w w' : World} {L : List Num} {f : Nat → Rat} (h : NumsR w L f) (hb : Below B w w') (hB : B = w.heap.size := by rfl) : NumsR w' L f := by subst hB; exact h.below hb
theorem sizeQ : (Tryz.prog.info? 37).map (·.size) = some 4 := by kernel_rfl
set_option maxHeartbeats 8000000 in
set_option maxRecDepth 100000 in
theorem eliminated_any {w : World} {v : Value} {m n c N : Nat} {A : Mx} (h : MatsR w v m (fun _ => n) A) (hcn : c ≤ n) (hm : m ≤ 26) (hn : n ≤ 27) (hN : ∀ i, i < m → RowD N n (A i)) (hNN : N ≤ 100) :
  Calls Tryz.prog 85 #[v, .int .i64 (c : Nat)] w fun e w' => ∃ (s : St) (a : Option Addr) (cp : Nat) (n1 : Bool) (a1 : Option Addr) (k1 c1 : Nat) (n2 : Bool) (a2 : Option Addr) (k2 c2 : Nat), Run upR m A c s ∧ e = .returned (.tuple #[.slice a m cp, .int .i64 (s.rank : Nat), .agg #[.bool n1, .slice a1 k1 c1, .bool n2, .slice a2 k2 c2]]) ∧
   MatsR w' (.slice a m cp) m (fun _ => n) s.A ∧ RatR w' (.agg #[.bool n1, .slice a1 k1 c1, .bool n2, .slice a2 k2 c2]) s.det ∧ Below w.heap.size w w' := by
 obtain ⟨i1, hi1, hz10, hz11, hz12⟩ := info_parts infoS
 obtain ⟨i2, hi2, hz20, hz21, hz22⟩ := info_parts infoQ4
 obtain ⟨a, cp, rfl⟩ := h.shape
 have H := Lib.hid h
 have HN := Lib.hid hN
 clear h hN
 have hmk1 := fun W : World => run_make (P := Tryz.prog) (w := W) 70 26 i1 (.slice none 0 0) Tryz.underlying70 hi1 hz10 .i64 .i64 (m : Int) (m : Int) (by omega) (by omega) (by rw [hz12]; omega) (by omega)
 have hmk2 := fun W : World => run_make (P := Tryz.prog) (w := W) 26 37 i2 (.agg #[.bool false, .slice none 0 0, .bool false, .slice none 0 0]) Tryz.underlying26 hi2 hz20 .i64 .i64 (n : Int) (n : Int) (by omega) (by omega) (by rw [hz22]; omega) (by omega)
 have e1 : ((m : Int)).toNat = m := by omega
 have e2 : ((n : Int)).toNat = n := by omega
 simp only [hz11, e1, Nat.mul_one, show (Value.slice none 0 0).cells = #[Value.slice none 0 0] from rfl] at hmk1
 simp only [hz21, e2, show (Value.agg #[.bool false, .slice none 0 0, .bool false, .slice none 0 0]).cells = #[.bool false, .slice none 0 0, .bool false, .slice none 0 0] from rfl] at hmk2
 clear e1 e2
 go_enter Tryz.func85, Tryz.ntmps85
 go_wp2
 go_step3
 go_wp2
 obtain ⟨W1, hW, hs, hb, b0, b1, b2⟩ := alloc3 w (.cells #[.bool false, .slice none 0 0, .bool false, .slice none 0 0] 37) (.cells (madeCells #[.slice none 0 0] m) 26) (.cells #[.slice (some ⟨w.heap.size + 1, 0, none⟩) m m] 70)
 rw [← hW]
 have HB := Lib.hid hb
 have HZ := Lib.hid b0
 have HG := Lib.hid b1
 have HM := Lib.hid b2
 clear hW hs hb b0 b1 b2 hmk1
 obtain ⟨h1, h2, b, o, h3, h4⟩ := H.out.parts
 have H3 := Lib.hid h3
 have H4 := Lib.hid h4
 clear h3 h4
 go_loopw [20] (fun i wr => ∃ (k : Nat) (g : Nat → Nat), i = .int .i64 k ∧ k ≤ m ∧ MatB wr (w.heap.size + 1) m n k g A ∧ (∀ x, x < k → w.heap.size + 1 + 1 < g x) ∧ wr.heap[w.heap.size + 1 + 1]? = some (.cells #[.slice (some ⟨w.heap.size + 1, 0, none⟩) m m] 70 (0, 0)) ∧ wr.heap[w.heap.size]? = some (.cells #[.bool false, .slice none 0 0, .bool false, .slice none 0 0] 37 (0, 0)) ∧ Below w.heap.size w wr) (fun i _ => m - (intOf i).toNat)
 case atStart => exact ⟨0, fun _ => 0, rfl, by omega, MatB.start HG.out _ _ _, fun x hx => by omega, HM.out, HZ.out, HB.out⟩
 case round =>
  obtain ⟨k, g, rfl, hk, hmb, hgm, hmr, hzr, hbr⟩ := hrel
  have HR := Lib.hid hmb
  have HGM := Lib.hid hgm
  have HMr := Lib.hid hmr
  have HZr := Lib.hid hzr
  have HBr := Lib.hid hbr
  clear hmb hgm hmr hzr hbr HB HZ HG HM
  by_cases hkm : k = m
  ·obtain rfl : m = k := hkm.symm
   have HMO := Lib.hid HR.out.done
   have ONE := Lib.hid (show Rat.divInt 1 1 = 1 by decide +kernel)
   go_wp2_with fail
   (with_reducible refine ((ratof_any (n := 1) (d := 1) (by decide) (by decide) (by decide) (by decide) (by decide)).mono fun _ _ h => h.plain).mono ?_)
   rintro e w8 ⟨d1, d2, d3, d4, d5, d6, d7, d8, rfl, hu, hb8⟩
   have HD := Lib.hid (hu.as ONE.out)
   have HB8 := Lib.hid (bt HBr.out hb8)
   replace HMO := Lib.hid (HMO.out.below hb8)
   have HM8 := Lib.hid (blk_next HMr.out hb8)
   have HZ8 := Lib.hid (blk_next HZr.out hb8)
   clear hu hb8 hmk2 H3 H4 HBr HMr HZr HR
   have hmf : ∀ (fn : Fn) (first cap : Array Value) (w : World), (Instr.makeFunc fn first cap).run Tryz.prog w = .ok (.func fn first cap) w := fun _ _ _ _ => rfl
   go_wp2
   go_step3
   go_wp2
   obtain ⟨W9, hW, hs9, hb9, b9⟩ := alloc1 w8 (.cells #[.bool d1, .slice d2 d3 d4, .bool d5, .slice d6 d7 d8] 37)
   rw [← hW]
   replace HD := Lib.hid (HD.out.below hb9)
   replace HB8 := Lib.hid (bt HB8.out hb9)
   have HMOX := Lib.hid HMO.out
   have HM8X := Lib.hid HM8.out
   replace HMO := Lib.hid (HMO.out.below hb9)
   replace HM8 := Lib.hid (blk_next HM8.out hb9)
   replace HZ8 := Lib.hid (blk_next HZ8.out hb9)
   have HDB := Lib.hid b9
   clear hW hs9 hb9 b9 hmf
   have H8 := Lib.hid (show w.heap.size + 1 + 1 < w8.heap.size from (Array.getElem?_eq_some_iff.1 HM8X.out).1)
   have HG8 := Lib.hid (show ∀ x, x < m → w.heap.size + 1 + 1 < g x ∧ g x < w8.heap.size from fun x hx => ⟨HGM.out x hx, (HMOX.out.row x hx).lt⟩)
   clear HMOX HM8X HGM
   go_loopw [11, 48] (fun rk i wr => ∃ (cc : Nat) (s : St) (g : Nat → Nat) (n1 : Bool) (a1 : Option Addr) (k1 c1 : Nat) (n2 : Bool) (a2 : Option Addr) (k2 c2 : Nat), rk = .int .i64 (s.rank : Nat) ∧ i = .int .i64 cc ∧ cc ≤ c ∧ Run upR m A cc s ∧ MatO wr (w.heap.size + 1) m n g s.A ∧ (∀ x, x < m → w.heap.size + 1 + 1 < g x ∧ g x < w8.heap.size) ∧ wr.heap[w.heap.size + 1 + 1]? = some ((.cells #[.slice (some ⟨w.heap.size + 1, 0, none⟩) m m] 70 (0, 0))) ∧ wr.heap[w.heap.size]? = some (.cells #[.bool false, .slice none 0 0, .bool false, .slice none 0 0] 37 (0, 0)) ∧ wr.heap[w8.heap.size]? = some (.cells #[.bool n1, .slice a1 k1 c1, .bool n2, .slice a2 k2 c2] 37 (0, 0)) ∧ RatR wr (.agg #[.bool n1, .slice a1 k1 c1, .bool n2, .slice a2 k2 c2]) s.det ∧ Below w.heap.size w wr) (fun _ i _ => c - (intOf i).toNat)
   case atStart => exact ⟨0, ⟨A, 0, 1⟩, g, _, _, _, _, _, _, _, _, rfl, rfl, by omega, Run.zero, HMO.out, HG8.out, HM8.out, HZ8.out, HDB.out, HD.out, HB8.out⟩
   case round =>
    rename World => wo
    obtain ⟨cc, s, g, n1, a1, k1, c1, n2, a2, k2, c2, rfl, rfl, hcc, hrun, hma, hgs, hmr, hzr, hdr, hdd, hbr⟩ := hrel
    have HRun := Lib.hid hrun
    have HA := Lib.hid hma
    have HGS := Lib.hid hgs
    have HMr := Lib.hid hmr
    have HZr := Lib.hid hzr
    have HDr := Lib.hid hdr
    have HDD := Lib.hid hdd
    have HBr := Lib.hid hbr
    have hrk := hrun.rank_le
    clear hrun hma hgs hmr hzr hdr hdd hbr HMO HG8 HM8 HZ8 HDB HD HB8
    by_cases hcm : cc = c
    ·obtain rfl : c = cc := hcm.symm
     have c0 : wo.cell? ⟨w.heap.size + 1 + 1, 0, none⟩ = some (.slice (some ⟨w.heap.size + 1, 0, none⟩) m m) := by rw [Lib.cell_of_heap HMr.out]; rfl
     obtain ⟨⟨z0, z1, z2, z3⟩, z4, z5, z6, z7⟩ := res4_facts HDr.out
     obtain ⟨⟨x0, x1, x2, x3⟩, x4, x5, x6, x7⟩ := res4_facts HZr.out
     have h8 := H8.out
     go_wp2_with fail
     go_region
     go_wp2
     obtain ⟨WE, hWE⟩ : ∃ W', W' = (((((wo.setCell ⟨w.heap.size, 0, none⟩ (.bool n1)).setCell ⟨w.heap.size, 1, none⟩ (.slice a1 k1 c1)).setCell ⟨w.heap.size, 2, none⟩ (.bool n2)).setCell ⟨w.heap.size, 3, none⟩ (.slice a2 k2 c2)).drew) := ⟨_, rfl⟩
     rw [← hWE, Exit.noGoto_ret]
     have hst : Stay (w.heap.size) (w.heap.size + 1) wo WE := by rw [hWE]; exact Stay.drew set4_stay
     have hni := noInt4 HZr.out
     have HE := Lib.hid (show WE.heap[w.heap.size]? = some (.cells #[.bool n1, .slice a1 k1 c1, .bool n2, .slice a2 k2 c2] 37 (0, 0)) by rw [hWE]; exact res4_set HZr.out)
     have HAE := Lib.hid (HA.out.stay hst (by omega) (fun x hx => by have := (HGS.out x hx).1; omega) hni)
     have HDE := Lib.hid (HDD.out.stay hst (noInt_one hni))
     have HBE := Lib.hid (HBr.out.trans (hst.below (Nat.le_refl _) HBr.out.size))
     clear hst hni hWE
     refine bodyPost_ret (results_ttc rfl _ _ (w.heap.size) 37 _ (0, 0) _ (.slice (some ⟨w.heap.size + 1, 0, none⟩) m m) (.int .i64 (s.rank : Nat)) rfl rfl rfl HE.out Tryz.underlying37 rfl (by kernel_rfl)) rfl ?_
     exact ⟨s, _, _, n1, a1, k1, c1, n2, a2, k2, c2, HRun.out, rfl, HAE.out.mats (by omega) (by omega), HDE.out, HBE.out⟩
    ·have hcl : cc < c := by omega
     have hci : (cc : Int) < (c : Int) := by omega
     have hcn : (cc : Int) < (n : Int) := by omega
     have rows := run_rows_up HRun.out (by omega) HN.out
     go_wp2
     go_loopw [11, 14] (fun rk i wi => ∃ (j : Nat), rk = .int .i64 (s.rank : Nat) ∧ i = .int .i64 j ∧ s.rank ≤ j ∧ j ≤ m ∧ (∀ x, s.rank ≤ x → x < j → s.A x cc = 0) ∧ Below wo.heap.size wo wi) (fun _ i _ => m - (intOf i).toNat)
     case atStart => exact ⟨s.rank, rfl, rfl, Nat.le_refl _, hrk.2, fun x h1 h2 => by omega, Below.refl _ _⟩
     case round =>
      obtain ⟨j, rfl, rfl, hj1, hj2, hz, hbi⟩ := hrel
      have HAi := Lib.hid (HA.out.below hbi)
      have HMi := Lib.hid (blk_next HMr.out hbi)
      have HZi := Lib.hid (blk_next HZr.out hbi)
      have HDi := Lib.hid (blk_next HDr.out hbi)
      have HDDi := Lib.hid (HDD.out.below hbi)
      have HBi := Lib.hid (bt HBr.out hbi)
      have HZC := Lib.hid hz
      have HBI := Lib.hid hbi
      clear hz hbi
      have c0 : wr.cell? ⟨w.heap.size + 1 + 1, 0, none⟩ = some (.slice (some ⟨w.heap.size + 1, 0, none⟩) m m) := by rw [Lib.cell_of_heap HMi.out]; rfl
      by_cases hjm : j = m
      ·obtain rfl : m = j := hjm.symm
       have HS := Lib.hid (Run.succ HRun.out (IsStep.none (fun x h1 h2 => HZC.out x h1 h2)))
       go_wp2
       refine ⟨⟨cc + 1, s, g, n1, a1, k1, c1, n2, a2, k2, c2, rfl, by go_num, by omega, HS.out, HAi.out, HGS.out, HMi.out, HZi.out, HDi.out, HDDi.out, HBi.out⟩, ?_⟩
       simp [intOf]; omega
      ·have hjl : j < m := by omega
       have hji : (j : Int) < (m : Int) := by omega
       have q1 := HAi.out.head hjl
       obtain ⟨x, hx4, hxq⟩ := (HAi.out.row j hjl).elem (show cc < n by omega)
       obtain ⟨x0, x1, x2, x3⟩ := hx4
       have HX := Lib.hid (show RatR wr (.agg #[.bool x.n1, .slice x.a1 x.k1 x.c1, .bool x.n2, .slice x.a2 x.k2 x.c2]) (s.A j cc) from hxq)
       clear hxq
       go_wp2_with fail
       (with_reducible refine (ratsign_any HX.out).mono ?_)
       rintro e w1 ⟨rfl, hb1⟩
       by_cases hz : s.A j cc = 0
       ·have HZ2 := Lib.hid (show ∀ x, s.rank ≤ x → x < j + 1 → s.A x cc = 0 from fun x h1 h2 => by
         by_cases e : x = j
         ·rw [e]; exact hz
         ·exact HZC.out x h1 (by omega))
        have HB1 := Lib.hid (bt HBI.out hb1)
        rw [hz, show (0 : Rat).num.sign = 0 from rfl]
        clear c0 q1 x0 x1 x2 x3 hb1
        go_wp2
        refine ⟨⟨j + 1, rfl, by go_num, by omega, by omega, HZ2.out, HB1.out⟩, ?_⟩
        simp [intOf]; omega
       ·have hks : ((s.A j cc).num.sign == 0) = false := by
         rw [beq_eq_false_iff_ne]
         intro e
         exact hz (Rat.num_eq_zero.1 (Int.sign_eq_zero_iff_zero.1 e))
        replace HAi := Lib.hid (HAi.out.below hb1)
        replace HMi := Lib.hid (blk_next HMi.out hb1)
        replace HZi := Lib.hid (blk_next HZi.out hb1)
        replace HDi := Lib.hid (blk_next HDi.out hb1)
        replace HDDi := Lib.hid (HDDi.out.below hb1)
        replace HBi := Lib.hid (bt HBi.out hb1)
        replace c0 := keepc hb1 c0
        replace q1 := keepc hb1 q1
        have NZ := Lib.hid hz
        have hrm : s.rank < m := by omega
        have hrmi : (s.rank : Int) < (m : Int) := by omega
        clear x0 x1 x2 x3 hb1 hz
        by_cases hjr : j = s.rank
        ·subst hjr
         have hne : ((s.rank : Int) == (s.rank : Int)) = true := beq_self_eq_true _
         obtain ⟨⟨z0, z1, z2, z3⟩, z4, z5, z6, z7⟩ := res4_facts HDi.out
         go_wp2_with fail
         have rows2 := rows
         have hsm := dgs_small (N := N) (c := cc) hNN (by omega)
         have rdet : Rg 14000000000 s.det := (Rg.of (run_det (fun _ _ _ _ h1 h2 h3 h4 => rows_up h1 h2 h3 h4) HRun.out (by omega) HN.out)).mono hsm
         have rall := Lib.hid (show ∀ i, i < m → ∀ k, k < n → Rg 14000000000 (s.A i k) from fun i hi k hk => (Rg.of ((rows i hi).fw hk)).mono (by omega))
         have rpv := rall.out s.rank hrm cc (by omega)
         have NZP := NZ
         have HGx := Lib.hid (HGS.out)
         have y9 := HAi.out.head hrm
         obtain ⟨y, hy4, hyq⟩ := (HAi.out.row s.rank hrm).elem (show cc < n by omega)
         obtain ⟨y0, y1, y2, y3⟩ := hy4
         have HY := Lib.hid (show RatR w1 (.agg #[.bool y.n1, .slice y.a1 y.k1 y.c1, .bool y.n2, .slice y.a2 y.k2 y.c2]) (s.A s.rank cc) from hyq)
         clear hyq
         have h8 := H8.out
         have hgr := (HGx.out s.rank hrm).2
         have HL7 := Lib.hid (fun (w' : World) (hs : Stay (w8.heap.size) (w8.heap.size + 1) w1 w') => (⟨hs, hs.cell (.inl (by omega)) c0, hs.cell (.inl (by omega)) y9, hs.cell (.inl (by omega)) y0, hs.cell (.inl (by omega)) y1, hs.cell (.inl (by omega)) y2, hs.cell (.inl (by omega)) y3⟩ : Stay (w8.heap.size) (w8.heap.size + 1) w1 w' ∧ w'.cell? ⟨w.heap.size + 1 + 1, 0, none⟩ = some (.slice (some ⟨w.heap.size + 1, 0, none⟩) m m) ∧ w'.cell? ⟨w.heap.size + 1, s.rank, none⟩ = some (.slice (some ⟨g s.rank, 0, none⟩) n n) ∧ w'.cell? ⟨g s.rank, cc * 4, none⟩ = some (.bool y.n1) ∧ w'.cell? ⟨g s.rank, cc * 4 + 1, none⟩ = some (.slice y.a1 y.k1 y.c1) ∧ w'.cell? ⟨g s.rank, cc * 4 + 2, none⟩ = some (.bool y.n2) ∧ w'.cell? ⟨g s.rank, cc * 4 + 3, none⟩ = some (.slice y.a2 y.k2 y.c2)))
         have HI7 := Lib.hid (fun (w' : World) (hs : Stay (w8.heap.size) (w8.heap.size + 1) w1 w' ∧ w'.cell? ⟨w.heap.size + 1 + 1, 0, none⟩ = some (.slice (some ⟨w.heap.size + 1, 0, none⟩) m m) ∧ w'.cell? ⟨w.heap.size + 1, s.rank, none⟩ = some (.slice (some ⟨g s.rank, 0, none⟩) n n) ∧ w'.cell? ⟨g s.rank, cc * 4, none⟩ = some (.bool y.n1) ∧ w'.cell? ⟨g s.rank, cc * 4 + 1, none⟩ = some (.slice y.a1 y.k1 y.c1) ∧ w'.cell? ⟨g s.rank, cc * 4 + 2, none⟩ = some (.bool y.n2) ∧ w'.cell? ⟨g s.rank, cc * 4 + 3, none⟩ = some (.slice y.a2 y.k2 y.c2)) => hs.1)
         have HS7 := Lib.hid (Stay.refl (w8.heap.size) (w8.heap.size + 1) w1)
         have HN7 := Lib.hid (noInt_one (noInt4 HDi.out))
         refine wp_region_held_drew (S := fun w' => Stay (w8.heap.size) (w8.heap.size + 1) w1 w' ∧ w'.cell? ⟨w.heap.size + 1 + 1, 0, none⟩ = some (.slice (some ⟨w.heap.size + 1, 0, none⟩) m m) ∧ w'.cell? ⟨w.heap.size + 1, s.rank, none⟩ = some (.slice (some ⟨g s.rank, 0, none⟩) n n) ∧ w'.cell? ⟨g s.rank, cc * 4, none⟩ = some (.bool y.n1) ∧ w'.cell? ⟨g s.rank, cc * 4 + 1, none⟩ = some (.slice y.a1 y.k1 y.c1) ∧ w'.cell? ⟨g s.rank, cc * 4 + 2, none⟩ = some (.bool y.n2) ∧ w'.cell? ⟨g s.rank, cc * 4 + 3, none⟩ = some (.slice y.a2 y.k2 y.c2)) (by kernel_rfl) ?_ (fun hHeld => ?_)
         ·(first | assumption | with_reducible exact HL7.out _ (Stay.drew HS7.out) | with_reducible exact HL7.out _ HT7.out | with_reducible exact HL7.out _ (stay_four HT7.out))
         (try dsimp only at hHeld)
         refine wpAnyH_take (i := 1) (oi := (⟨some 87, .load 70 (.tmp 7), 70, "linear.go:80", #[], none⟩ : Oper)) (v := ?y2_1_v) rfl (by kernel_rfl) (by kernel_rfl) (by kernel_rfl) (fun _ _ _ h => h) (Or.inl ⟨by rfl, ?y2_1_h⟩) hHeld ?y2_1_r
         case y2_1_h => (intro w hSw; (try dsimp only at hSw); go_simp; all_goals with_reducible rfl)
         (try simp only [Act.put, List.setIfInBounds_toArray, List.set_cons_zero, List.set_cons_succ])
         refine wpAnyH_take (i := 2) (oi := (⟨some 88, .move (.tmp 11), 3, "linear.go:80", #[], none⟩ : Oper)) (v := ?y2_2_v) rfl (by kernel_rfl) (by kernel_rfl) (by kernel_rfl) (fun _ _ _ h => h) (Or.inl ⟨by rfl, ?y2_2_h⟩) hHeld ?y2_2_r
         case y2_2_h => (intro w hSw; (try dsimp only at hSw); go_simp; all_goals with_reducible rfl)
         (try simp only [Act.put, List.setIfInBounds_toArray, List.set_cons_zero, List.set_cons_succ])
         refine wpAnyH_take (i := 3) (oi := (⟨some 89, .indexAddr 70 (.tmp 87) (.tmp 88), 0, "linear.go:80", #[⟨1, .data⟩, ⟨2, .data⟩], none⟩ : Oper)) (v := ?y2_3_v) rfl (by kernel_rfl) (by kernel_rfl) (by kernel_rfl) (fun _ _ _ h => h) (Or.inl ⟨by rfl, ?y2_3_h⟩) hHeld ?y2_3_r
         case y2_3_h => (intro w hSw; (try dsimp only at hSw); go_simp; all_goals with_reducible rfl)
         (try simp only [Act.put, List.setIfInBounds_toArray, List.set_cons_zero, List.set_cons_succ])
         refine wpAnyH_take (i := 4) (oi := (⟨some 90, .load 26 (.tmp 89), 26, "linear.go:80", #[⟨3, .data⟩], none⟩ : Oper)) (v := ?y2_4_v) rfl (by kernel_rfl) (by kernel_rfl) (by kernel_rfl) (fun _ _ _ h => h) (Or.inl ⟨by rfl, ?y2_4_h⟩) hHeld ?y2_4_r
         case y2_4_h => (intro w hSw; (try dsimp only at hSw); go_simp; all_goals with_reducible rfl)
         (try simp only [Act.put, List.setIfInBounds_toArray, List.set_cons_zero, List.set_cons_succ])
         refine wpAnyH_take (i := 5) (oi := (⟨some 91, .move (.tmp 13), 3, "linear.go:80", #[], none⟩ : Oper)) (v := ?y2_5_v) rfl (by kernel_rfl) (by kernel_rfl) (by kernel_rfl) (fun _ _ _ h => h) (Or.inl ⟨by rfl, ?y2_5_h⟩) hHeld ?y2_5_r
         case y2_5_h => (intro w hSw; (try dsimp only at hSw); go_simp; all_goals with_reducible rfl)
         (try simp only [Act.put, List.setIfInBounds_toArray, List.set_cons_zero, List.set_cons_succ])
         refine wpAnyH_take (i := 6) (oi := (⟨some 92, .indexAddr 26 (.tmp 90) (.tmp 91), 0, "linear.go:80", #[⟨4, .data⟩, ⟨5, .data⟩], none⟩ : Oper)) (v := ?y2_6_v) rfl (by kernel_rfl) (by kernel_rfl) (by kernel_rfl) (fun _ _ _ h => h) (Or.inl ⟨by rfl, ?y2_6_h⟩) hHeld ?y2_6_r
         case y2_6_h => (intro w hSw; (try dsimp only at hSw); go_simp; all_goals with_reducible rfl)
         (try simp only [Act.put, List.setIfInBounds_toArray, List.set_cons_zero, List.set_cons_succ])
         refine wpAnyH_take (i := 7) (oi := (⟨some 93, .load 37 (.tmp 92), 37, "linear.go:80", #[⟨6, .data⟩], none⟩ : Oper)) (v := ?y2_7_v) rfl (by kernel_rfl) (by kernel_rfl) (by kernel_rfl) (fun _ _ _ h => h) (Or.inl ⟨by rfl, ?y2_7_h⟩) hHeld ?y2_7_r
         case y2_7_h => (intro w hSw; (try dsimp only at hSw); go_simp; all_goals with_reducible rfl)
         (try simp only [Act.put, List.setIfInBounds_toArray, List.set_cons_zero, List.set_cons_succ])
         refine wpAnyH_ready (rs := [0]) (by kernel_rfl) (by simp) ?_
         refine AllReadyH.cons (o := (⟨some 86, .load 37 (.tmp 9), 37, "linear.go:80", #[], none⟩ : Oper)) rfl (fun K hK => ?_) AllReadyH.nil
         go_simp
         first | refine hK.out _ _ ?_ (fun hHeld => ?_) | (go_wp2_with fail; refine hK.out _ _ ?_ (fun hHeld => ?_))
         ·(first | assumption | with_reducible exact HL7.out _ (Stay.drew HS7.out) | with_reducible exact HL7.out _ HT7.out | with_reducible exact HL7.out _ (stay_four HT7.out))
         clear hK K
         (try dsimp only at hHeld)
         (try simp only [Act.put, List.setIfInBounds_toArray, List.set_cons_zero, List.set_cons_succ])
         refine wpAnyH_ready (rs := [8]) (by kernel_rfl) (by simp) ?_
         refine AllReadyH.cons (o := (⟨some 94, .call { callee := .value (.func 52), args := #[.tmp 86, .tmp 93], argTypes := #[37, 37] }, 37, "linear.go:80", #[⟨0, .data⟩, ⟨7, .data⟩], none⟩ : Oper)) rfl (fun K hK => ?_) AllReadyH.nil
         go_simp
         (go_at_call 52; (with_reducible refine (ratmul_any (HDDi.out.below (Below.drew (Below.refl _ _))) (HY.out.below (Below.drew (Below.refl _ _))) rdet rpv (by decide)).mono ?_); rintro e w2 ⟨m1, b1, i3, j1, m2, b2, i4, j2, rfl, hu1, hu2, hbm⟩; have HP := Lib.hid (RatR.mk hu1 hu2 (.inl rfl)); clear hu1 hu2; have HDm := Lib.hid (blk_next (w := w1.drew) HDi.out hbm); have HT7 := Lib.hid (Stay.next (HI7.out _ (by assumption)) hbm); obtain ⟨⟨t0, t1, t2, t3⟩, t4, t5, t6, t7⟩ := res4_facts HDm.out)
         first | refine hK.out _ _ ?_ (fun hHeld => ?_) | (go_wp2_with fail; refine hK.out _ _ ?_ (fun hHeld => ?_))
         ·(first | assumption | with_reducible exact HL7.out _ (Stay.drew HS7.out) | with_reducible exact HL7.out _ HT7.out | with_reducible exact HL7.out _ (stay_four HT7.out))
         clear hK K
         (try dsimp only at hHeld)
         (try simp only [Act.put, List.setIfInBounds_toArray, List.set_cons_zero, List.set_cons_succ])
         refine wpAnyH_ready (rs := [9]) (by kernel_rfl) (by simp) ?_
         refine AllReadyH.cons (o := (⟨none, .store 37 (.tmp 9) (.tmp 94), 0, "linear.go:80", #[⟨8, .data⟩, ⟨8, .chain⟩, ⟨0, .phase⟩, ⟨1, .phase⟩, ⟨2, .phase⟩, ⟨3, .phase⟩, ⟨4, .phase⟩, ⟨5, .phase⟩, ⟨6, .phase⟩, ⟨7, .phase⟩, ⟨8, .phase⟩], none⟩ : Oper)) rfl (fun K hK => ?_) AllReadyH.nil
         go_simp
         first | refine hK.out _ _ ?_ (fun hHeld => ?_) | (go_wp2_with fail; refine hK.out _ _ ?_ (fun hHeld => ?_))
         ·(first | assumption | with_reducible exact HL7.out _ (Stay.drew HS7.out) | with_reducible exact HL7.out _ HT7.out | with_reducible exact HL7.out _ (stay_four HT7.out))
         clear hK K
         (try dsimp only at hHeld)
         (try simp only [Act.put, List.setIfInBounds_toArray, List.set_cons_zero, List.set_cons_succ])
         refine wpAnyH_done (by kernel_rfl) ?_ _
         clear t0 t1 t2 t3 t4 t5 t6 t7 z0 z1 z2 z3 z4 z5 z6 z7 y0 y1 y2 y3 y9 c0
         have hst := set4_stay (r := w8.heap.size) (w := w2) (x := .bool m1) (y := .slice b1 i3 j1) (z := .bool m2) (u := .slice b2 i4 j2)
         have hni := noInt4 HDm.out
         have bd := Below.drew (Below.refl w1.heap.size w1)
         obtain ⟨W3, hW3⟩ : ∃ W', W' = ((((w2.setCell ⟨w8.heap.size, 0, none⟩ (.bool m1)).setCell ⟨w8.heap.size, 1, none⟩ (.slice b1 i3 j1)).setCell ⟨w8.heap.size, 2, none⟩ (.bool m2)).setCell ⟨w8.heap.size, 3, none⟩ (.slice b2 i4 j2)) := ⟨_, rfl⟩
         go_wp2_with fail
         rw [← hW3]
         rw [← hW3] at hst
         have HA3 := Lib.hid (((HAi.out.below bd).below hbm).stay hst (by omega) (fun x hx => by have := (HGx.out x hx).2; omega) hni)
         have HM3 := Lib.hid ((hst.block (w.heap.size + 1 + 1) (by have := (Array.getElem?_eq_some_iff.1 (blk_next (w := w1.drew) HMi.out hbm)).1; omega) (.inl (by omega))).trans (blk_next (w := w1.drew) HMi.out hbm))
         have HZ3 := Lib.hid ((hst.block (w.heap.size) (by have := (Array.getElem?_eq_some_iff.1 (blk_next (w := w1.drew) HZi.out hbm)).1; omega) (.inl (by omega))).trans (blk_next (w := w1.drew) HZi.out hbm))
         have HD3 := Lib.hid (show W3.heap[w8.heap.size]? = some (.cells #[.bool m1, .slice b1 i3 j1, .bool m2, .slice b2 i4 j2] 37 (0, 0)) by rw [hW3]; exact res4_set HDm.out)
         have HDD3 := Lib.hid (HP.out.stay hst (noInt_one hni))
         have HBm := Lib.hid (bt (bt HBi.out bd) hbm)
         have HB3 := Lib.hid (HBm.out.trans (hst.below (show w.heap.size ≤ w8.heap.size by omega) HBm.out.size))
         clear hst hni bd hW3 hbm HDm HT7 HBm HP HAi HMi HZi HDi HDDi HBi HL7 HI7 HS7 HN7
         (with_reducible refine (clear_any (N := 14000000000) HM3.out HA3.out (fun x hx => by have := (HGx.out x hx).1; omega) hrm (show cc < n by omega) NZP.out rall.out (by decide) (by omega) (by omega)).mono ?_)
         rintro e w4 ⟨rfl, hma4, hon4⟩
         have HA4 := Lib.hid hma4
         have HM4 := Lib.hid (hon4.heap (fun ⟨x, hx, e⟩ => by have := (HGx.out x hx).1; (try dsimp only at e); omega) HM3.out)
         have HZ4 := Lib.hid (hon4.heap (fun ⟨x, hx, e⟩ => by have := (HGx.out x hx).1; (try dsimp only at e); omega) HZ3.out)
         have HD4 := Lib.hid (hon4.heap (fun ⟨x, hx, e⟩ => by have := (HGx.out x hx).2; (try dsimp only at e); omega) HD3.out)
         have HDD4 := Lib.hid (HDD3.out.onlyP hon4 HA3.out.noInt)
         have HB4 := Lib.hid (HB3.out.trans (hon4.below (B := w.heap.size) (fun x ⟨i, hi, e⟩ => by have := (HGx.out i hi).1; (try dsimp only at e); omega) HB3.out.size))
         have HS4 := Lib.hid (Run.succ HRun.out (IsStep.piv s.rank (Nat.le_refl _) hrm (fun x h1 h2 => HZC.out x h1 h2) NZ.out))
         rw [swapR_self, if_pos rfl] at HS4
         clear hma4 hon4 HA3 HM3 HZ3 HD3 HDD3 HB3
         go_wp2
         refine ⟨⟨cc + 1, _, _, m1, b1, i3, j1, m2, b2, i4, j2, ?_, by go_num, by omega, HS4.out, HA4.out, HGx.out, HM4.out, HZ4.out, HD4.out, HDD4.out, HB4.out⟩, ?_⟩
         ·go_num
         ·simp [intOf]; omega
        ·have hne : ((j : Int) == (s.rank : Int)) = false := by rw [beq_eq_false_iff_ne]; omega
         have hne2 : ((j : Int) != (s.rank : Int)) = true := by rw [bne_iff_ne]; omega
         have q2 := HAi.out.head hrm
         have q3 := HAi.out.headFree j
         have q4 := HAi.out.headFree s.rank
         go_wp2_with fail
         have h8 := H8.out
         have HL9 := Lib.hid (fun (w' : World) (hs : Stay (w.heap.size + 1) (w.heap.size + 1 + 1) w1 w') => (⟨hs, hs.cell (.inr (by omega)) c0⟩ : Stay (w.heap.size + 1) (w.heap.size + 1 + 1) w1 w' ∧ w'.cell? ⟨w.heap.size + 1 + 1, 0, none⟩ = some (.slice (some ⟨w.heap.size + 1, 0, none⟩) m m)))
         have HI9 := Lib.hid (fun (w' : World) (hs : Stay (w.heap.size + 1) (w.heap.size + 1 + 1) w1 w' ∧ w'.cell? ⟨w.heap.size + 1 + 1, 0, none⟩ = some (.slice (some ⟨w.heap.size + 1, 0, none⟩) m m)) => hs.1)
         have HS9 := Lib.hid (Stay.refl (w.heap.size + 1) (w.heap.size + 1 + 1) w1)
         refine wp_region_held_drew (S := fun w' => Stay (w.heap.size + 1) (w.heap.size + 1 + 1) w1 w' ∧ w'.cell? ⟨w.heap.size + 1 + 1, 0, none⟩ = some (.slice (some ⟨w.heap.size + 1, 0, none⟩) m m)) (by kernel_rfl) ?_ (fun hHeld => ?_)
         ·(first | assumption | exact HL9.out _ (Stay.drew HS9.out) | exact HL9.out _ (Stay.setCell (HI9.out _ (by assumption)) (Nat.le_refl _) (Nat.lt_succ_self _) _ _) | exact HL9.out _ (Stay.drew (Stay.setCell HS9.out (Nat.le_refl _) (Nat.lt_succ_self _) _ _)) | exact HL9.out _ (Stay.drew (Stay.setCell (Stay.setCell HS9.out (Nat.le_refl _) (Nat.lt_succ_self _) _ _) (Nat.le_refl _) (Nat.lt_succ_self _) _ _)))
         (try dsimp only at hHeld)
         refine wpAnyH_take (i := 0) (oi := (⟨some 70, .load 70 (.tmp 7), 70, "linear.go:77", #[], none⟩ : Oper)) (v := ?y4_1_v) rfl (by kernel_rfl) (by kernel_rfl) (by kernel_rfl) (fun _ _ _ h => h) (Or.inl ⟨by rfl, ?y4_1_h⟩) hHeld ?y4_1_r
         case y4_1_h => (intro w hSw; (try dsimp only at hSw); go_simp; all_goals with_reducible rfl)
         (try simp only [Act.put, List.setIfInBounds_toArray, List.set_cons_zero, List.set_cons_succ])
         refine wpAnyH_take (i := 1) (oi := (⟨some 71, .move (.tmp 14), 3, "linear.go:77", #[], none⟩ : Oper)) (v := ?y4_2_v) rfl (by kernel_rfl) (by kernel_rfl) (by kernel_rfl) (fun _ _ _ h => h) (Or.inl ⟨by rfl, ?y4_2_h⟩) hHeld ?y4_2_r
         case y4_2_h => (intro w hSw; (try dsimp only at hSw); go_simp; all_goals with_reducible rfl)
         (try simp only [Act.put, List.setIfInBounds_toArray, List.set_cons_zero, List.set_cons_succ])
         refine wpAnyH_take (i := 2) (oi := (⟨some 72, .load 70 (.tmp 7), 70, "linear.go:77", #[⟨13, .gcOnly .lateStores⟩], none⟩ : Oper)) (v := ?y4_3_v) rfl (by kernel_rfl) (by kernel_rfl) (by kernel_rfl) (fun _ _ _ h => h) (Or.inl ⟨by rfl, ?y4_3_h⟩) hHeld ?y4_3_r
         case y4_3_h => (intro w hSw; (try dsimp only at hSw); go_simp; all_goals with_reducible rfl)
         (try simp only [Act.put, List.setIfInBounds_toArray, List.set_cons_zero, List.set_cons_succ])
         refine wpAnyH_take (i := 3) (oi := (⟨some 73, .move (.tmp 11), 3, "linear.go:77", #[⟨13, .gcOnly .lateStores⟩], none⟩ : Oper)) (v := ?y4_4_v) rfl (by kernel_rfl) (by kernel_rfl) (by kernel_rfl) (fun _ _ _ h => h) (Or.inl ⟨by rfl, ?y4_4_h⟩) hHeld ?y4_4_r
         case y4_4_h => (intro w hSw; (try dsimp only at hSw); go_simp; all_goals with_reducible rfl)
         (try simp only [Act.put, List.setIfInBounds_toArray, List.set_cons_zero, List.set_cons_succ])
         refine wpAnyH_take (i := 4) (oi := (⟨some 74, .load 70 (.tmp 7), 70, "linear.go:77", #[], none⟩ : Oper)) (v := ?y4_5_v) rfl (by kernel_rfl) (by kernel_rfl) (by kernel_rfl) (fun _ _ _ h => h) (Or.inl ⟨by rfl, ?y4_5_h⟩) hHeld ?y4_5_r
         case y4_5_h => (intro w hSw; (try dsimp only at hSw); go_simp; all_goals with_reducible rfl)
         (try simp only [Act.put, List.setIfInBounds_toArray, List.set_cons_zero, List.set_cons_succ])
         refine wpAnyH_take (i := 5) (oi := (⟨some 75, .move (.tmp 11), 3, "linear.go:77", #[], none⟩ : Oper)) (v := ?y4_6_v) rfl (by kernel_rfl) (by kernel_rfl) (by kernel_rfl) (fun _ _ _ h => h) (Or.inl ⟨by rfl, ?y4_6_h⟩) hHeld ?y4_6_r
         case y4_6_h => (intro w hSw; (try dsimp only at hSw); go_simp; all_goals with_reducible rfl)
         (try simp only [Act.put, List.setIfInBounds_toArray, List.set_cons_zero, List.set_cons_succ])
         refine wpAnyH_take (i := 6) (oi := (⟨some 76, .indexAddr 70 (.tmp 74) (.tmp 75), 0, "linear.go:77", #[⟨4, .data⟩, ⟨5, .data⟩], none⟩ : Oper)) (v := ?y4_7_v) rfl (by kernel_rfl) (by kernel_rfl) (by kernel_rfl) (fun _ _ _ h => h) (Or.inl ⟨by rfl, ?y4_7_h⟩) hHeld ?y4_7_r
         case y4_7_h => (intro w hSw; (try dsimp only at hSw); go_simp; all_goals with_reducible rfl)
         (try simp only [Act.put, List.setIfInBounds_toArray, List.set_cons_zero, List.set_cons_succ])
         refine wpAnyH_take (i := 8) (oi := (⟨some 78, .load 70 (.tmp 7), 70, "linear.go:77", #[], none⟩ : Oper)) (v := ?y4_8_v) rfl (by kernel_rfl) (by kernel_rfl) (by kernel_rfl) (fun _ _ _ h => h) (Or.inl ⟨by rfl, ?y4_8_h⟩) hHeld ?y4_8_r
         case y4_8_h => (intro w hSw; (try dsimp only at hSw); go_simp; all_goals with_reducible rfl)
         (try simp only [Act.put, List.setIfInBounds_toArray, List.set_cons_zero, List.set_cons_succ])
         refine wpAnyH_take (i := 9) (oi := (⟨some 79, .move (.tmp 14), 3, "linear.go:77", #[], none⟩ : Oper)) (v := ?y4_9_v) rfl (by kernel_rfl) (by kernel_rfl) (by kernel_rfl) (fun _ _ _ h => h) (Or.inl ⟨by rfl, ?y4_9_h⟩) hHeld ?y4_9_r
         case y4_9_h => (intro w hSw; (try dsimp only at hSw); go_simp; all_goals with_reducible rfl)
         (try simp only [Act.put, List.setIfInBounds_toArray, List.set_cons_zero, List.set_cons_succ])
         refine wpAnyH_take (i := 10) (oi := (⟨some 80, .indexAddr 70 (.tmp 78) (.tmp 79), 0, "linear.go:77", #[⟨8, .data⟩, ⟨9, .data⟩], none⟩ : Oper)) (v := ?y4_10_v) rfl (by kernel_rfl) (by kernel_rfl) (by kernel_rfl) (fun _ _ _ h => h) (Or.inl ⟨by rfl, ?y4_10_h⟩) hHeld ?y4_10_r
         case y4_10_h => (intro w hSw; (try dsimp only at hSw); go_simp; all_goals with_reducible rfl)
         (try simp only [Act.put, List.setIfInBounds_toArray, List.set_cons_zero, List.set_cons_succ])
         refine wpAnyH_ready (rs := [7, 11]) (by kernel_rfl) (by simp) ?_
         refine AllReadyH.cons (o := (⟨some 77, .load 26 (.tmp 76), 26, "linear.go:77", #[⟨6, .data⟩], none⟩ : Oper)) rfl (fun K hK => ?_) (AllReadyH.cons (o := (⟨some 81, .load 26 (.tmp 80), 26, "linear.go:77", #[⟨10, .data⟩], none⟩ : Oper)) rfl (fun K hK => ?_) AllReadyH.nil)
         ·go_simp
          first | refine hK.out _ _ ?_ (fun hHeld => ?_) | (go_wp2_with fail; refine hK.out _ _ ?_ (fun hHeld => ?_))
          ·(first | assumption | exact HL9.out _ (Stay.drew HS9.out) | exact HL9.out _ (Stay.setCell (HI9.out _ (by assumption)) (Nat.le_refl _) (Nat.lt_succ_self _) _ _) | exact HL9.out _ (Stay.drew (Stay.setCell HS9.out (Nat.le_refl _) (Nat.lt_succ_self _) _ _)) | exact HL9.out _ (Stay.drew (Stay.setCell (Stay.setCell HS9.out (Nat.le_refl _) (Nat.lt_succ_self _) _ _) (Nat.le_refl _) (Nat.lt_succ_self _) _ _)))
          clear hK K
          (try dsimp only at hHeld)
          (try simp only [Act.put, List.setIfInBounds_toArray, List.set_cons_zero, List.set_cons_succ])
          refine wpAnyH_ready (rs := [11]) (by kernel_rfl) (by simp) ?_
          refine AllReadyH.cons (o := (⟨some 81, .load 26 (.tmp 80), 26, "linear.go:77", #[⟨10, .data⟩], none⟩ : Oper)) rfl (fun K hK => ?_) AllReadyH.nil
          go_simp
          first | refine hK.out _ _ ?_ (fun hHeld => ?_) | (go_wp2_with fail; refine hK.out _ _ ?_ (fun hHeld => ?_))
          ·(first | assumption | exact HL9.out _ (Stay.drew HS9.out) | exact HL9.out _ (Stay.setCell (HI9.out _ (by assumption)) (Nat.le_refl _) (Nat.lt_succ_self _) _ _) | exact HL9.out _ (Stay.drew (Stay.setCell HS9.out (Nat.le_refl _) (Nat.lt_succ_self _) _ _)) | exact HL9.out _ (Stay.drew (Stay.setCell (Stay.setCell HS9.out (Nat.le_refl _) (Nat.lt_succ_self _) _ _) (Nat.le_refl _) (Nat.lt_succ_self _) _ _)))
          clear hK K
          (try dsimp only at hHeld)
          (try simp only [Act.put, List.setIfInBounds_toArray, List.set_cons_zero, List.set_cons_succ])
          refine wpAnyH_take (i := 12) (oi := (⟨some 82, .indexAddr 70 (.tmp 70) (.tmp 71), 0, "linear.go:77", #[⟨0, .data⟩, ⟨1, .data⟩, ⟨0, .phase⟩, ⟨1, .phase⟩, ⟨2, .textOnly .lateStores⟩, ⟨3, .textOnly .lateStores⟩, ⟨4, .phase⟩, ⟨5, .phase⟩, ⟨6, .phase⟩, ⟨7, .phase⟩, ⟨8, .textOnly .lateStores⟩, ⟨9, .textOnly .lateStores⟩, ⟨10, .textOnly .lateStoresUnsure⟩, ⟨11, .phase⟩], none⟩ : Oper)) (v := ?y4_11_v) rfl (by kernel_rfl) (by kernel_rfl) (by kernel_rfl) (fun _ _ _ h => h) (Or.inl ⟨by rfl, ?y4_11_h⟩) hHeld ?y4_11_r
          case y4_11_h => (intro w hSw; (try dsimp only at hSw); go_simp; all_goals with_reducible rfl)
          (try simp only [Act.put, List.setIfInBounds_toArray, List.set_cons_zero, List.set_cons_succ])
          refine wpAnyH_ready (rs := [13]) (by kernel_rfl) (by simp) ?_
          refine AllReadyH.cons (o := (⟨none, .store 26 (.tmp 82) (.tmp 77), 0, "linear.go:77", #[⟨12, .data⟩, ⟨7, .data⟩, ⟨0, .phase⟩, ⟨1, .phase⟩, ⟨2, .textOnly .lateStores⟩, ⟨3, .textOnly .lateStores⟩, ⟨4, .phase⟩, ⟨5, .phase⟩, ⟨6, .phase⟩, ⟨7, .phase⟩, ⟨8, .textOnly .lateStores⟩, ⟨9, .textOnly .lateStores⟩, ⟨10, .textOnly .lateStoresUnsure⟩, ⟨11, .phase⟩], none⟩ : Oper)) rfl (fun K hK => ?_) AllReadyH.nil
          go_simp
          first | refine hK.out _ _ ?_ (fun hHeld => ?_) | (go_wp2_with fail; refine hK.out _ _ ?_ (fun hHeld => ?_))
          ·(first | assumption | exact HL9.out _ (Stay.drew HS9.out) | exact HL9.out _ (Stay.setCell (HI9.out _ (by assumption)) (Nat.le_refl _) (Nat.lt_succ_self _) _ _) | exact HL9.out _ (Stay.drew (Stay.setCell HS9.out (Nat.le_refl _) (Nat.lt_succ_self _) _ _)) | exact HL9.out _ (Stay.drew (Stay.setCell (Stay.setCell HS9.out (Nat.le_refl _) (Nat.lt_succ_self _) _ _) (Nat.le_refl _) (Nat.lt_succ_self _) _ _)))
          clear hK K
          (try dsimp only at hHeld)
          (try simp only [Act.put, List.setIfInBounds_toArray, List.set_cons_zero, List.set_cons_succ])
          refine wpAnyH_take (i := 14) (oi := (⟨some 83, .indexAddr 70 (.tmp 72) (.tmp 73), 0, "linear.go:77", #[⟨2, .data⟩, ⟨3, .data⟩, ⟨0, .phase⟩, ⟨1, .phase⟩, ⟨2, .phase⟩, ⟨3, .phase⟩, ⟨4, .phase⟩, ⟨5, .phase⟩, ⟨6, .phase⟩, ⟨7, .phase⟩, ⟨8, .phase⟩, ⟨9, .phase⟩, ⟨10, .phase⟩, ⟨11, .phase⟩, ⟨12, .phase⟩, ⟨13, .phase⟩], none⟩ : Oper)) (v := ?y4_12_v) rfl (by kernel_rfl) (by kernel_rfl) (by kernel_rfl) (fun _ _ _ h => h) (Or.inl ⟨by rfl, ?y4_12_h⟩) hHeld ?y4_12_r
          case y4_12_h => (intro w hSw; (try dsimp only at hSw); go_simp; all_goals with_reducible rfl)
          (try simp only [Act.put, List.setIfInBounds_toArray, List.set_cons_zero, List.set_cons_succ])
          refine wpAnyH_ready (rs := [15]) (by kernel_rfl) (by simp) ?_
          refine AllReadyH.cons (o := (⟨none, .store 26 (.tmp 83) (.tmp 81), 0, "linear.go:77", #[⟨14, .data⟩, ⟨11, .data⟩, ⟨13, .chain⟩, ⟨0, .phase⟩, ⟨1, .phase⟩, ⟨2, .phase⟩, ⟨3, .phase⟩, ⟨4, .phase⟩, ⟨5, .phase⟩, ⟨6, .phase⟩, ⟨7, .phase⟩, ⟨8, .phase⟩, ⟨9, .phase⟩, ⟨10, .phase⟩, ⟨11, .phase⟩, ⟨12, .phase⟩, ⟨13, .phase⟩], none⟩ : Oper)) rfl (fun K hK => ?_) AllReadyH.nil
          go_simp
          first | refine hK.out _ _ ?_ (fun hHeld => ?_) | (go_wp2_with fail; refine hK.out _ _ ?_ (fun hHeld => ?_))
          ·(first | assumption | exact HL9.out _ (Stay.drew HS9.out) | exact HL9.out _ (Stay.setCell (HI9.out _ (by assumption)) (Nat.le_refl _) (Nat.lt_succ_self _) _ _) | exact HL9.out _ (Stay.drew (Stay.setCell HS9.out (Nat.le_refl _) (Nat.lt_succ_self _) _ _)) | exact HL9.out _ (Stay.drew (Stay.setCell (Stay.setCell HS9.out (Nat.le_refl _) (Nat.lt_succ_self _) _ _) (Nat.le_refl _) (Nat.lt_succ_self _) _ _)))
          clear hK K
          (try dsimp only at hHeld)
          (try simp only [Act.put, List.setIfInBounds_toArray, List.set_cons_zero, List.set_cons_succ])
          refine wpAnyH_done (by kernel_rfl) ?_ _
          obtain ⟨W9, hW9⟩ : ∃ W', W' = ((w1.setCell ⟨w.heap.size + 1, j, none⟩ (.slice (some ⟨g s.rank, 0, none⟩) n n)).setCell ⟨w.heap.size + 1, s.rank, none⟩ (.slice (some ⟨g j, 0, none⟩) n n)).drew := ⟨_, rfl⟩
          rw [← hW9]
          have hs9 : Stay (w.heap.size + 1) (w.heap.size + 1 + 1) w1 W9 := by rw [hW9]; exact Stay.drew (Stay.setCell (Stay.setCell HS9.out (Nat.le_refl _) (Nat.lt_succ_self _) _ _) (Nat.le_refl _) (Nat.lt_succ_self _) _ _)
          have HA9 := Lib.hid (show MatO W9 (w.heap.size + 1) m n (fun x => g (swapI j s.rank x)) (swapR s.A j s.rank) by rw [hW9]; exact (HAi.out.swap hjl hrm).below (Below.drew (Below.refl _ _)))
          have HM9 := Lib.hid ((hs9.block (w.heap.size + 1 + 1) (Array.getElem?_eq_some_iff.1 HMi.out).1 (.inr (by omega))).trans HMi.out)
          have HZ9 := Lib.hid ((hs9.block (w.heap.size) (Array.getElem?_eq_some_iff.1 HZi.out).1 (.inl (by omega))).trans HZi.out)
          have HD9 := Lib.hid ((hs9.block (w8.heap.size) (Array.getElem?_eq_some_iff.1 HDi.out).1 (.inr (by omega))).trans HDi.out)
          have HDD9 := Lib.hid (HDDi.out.stay hs9 (noInt_one HAi.out.headNo))
          have HB9 := Lib.hid (HBi.out.trans (hs9.below (show w.heap.size ≤ w.heap.size + 1 by omega) HBi.out.size))
          clear hs9 hW9 HAi HMi HZi HDi HDDi HBi HL9 HI9 HS9 q1 q2 q3 q4 c0
          obtain ⟨⟨z0, z1, z2, z3⟩, z4, z5, z6, z7⟩ := res4_facts HD9.out
          go_wp2_with fail
          (with_reducible refine (ratneg_any HDD9.out).mono ?_)
          rintro e w10 ⟨m5, b5, i5, j5, m6, b6, i6, j6, rfl, hu, hb10⟩
          have HNeg := Lib.hid hu
          have HD10 := Lib.hid (blk_next HD9.out hb10)
          have HM10 := Lib.hid (blk_next HM9.out hb10)
          have HZ10 := Lib.hid (blk_next HZ9.out hb10)
          have HA10 := Lib.hid (HA9.out.below hb10)
          have HB10 := Lib.hid (bt HB9.out hb10)
          clear hu hb10 HA9 HM9 HZ9 HD9 HDD9 HB9 z0 z1 z2 z3 z4 z5 z6 z7
          obtain ⟨⟨z0, z1, z2, z3⟩, z4, z5, z6, z7⟩ := res4_facts HD10.out
          go_wp2_with fail
          clear z0 z1 z2 z3 z4 z5 z6 z7
          obtain ⟨W11, hW11⟩ : ∃ W', W' = ((((w10.setCell ⟨w8.heap.size, 0, none⟩ (.bool m5)).setCell ⟨w8.heap.size, 1, none⟩ (.slice b5 i5 j5)).setCell ⟨w8.heap.size, 2, none⟩ (.bool m6)).setCell ⟨w8.heap.size, 3, none⟩ (.slice b6 i6 j6)) := ⟨_, rfl⟩
          rw [← hW11]
          have hst : Stay (w8.heap.size) (w8.heap.size + 1) w10 W11 := by rw [hW11]; exact set4_stay
          have hni := noInt4 HD10.out
          have HAi := Lib.hid (HA10.out.stay hst (by omega) (fun x hx => by have := (HGS.out _ (swapI_lt hjl hrm hx)).2; omega) hni)
          have HMi := Lib.hid ((hst.block (w.heap.size + 1 + 1) (Array.getElem?_eq_some_iff.1 HM10.out).1 (.inl (by omega))).trans HM10.out)
          have HZi := Lib.hid ((hst.block (w.heap.size) (Array.getElem?_eq_some_iff.1 HZ10.out).1 (.inl (by omega))).trans HZ10.out)
          have HDi := Lib.hid (show W11.heap[w8.heap.size]? = some (.cells #[.bool m5, .slice b5 i5 j5, .bool m6, .slice b6 i6 j6] 37 (0, 0)) by rw [hW11]; exact res4_set HD10.out)
          have HDDi := Lib.hid (HNeg.out.stay hst (noInt_one hni))
          have HBi := Lib.hid (HB10.out.trans (hst.below (show w.heap.size ≤ w8.heap.size by omega) HB10.out.size))
          have c0 : W11.cell? ⟨w.heap.size + 1 + 1, 0, none⟩ = some (.slice (some ⟨w.heap.size + 1, 0, none⟩) m m) := by rw [Lib.cell_of_heap HMi.out]; rfl
          clear hst hni hW11 HA10 HM10 HZ10 HD10 HB10 HNeg
          obtain ⟨⟨z0, z1, z2, z3⟩, z4, z5, z6, z7⟩ := res4_facts HDi.out
          have hsm := dgs_small (N := N) (c := cc) hNN (by omega)
          have rdet : Rg 14000000000 (-s.det) := (Rg.of (fw_neg (run_det (fun _ _ _ _ h1 h2 h3 h4 => rows_up h1 h2 h3 h4) HRun.out (by omega) HN.out))).mono hsm
          have rall := Lib.hid (show ∀ i, i < m → ∀ k, k < n → Rg 14000000000 (swapR s.A j s.rank i k) from fun i hi k hk => (Rg.of ((swap_rows hjl hrm rows i hi).fw hk)).mono (by omega))
          have rpv := rall.out s.rank hrm cc (by omega)
          have NZP := Lib.hid (show swapR s.A j s.rank s.rank cc ≠ 0 by rw [swapR_pivot]; exact NZ.out)
          have HGx := Lib.hid (show ∀ x, x < m → w.heap.size + 1 + 1 < g (swapI j s.rank x) ∧ g (swapI j s.rank x) < w8.heap.size from fun x hx => HGS.out _ (swapI_lt hjl hrm hx))
          have y9 := HAi.out.head hrm
          obtain ⟨y, hy4, hyq⟩ := (HAi.out.row s.rank hrm).elem (show cc < n by omega)
          obtain ⟨y0, y1, y2, y3⟩ := hy4
          have HY := Lib.hid (show RatR W11 (.agg #[.bool y.n1, .slice y.a1 y.k1 y.c1, .bool y.n2, .slice y.a2 y.k2 y.c2]) (swapR s.A j s.rank s.rank cc) from hyq)
          clear hyq
          have h8 := H8.out
          have hgr := (HGx.out s.rank hrm).2
          have HL7 := Lib.hid (fun (w' : World) (hs : Stay (w8.heap.size) (w8.heap.size + 1) W11 w') => (⟨hs, hs.cell (.inl (by omega)) c0, hs.cell (.inl (by omega)) y9, hs.cell (.inl (by omega)) y0, hs.cell (.inl (by omega)) y1, hs.cell (.inl (by omega)) y2, hs.cell (.inl (by omega)) y3⟩ : Stay (w8.heap.size) (w8.heap.size + 1) W11 w' ∧ w'.cell? ⟨w.heap.size + 1 + 1, 0, none⟩ = some (.slice (some ⟨w.heap.size + 1, 0, none⟩) m m) ∧ w'.cell? ⟨w.heap.size + 1, s.rank, none⟩ = some (.slice (some ⟨g (swapI j s.rank s.rank), 0, none⟩) n n) ∧ w'.cell? ⟨g (swapI j s.rank s.rank), cc * 4, none⟩ = some (.bool y.n1) ∧ w'.cell? ⟨g (swapI j s.rank s.rank), cc * 4 + 1, none⟩ = some (.slice y.a1 y.k1 y.c1) ∧ w'.cell? ⟨g (swapI j s.rank s.rank), cc * 4 + 2, none⟩ = some (.bool y.n2) ∧ w'.cell? ⟨g (swapI j s.rank s.rank), cc * 4 + 3, none⟩ = some (.slice y.a2 y.k2 y.c2)))
          have HI7 := Lib.hid (fun (w' : World) (hs : Stay (w8.heap.size) (w8.heap.size + 1) W11 w' ∧ w'.cell? ⟨w.heap.size + 1 + 1, 0, none⟩ = some (.slice (some ⟨w.heap.size + 1, 0, none⟩) m m) ∧ w'.cell? ⟨w.heap.size + 1, s.rank, none⟩ = some (.slice (some ⟨g (swapI j s.rank s.rank), 0, none⟩) n n) ∧ w'.cell? ⟨g (swapI j s.rank s.rank), cc * 4, none⟩ = some (.bool y.n1) ∧ w'.cell? ⟨g (swapI j s.rank s.rank), cc * 4 + 1, none⟩ = some (.slice y.a1 y.k1 y.c1) ∧ w'.cell? ⟨g (swapI j s.rank s.rank), cc * 4 + 2, none⟩ = some (.bool y.n2) ∧ w'.cell? ⟨g (swapI j s.rank s.rank), cc * 4 + 3, none⟩ = some (.slice y.a2 y.k2 y.c2)) => hs.1)
          have HS7 := Lib.hid (Stay.refl (w8.heap.size) (w8.heap.size + 1) W11)
          have HN7 := Lib.hid (noInt_one (noInt4 HDi.out))
          refine wp_region_held_drew (S := fun w' => Stay (w8.heap.size) (w8.heap.size + 1) W11 w' ∧ w'.cell? ⟨w.heap.size + 1 + 1, 0, none⟩ = some (.slice (some ⟨w.heap.size + 1, 0, none⟩) m m) ∧ w'.cell? ⟨w.heap.size + 1, s.rank, none⟩ = some (.slice (some ⟨g (swapI j s.rank s.rank), 0, none⟩) n n) ∧ w'.cell? ⟨g (swapI j s.rank s.rank), cc * 4, none⟩ = some (.bool y.n1) ∧ w'.cell? ⟨g (swapI j s.rank s.rank), cc * 4 + 1, none⟩ = some (.slice y.a1 y.k1 y.c1) ∧ w'.cell? ⟨g (swapI j s.rank s.rank), cc * 4 + 2, none⟩ = some (.bool y.n2) ∧ w'.cell? ⟨g (swapI j s.rank s.rank), cc * 4 + 3, none⟩ = some (.slice y.a2 y.k2 y.c2)) (by kernel_rfl) ?_ (fun hHeld => ?_)
          ·(first | assumption | with_reducible exact HL7.out _ (Stay.drew HS7.out) | with_reducible exact HL7.out _ HT7.out | with_reducible exact HL7.out _ (stay_four HT7.out))
          (try dsimp only at hHeld)
          refine wpAnyH_take (i := 1) (oi := (⟨some 87, .load 70 (.tmp 7), 70, "linear.go:80", #[], none⟩ : Oper)) (v := ?y3_1_e2_v) rfl (by kernel_rfl) (by kernel_rfl) (by kernel_rfl) (fun _ _ _ h => h) (Or.inl ⟨by rfl, ?y3_1_e2_h⟩) hHeld ?y3_1_e2_r
          case y3_1_e2_h => (intro w hSw; (try dsimp only at hSw); go_simp; all_goals with_reducible rfl)
          (try simp only [Act.put, List.setIfInBounds_toArray, List.set_cons_zero, List.set_cons_succ])
          refine wpAnyH_take (i := 2) (oi := (⟨some 88, .move (.tmp 11), 3, "linear.go:80", #[], none⟩ : Oper)) (v := ?y3_2_e2_v) rfl (by kernel_rfl) (by kernel_rfl) (by kernel_rfl) (fun _ _ _ h => h) (Or.inl ⟨by rfl, ?y3_2_e2_h⟩) hHeld ?y3_2_e2_r
          case y3_2_e2_h => (intro w hSw; (try dsimp only at hSw); go_simp; all_goals with_reducible rfl)
          (try simp only [Act.put, List.setIfInBounds_toArray, List.set_cons_zero, List.set_cons_succ])
          refine wpAnyH_take (i := 3) (oi := (⟨some 89, .indexAddr 70 (.tmp 87) (.tmp 88), 0, "linear.go:80", #[⟨1, .data⟩, ⟨2, .data⟩], none⟩ : Oper)) (v := ?y3_3_e2_v) rfl (by kernel_rfl) (by kernel_rfl) (by kernel_rfl) (fun _ _ _ h => h) (Or.inl ⟨by rfl, ?y3_3_e2_h⟩) hHeld ?y3_3_e2_r
          case y3_3_e2_h => (intro w hSw; (try dsimp only at hSw); go_simp; all_goals with_reducible rfl)
          (try simp only [Act.put, List.setIfInBounds_toArray, List.set_cons_zero, List.set_cons_succ])
          refine wpAnyH_take (i := 4) (oi := (⟨some 90, .load 26 (.tmp 89), 26, "linear.go:80", #[⟨3, .data⟩], none⟩ : Oper)) (v := ?y3_4_e2_v) rfl (by kernel_rfl) (by kernel_rfl) (by kernel_rfl) (fun _ _ _ h => h) (Or.inl ⟨by rfl, ?y3_4_e2_h⟩) hHeld ?y3_4_e2_r
          case y3_4_e2_h => (intro w hSw; (try dsimp only at hSw); go_simp; all_goals with_reducible rfl)
          (try simp only [Act.put, List.setIfInBounds_toArray, List.set_cons_zero, List.set_cons_succ])
          refine wpAnyH_take (i := 5) (oi := (⟨some 91, .move (.tmp 13), 3, "linear.go:80", #[], none⟩ : Oper)) (v := ?y3_5_e2_v) rfl (by kernel_rfl) (by kernel_rfl) (by kernel_rfl) (fun _ _ _ h => h) (Or.inl ⟨by rfl, ?y3_5_e2_h⟩) hHeld ?y3_5_e2_r
          case y3_5_e2_h => (intro w hSw; (try dsimp only at hSw); go_simp; all_goals with_reducible rfl)
          (try simp only [Act.put, List.setIfInBounds_toArray, List.set_cons_zero, List.set_cons_succ])
          refine wpAnyH_take (i := 6) (oi := (⟨some 92, .indexAddr 26 (.tmp 90) (.tmp 91), 0, "linear.go:80", #[⟨4, .data⟩, ⟨5, .data⟩], none⟩ : Oper)) (v := ?y3_6_e2_v) rfl (by kernel_rfl) (by kernel_rfl) (by kernel_rfl) (fun _ _ _ h => h) (Or.inl ⟨by rfl, ?y3_6_e2_h⟩) hHeld ?y3_6_e2_r
          case y3_6_e2_h => (intro w hSw; (try dsimp only at hSw); go_simp; all_goals with_reducible rfl)
          (try simp only [Act.put, List.setIfInBounds_toArray, List.set_cons_zero, List.set_cons_succ])
          refine wpAnyH_take (i := 7) (oi := (⟨some 93, .load 37 (.tmp 92), 37, "linear.go:80", #[⟨6, .data⟩], none⟩ : Oper)) (v := ?y3_7_e2_v) rfl (by kernel_rfl) (by kernel_rfl) (by kernel_rfl) (fun _ _ _ h => h) (Or.inl ⟨by rfl, ?y3_7_e2_h⟩) hHeld ?y3_7_e2_r
          case y3_7_e2_h => (intro w hSw; (try dsimp only at hSw); go_simp; all_goals with_reducible rfl)
          (try simp only [Act.put, List.setIfInBounds_toArray, List.set_cons_zero, List.set_cons_succ])
          refine wpAnyH_ready (rs := [0]) (by kernel_rfl) (by simp) ?_
          refine AllReadyH.cons (o := (⟨some 86, .load 37 (.tmp 9), 37, "linear.go:80", #[], none⟩ : Oper)) rfl (fun K hK => ?_) AllReadyH.nil
          go_simp
          first | refine hK.out _ _ ?_ (fun hHeld => ?_) | (go_wp2_with fail; refine hK.out _ _ ?_ (fun hHeld => ?_))
          ·(first | assumption | with_reducible exact HL7.out _ (Stay.drew HS7.out) | with_reducible exact HL7.out _ HT7.out | with_reducible exact HL7.out _ (stay_four HT7.out))
          clear hK K
          (try dsimp only at hHeld)
          (try simp only [Act.put, List.setIfInBounds_toArray, List.set_cons_zero, List.set_cons_succ])
          refine wpAnyH_ready (rs := [8]) (by kernel_rfl) (by simp) ?_
          refine AllReadyH.cons (o := (⟨some 94, .call { callee := .value (.func 52), args := #[.tmp 86, .tmp 93], argTypes := #[37, 37] }, 37, "linear.go:80", #[⟨0, .data⟩, ⟨7, .data⟩], none⟩ : Oper)) rfl (fun K hK => ?_) AllReadyH.nil
          go_simp
          (go_at_call 52; (with_reducible refine (ratmul_any (HDDi.out.below (Below.drew (Below.refl _ _))) (HY.out.below (Below.drew (Below.refl _ _))) rdet rpv (by decide)).mono ?_); rintro e w2 ⟨m1, b1, i3, j1, m2, b2, i4, j2, rfl, hu1, hu2, hbm⟩; have HP := Lib.hid (RatR.mk hu1 hu2 (.inl rfl)); clear hu1 hu2; have HDm := Lib.hid (blk_next (w := W11.drew) HDi.out hbm); have HT7 := Lib.hid (Stay.next (HI7.out _ (by assumption)) hbm); obtain ⟨⟨t0, t1, t2, t3⟩, t4, t5, t6, t7⟩ := res4_facts HDm.out)
          first | refine hK.out _ _ ?_ (fun hHeld => ?_) | (go_wp2_with fail; refine hK.out _ _ ?_ (fun hHeld => ?_))
          ·(first | assumption | with_reducible exact HL7.out _ (Stay.drew HS7.out) | with_reducible exact HL7.out _ HT7.out | with_reducible exact HL7.out _ (stay_four HT7.out))
          clear hK K
          (try dsimp only at hHeld)
          (try simp only [Act.put, List.setIfInBounds_toArray, List.set_cons_zero, List.set_cons_succ])
          refine wpAnyH_ready (rs := [9]) (by kernel_rfl) (by simp) ?_
          refine AllReadyH.cons (o := (⟨none, .store 37 (.tmp 9) (.tmp 94), 0, "linear.go:80", #[⟨8, .data⟩, ⟨8, .chain⟩, ⟨0, .phase⟩, ⟨1, .phase⟩, ⟨2, .phase⟩, ⟨3, .phase⟩, ⟨4, .phase⟩, ⟨5, .phase⟩, ⟨6, .phase⟩, ⟨7, .phase⟩, ⟨8, .phase⟩], none⟩ : Oper)) rfl (fun K hK => ?_) AllReadyH.nil
          go_simp
          first | refine hK.out _ _ ?_ (fun hHeld => ?_) | (go_wp2_with fail; refine hK.out _ _ ?_ (fun hHeld => ?_))
          ·(first | assumption | with_reducible exact HL7.out _ (Stay.drew HS7.out) | with_reducible exact HL7.out _ HT7.out | with_reducible exact HL7.out _ (stay_four HT7.out))
          clear hK K
          (try dsimp only at hHeld)
          (try simp only [Act.put, List.setIfInBounds_toArray, List.set_cons_zero, List.set_cons_succ])
          refine wpAnyH_done (by kernel_rfl) ?_ _
          clear t0 t1 t2 t3 t4 t5 t6 t7 z0 z1 z2 z3 z4 z5 z6 z7 y0 y1 y2 y3 y9 c0
          have hst := set4_stay (r := w8.heap.size) (w := w2) (x := .bool m1) (y := .slice b1 i3 j1) (z := .bool m2) (u := .slice b2 i4 j2)
          have hni := noInt4 HDm.out
          have bd := Below.drew (Below.refl W11.heap.size W11)
          obtain ⟨W3, hW3⟩ : ∃ W', W' = ((((w2.setCell ⟨w8.heap.size, 0, none⟩ (.bool m1)).setCell ⟨w8.heap.size, 1, none⟩ (.slice b1 i3 j1)).setCell ⟨w8.heap.size, 2, none⟩ (.bool m2)).setCell ⟨w8.heap.size, 3, none⟩ (.slice b2 i4 j2)) := ⟨_, rfl⟩
          go_wp2_with fail
          rw [← hW3]
          rw [← hW3] at hst
          have HA3 := Lib.hid (((HAi.out.below bd).below hbm).stay hst (by omega) (fun x hx => by have := (HGx.out x hx).2; omega) hni)
          have HM3 := Lib.hid ((hst.block (w.heap.size + 1 + 1) (by have := (Array.getElem?_eq_some_iff.1 (blk_next (w := W11.drew) HMi.out hbm)).1; omega) (.inl (by omega))).trans (blk_next (w := W11.drew) HMi.out hbm))
          have HZ3 := Lib.hid ((hst.block (w.heap.size) (by have := (Array.getElem?_eq_some_iff.1 (blk_next (w := W11.drew) HZi.out hbm)).1; omega) (.inl (by omega))).trans (blk_next (w := W11.drew) HZi.out hbm))
          have HD3 := Lib.hid (show W3.heap[w8.heap.size]? = some (.cells #[.bool m1, .slice b1 i3 j1, .bool m2, .slice b2 i4 j2] 37 (0, 0)) by rw [hW3]; exact res4_set HDm.out)
          have HDD3 := Lib.hid (HP.out.stay hst (noInt_one hni))
          have HBm := Lib.hid (bt (bt HBi.out bd) hbm)
          have HB3 := Lib.hid (HBm.out.trans (hst.below (show w.heap.size ≤ w8.heap.size by omega) HBm.out.size))
          clear hst hni bd hW3 hbm HDm HT7 HBm HP HAi HMi HZi HDi HDDi HBi HL7 HI7 HS7 HN7
          (with_reducible refine (clear_any (N := 14000000000) HM3.out HA3.out (fun x hx => by have := (HGx.out x hx).1; omega) hrm (show cc < n by omega) NZP.out rall.out (by decide) (by omega) (by omega)).mono ?_)
          rintro e w4 ⟨rfl, hma4, hon4⟩
          have HA4 := Lib.hid hma4
          have HM4 := Lib.hid (hon4.heap (fun ⟨x, hx, e⟩ => by have := (HGx.out x hx).1; (try dsimp only at e); omega) HM3.out)
          have HZ4 := Lib.hid (hon4.heap (fun ⟨x, hx, e⟩ => by have := (HGx.out x hx).1; (try dsimp only at e); omega) HZ3.out)
          have HD4 := Lib.hid (hon4.heap (fun ⟨x, hx, e⟩ => by have := (HGx.out x hx).2; (try dsimp only at e); omega) HD3.out)
          have HDD4 := Lib.hid (HDD3.out.onlyP hon4 HA3.out.noInt)
          have HB4 := Lib.hid (HB3.out.trans (hon4.below (B := w.heap.size) (fun x ⟨i, hi, e⟩ => by have := (HGx.out i hi).1; (try dsimp only at e); omega) HB3.out.size))
          have HS4 := Lib.hid (Run.succ HRun.out (IsStep.piv j hj1 hjl (fun x h1 h2 => HZC.out x h1 h2) NZ.out))
          rw [if_neg hjr] at HS4
          replace HDD4 := Lib.hid (HDD4.out.as (show -s.det * swapR s.A j s.rank s.rank cc = -s.det * s.A j cc by rw [swapR_pivot]))
          clear hma4 hon4 HA3 HM3 HZ3 HD3 HDD3 HB3
          go_wp2
          refine ⟨⟨cc + 1, _, _, m1, b1, i3, j1, m2, b2, i4, j2, ?_, by go_num, by omega, HS4.out, HA4.out, HGx.out, HM4.out, HZ4.out, HD4.out, HDD4.out, HB4.out⟩, ?_⟩
          ·go_num
          ·simp [intOf]; omega
         ·go_simp
          first | refine hK.out _ _ ?_ (fun hHeld => ?_) | (go_wp2_with fail; refine hK.out _ _ ?_ (fun hHeld => ?_))
          ·(first | assumption | exact HL9.out _ (Stay.drew HS9.out) | exact HL9.out _ (Stay.setCell (HI9.out _ (by assumption)) (Nat.le_refl _) (Nat.lt_succ_self _) _ _) | exact HL9.out _ (Stay.drew (Stay.setCell HS9.out (Nat.le_refl _) (Nat.lt_succ_self _) _ _)) | exact HL9.out _ (Stay.drew (Stay.setCell (Stay.setCell HS9.out (Nat.le_refl _) (Nat.lt_succ_self _) _ _) (Nat.le_refl _) (Nat.lt_succ_self _) _ _)))
          clear hK K
          (try dsimp only at hHeld)
          (try simp only [Act.put, List.setIfInBounds_toArray, List.set_cons_zero, List.set_cons_succ])
          refine wpAnyH_ready (rs := [7]) (by kernel_rfl) (by simp) ?_
          refine AllReadyH.cons (o := (⟨some 77, .load 26 (.tmp 76), 26, "linear.go:77", #[⟨6, .data⟩], none⟩ : Oper)) rfl (fun K hK => ?_) AllReadyH.nil
          go_simp
          first | refine hK.out _ _ ?_ (fun hHeld => ?_) | (go_wp2_with fail; refine hK.out _ _ ?_ (fun hHeld => ?_))
          ·(first | assumption | exact HL9.out _ (Stay.drew HS9.out) | exact HL9.out _ (Stay.setCell (HI9.out _ (by assumption)) (Nat.le_refl _) (Nat.lt_succ_self _) _ _) | exact HL9.out _ (Stay.drew (Stay.setCell HS9.out (Nat.le_refl _) (Nat.lt_succ_self _) _ _)) | exact HL9.out _ (Stay.drew (Stay.setCell (Stay.setCell HS9.out (Nat.le_refl _) (Nat.lt_succ_self _) _ _) (Nat.le_refl _) (Nat.lt_succ_self _) _ _)))
          clear hK K
          (try dsimp only at hHeld)
          (try simp only [Act.put, List.setIfInBounds_toArray, List.set_cons_zero, List.set_cons_succ])
          refine wpAnyH_take (i := 12) (oi := (⟨some 82, .indexAddr 70 (.tmp 70) (.tmp 71), 0, "linear.go:77", #[⟨0, .data⟩, ⟨1, .data⟩, ⟨0, .phase⟩, ⟨1, .phase⟩, ⟨2, .textOnly .lateStores⟩, ⟨3, .textOnly .lateStores⟩, ⟨4, .phase⟩, ⟨5, .phase⟩, ⟨6, .phase⟩, ⟨7, .phase⟩, ⟨8, .textOnly .lateStores⟩, ⟨9, .textOnly .lateStores⟩, ⟨10, .textOnly .lateStoresUnsure⟩, ⟨11, .phase⟩], none⟩ : Oper)) (v := ?y4_13_v) rfl (by kernel_rfl) (by kernel_rfl) (by kernel_rfl) (fun _ _ _ h => h) (Or.inl ⟨by rfl, ?y4_13_h⟩) hHeld ?y4_13_r
          case y4_13_h => (intro w hSw; (try dsimp only at hSw); go_simp; all_goals with_reducible rfl)
          (try simp only [Act.put, List.setIfInBounds_toArray, List.set_cons_zero, List.set_cons_succ])
          refine wpAnyH_ready (rs := [13]) (by kernel_rfl) (by simp) ?_
          refine AllReadyH.cons (o := (⟨none, .store 26 (.tmp 82) (.tmp 77), 0, "linear.go:77", #[⟨12, .data⟩, ⟨7, .data⟩, ⟨0, .phase⟩, ⟨1, .phase⟩, ⟨2, .textOnly .lateStores⟩, ⟨3, .textOnly .lateStores⟩, ⟨4, .phase⟩, ⟨5, .phase⟩, ⟨6, .phase⟩, ⟨7, .phase⟩, ⟨8, .textOnly .lateStores⟩, ⟨9, .textOnly .lateStores⟩, ⟨10, .textOnly .lateStoresUnsure⟩, ⟨11, .phase⟩], none⟩ : Oper)) rfl (fun K hK => ?_) AllReadyH.nil
          go_simp
          first | refine hK.out _ _ ?_ (fun hHeld => ?_) | (go_wp2_with fail; refine hK.out _ _ ?_ (fun hHeld => ?_))
          ·(first | assumption | exact HL9.out _ (Stay.drew HS9.out) | exact HL9.out _ (Stay.setCell (HI9.out _ (by assumption)) (Nat.le_refl _) (Nat.lt_succ_self _) _ _) | exact HL9.out _ (Stay.drew (Stay.setCell HS9.out (Nat.le_refl _) (Nat.lt_succ_self _) _ _)) | exact HL9.out _ (Stay.drew (Stay.setCell (Stay.setCell HS9.out (Nat.le_refl _) (Nat.lt_succ_self _) _ _) (Nat.le_refl _) (Nat.lt_succ_self _) _ _)))
          clear hK K
          (try dsimp only at hHeld)
          (try simp only [Act.put, List.setIfInBounds_toArray, List.set_cons_zero, List.set_cons_succ])
          refine wpAnyH_take (i := 14) (oi := (⟨some 83, .indexAddr 70 (.tmp 72) (.tmp 73), 0, "linear.go:77", #[⟨2, .data⟩, ⟨3, .data⟩, ⟨0, .phase⟩, ⟨1, .phase⟩, ⟨2, .phase⟩, ⟨3, .phase⟩, ⟨4, .phase⟩, ⟨5, .phase⟩, ⟨6, .phase⟩, ⟨7, .phase⟩, ⟨8, .phase⟩, ⟨9, .phase⟩, ⟨10, .phase⟩, ⟨11, .phase⟩, ⟨12, .phase⟩, ⟨13, .phase⟩], none⟩ : Oper)) (v := ?y4_14_v) rfl (by kernel_rfl) (by kernel_rfl) (by kernel_rfl) (fun _ _ _ h => h) (Or.inl ⟨by rfl, ?y4_14_h⟩) hHeld ?y4_14_r
          case y4_14_h => (intro w hSw; (try dsimp only at hSw); go_simp; all_goals with_reducible rfl)
          (try simp only [Act.put, List.setIfInBounds_toArray, List.set_cons_zero, List.set_cons_succ])
          refine wpAnyH_ready (rs := [15]) (by kernel_rfl) (by simp) ?_
          refine AllReadyH.cons (o := (⟨none, .store 26 (.tmp 83) (.tmp 81), 0, "linear.go:77", #[⟨14, .data⟩, ⟨11, .data⟩, ⟨13, .chain⟩, ⟨0, .phase⟩, ⟨1, .phase⟩, ⟨2, .phase⟩, ⟨3, .phase⟩, ⟨4, .phase⟩, ⟨5, .phase⟩, ⟨6, .phase⟩, ⟨7, .phase⟩, ⟨8, .phase⟩, ⟨9, .phase⟩, ⟨10, .phase⟩, ⟨11, .phase⟩, ⟨12, .phase⟩, ⟨13, .phase⟩], none⟩ : Oper)) rfl (fun K hK => ?_) AllReadyH.nil
          go_simp
          first | refine hK.out _ _ ?_ (fun hHeld => ?_) | (go_wp2_with fail; refine hK.out _ _ ?_ (fun hHeld => ?_))
          ·(first | assumption | exact HL9.out _ (Stay.drew HS9.out) | exact HL9.out _ (Stay.setCell (HI9.out _ (by assumption)) (Nat.le_refl _) (Nat.lt_succ_self _) _ _) | exact HL9.out _ (Stay.drew (Stay.setCell HS9.out (Nat.le_refl _) (Nat.lt_succ_self _) _ _)) | exact HL9.out _ (Stay.drew (Stay.setCell (Stay.setCell HS9.out (Nat.le_refl _) (Nat.lt_succ_self _) _ _) (Nat.le_refl _) (Nat.lt_succ_self _) _ _)))
          clear hK K
          (try dsimp only at hHeld)
          (try simp only [Act.put, List.setIfInBounds_toArray, List.set_cons_zero, List.set_cons_succ])
          refine wpAnyH_done (by kernel_rfl) ?_ _
          obtain ⟨W9, hW9⟩ : ∃ W', W' = ((w1.setCell ⟨w.heap.size + 1, j, none⟩ (.slice (some ⟨g s.rank, 0, none⟩) n n)).setCell ⟨w.heap.size + 1, s.rank, none⟩ (.slice (some ⟨g j, 0, none⟩) n n)).drew := ⟨_, rfl⟩
          rw [← hW9]
          have hs9 : Stay (w.heap.size + 1) (w.heap.size + 1 + 1) w1 W9 := by rw [hW9]; exact Stay.drew (Stay.setCell (Stay.setCell HS9.out (Nat.le_refl _) (Nat.lt_succ_self _) _ _) (Nat.le_refl _) (Nat.lt_succ_self _) _ _)
          have HA9 := Lib.hid (show MatO W9 (w.heap.size + 1) m n (fun x => g (swapI j s.rank x)) (swapR s.A j s.rank) by rw [hW9]; exact (HAi.out.swap hjl hrm).below (Below.drew (Below.refl _ _)))
          have HM9 := Lib.hid ((hs9.block (w.heap.size + 1 + 1) (Array.getElem?_eq_some_iff.1 HMi.out).1 (.inr (by omega))).trans HMi.out)
          have HZ9 := Lib.hid ((hs9.block (w.heap.size) (Array.getElem?_eq_some_iff.1 HZi.out).1 (.inl (by omega))).trans HZi.out)
          have HD9 := Lib.hid ((hs9.block (w8.heap.size) (Array.getElem?_eq_some_iff.1 HDi.out).1 (.inr (by omega))).trans HDi.out)
          have HDD9 := Lib.hid (HDDi.out.stay hs9 (noInt_one HAi.out.headNo))
          have HB9 := Lib.hid (HBi.out.trans (hs9.below (show w.heap.size ≤ w.heap.size + 1 by omega) HBi.out.size))
          clear hs9 hW9 HAi HMi HZi HDi HDDi HBi HL9 HI9 HS9 q1 q2 q3 q4 c0
          obtain ⟨⟨z0, z1, z2, z3⟩, z4, z5, z6, z7⟩ := res4_facts HD9.out
          go_wp2_with fail
          (with_reducible refine (ratneg_any HDD9.out).mono ?_)
          rintro e w10 ⟨m5, b5, i5, j5, m6, b6, i6, j6, rfl, hu, hb10⟩
          have HNeg := Lib.hid hu
          have HD10 := Lib.hid (blk_next HD9.out hb10)
          have HM10 := Lib.hid (blk_next HM9.out hb10)
          have HZ10 := Lib.hid (blk_next HZ9.out hb10)
          have HA10 := Lib.hid (HA9.out.below hb10)
          have HB10 := Lib.hid (bt HB9.out hb10)
          clear hu hb10 HA9 HM9 HZ9 HD9 HDD9 HB9 z0 z1 z2 z3 z4 z5 z6 z7
          obtain ⟨⟨z0, z1, z2, z3⟩, z4, z5, z6, z7⟩ := res4_facts HD10.out
          go_wp2_with fail
          clear z0 z1 z2 z3 z4 z5 z6 z7
          obtain ⟨W11, hW11⟩ : ∃ W', W' = ((((w10.setCell ⟨w8.heap.size, 0, none⟩ (.bool m5)).setCell ⟨w8.heap.size, 1, none⟩ (.slice b5 i5 j5)).setCell ⟨w8.heap.size, 2, none⟩ (.bool m6)).setCell ⟨w8.heap.size, 3, none⟩ (.slice b6 i6 j6)) := ⟨_, rfl⟩
          rw [← hW11]
          have hst : Stay (w8.heap.size) (w8.heap.size + 1) w10 W11 := by rw [hW11]; exact set4_stay
          have hni := noInt4 HD10.out
          have HAi := Lib.hid (HA10.out.stay hst (by omega) (fun x hx => by have := (HGS.out _ (swapI_lt hjl hrm hx)).2; omega) hni)
          have HMi := Lib.hid ((hst.block (w.heap.size + 1 + 1) (Array.getElem?_eq_some_iff.1 HM10.out).1 (.inl (by omega))).trans HM10.out)
          have HZi := Lib.hid ((hst.block (w.heap.size) (Array.getElem?_eq_some_iff.1 HZ10.out).1 (.inl (by omega))).trans HZ10.out)
          have HDi := Lib.hid (show W11.heap[w8.heap.size]? = some (.cells #[.bool m5, .slice b5 i5 j5, .bool m6, .slice b6 i6 j6] 37 (0, 0)) by rw [hW11]; exact res4_set HD10.out)
          have HDDi := Lib.hid (HNeg.out.stay hst (noInt_one hni))
          have HBi := Lib.hid (HB10.out.trans (hst.below (show w.heap.size ≤ w8.heap.size by omega) HB10.out.size))
          have c0 : W11.cell? ⟨w.heap.size + 1 + 1, 0, none⟩ = some (.slice (some ⟨w.heap.size + 1, 0, none⟩) m m) := by rw [Lib.cell_of_heap HMi.out]; rfl
          clear hst hni hW11 HA10 HM10 HZ10 HD10 HB10 HNeg
          obtain ⟨⟨z0, z1, z2, z3⟩, z4, z5, z6, z7⟩ := res4_facts HDi.out
          have hsm := dgs_small (N := N) (c := cc) hNN (by omega)
          have rdet : Rg 14000000000 (-s.det) := (Rg.of (fw_neg (run_det (fun _ _ _ _ h1 h2 h3 h4 => rows_up h1 h2 h3 h4) HRun.out (by omega) HN.out))).mono hsm
          have rall := Lib.hid (show ∀ i, i < m → ∀ k, k < n → Rg 14000000000 (swapR s.A j s.rank i k) from fun i hi k hk => (Rg.of ((swap_rows hjl hrm rows i hi).fw hk)).mono (by omega))
          have rpv := rall.out s.rank hrm cc (by omega)
          have NZP := Lib.hid (show swapR s.A j s.rank s.rank cc ≠ 0 by rw [swapR_pivot]; exact NZ.out)
          have HGx := Lib.hid (show ∀ x, x < m → w.heap.size + 1 + 1 < g (swapI j s.rank x) ∧ g (swapI j s.rank x) < w8.heap.size from fun x hx => HGS.out _ (swapI_lt hjl hrm hx))
          have y9 := HAi.out.head hrm
          obtain ⟨y, hy4, hyq⟩ := (HAi.out.row s.rank hrm).elem (show cc < n by omega)
          obtain ⟨y0, y1, y2, y3⟩ := hy4
          have HY := Lib.hid (show RatR W11 (.agg #[.bool y.n1, .slice y.a1 y.k1 y.c1, .bool y.n2, .slice y.a2 y.k2 y.c2]) (swapR s.A j s.rank s.rank cc) from hyq)
          clear hyq
          have h8 := H8.out
          have hgr := (HGx.out s.rank hrm).2
          have HL7 := Lib.hid (fun (w' : World) (hs : Stay (w8.heap.size) (w8.heap.size + 1) W11 w') => (⟨hs, hs.cell (.inl (by omega)) c0, hs.cell (.inl (by omega)) y9, hs.cell (.inl (by omega)) y0, hs.cell (.inl (by omega)) y1, hs.cell (.inl (by omega)) y2, hs.cell (.inl (by omega)) y3⟩ : Stay (w8.heap.size) (w8.heap.size + 1) W11 w' ∧ w'.cell? ⟨w.heap.size + 1 + 1, 0, none⟩ = some (.slice (some ⟨w.heap.size + 1, 0, none⟩) m m) ∧ w'.cell? ⟨w.heap.size + 1, s.rank, none⟩ = some (.slice (some ⟨g (swapI j s.rank s.rank), 0, none⟩) n n) ∧ w'.cell? ⟨g (swapI j s.rank s.rank), cc * 4, none⟩ = some (.bool y.n1) ∧ w'.cell? ⟨g (swapI j s.rank s.rank), cc * 4 + 1, none⟩ = some (.slice y.a1 y.k1 y.c1) ∧ w'.cell? ⟨g (swapI j s.rank s.rank), cc * 4 + 2, none⟩ = some (.bool y.n2) ∧ w'.cell? ⟨g (swapI j s.rank s.rank), cc * 4 + 3, none⟩ = some (.slice y.a2 y.k2 y.c2)))
          have HI7 := Lib.hid (fun (w' : World) (hs : Stay (w8.heap.size) (w8.heap.size + 1) W11 w' ∧ w'.cell? ⟨w.heap.size + 1 + 1, 0, none⟩ = some (.slice (some ⟨w.heap.size + 1, 0, none⟩) m m) ∧ w'.cell? ⟨w.heap.size + 1, s.rank, none⟩ = some (.slice (some ⟨g (swapI j s.rank s.rank), 0, none⟩) n n) ∧ w'.cell? ⟨g (swapI j s.rank s.rank), cc * 4, none⟩ = some (.bool y.n1) ∧ w'.cell? ⟨g (swapI j s.rank s.rank), cc * 4 + 1, none⟩ = some (.slice y.a1 y.k1 y.c1) ∧ w'.cell? ⟨g (swapI j s.rank s.rank), cc * 4 + 2, none⟩ = some (.bool y.n2) ∧ w'.cell? ⟨g (swapI j s.rank s.rank), cc * 4 + 3, none⟩ = some (.slice y.a2 y.k2 y.c2)) => hs.1)
          have HS7 := Lib.hid (Stay.refl (w8.heap.size) (w8.heap.size + 1) W11)
          have HN7 := Lib.hid (noInt_one (noInt4 HDi.out))
          refine wp_region_held_drew (S := fun w' => Stay (w8.heap.size) (w8.heap.size + 1) W11 w' ∧ w'.cell? ⟨w.heap.size + 1 + 1, 0, none⟩ = some (.slice (some ⟨w.heap.size + 1, 0, none⟩) m m) ∧ w'.cell? ⟨w.heap.size + 1, s.rank, none⟩ = some (.slice (some ⟨g (swapI j s.rank s.rank), 0, none⟩) n n) ∧ w'.cell? ⟨g (swapI j s.rank s.rank), cc * 4, none⟩ = some (.bool y.n1) ∧ w'.cell? ⟨g (swapI j s.rank s.rank), cc * 4 + 1, none⟩ = some (.slice y.a1 y.k1 y.c1) ∧ w'.cell? ⟨g (swapI j s.rank s.rank), cc * 4 + 2, none⟩ = some (.bool y.n2) ∧ w'.cell? ⟨g (swapI j s.rank s.rank), cc * 4 + 3, none⟩ = some (.slice y.a2 y.k2 y.c2)) (by kernel_rfl) ?_ (fun hHeld => ?_)
          ·(first | assumption | with_reducible exact HL7.out _ (Stay.drew HS7.out) | with_reducible exact HL7.out _ HT7.out | with_reducible exact HL7.out _ (stay_four HT7.out))
          (try dsimp only at hHeld)
          refine wpAnyH_take (i := 1) (oi := (⟨some 87, .load 70 (.tmp 7), 70, "linear.go:80", #[], none⟩ : Oper)) (v := ?y3_1_e3_v) rfl (by kernel_rfl) (by kernel_rfl) (by kernel_rfl) (fun _ _ _ h => h) (Or.inl ⟨by rfl, ?y3_1_e3_h⟩) hHeld ?y3_1_e3_r
          case y3_1_e3_h => (intro w hSw; (try dsimp only at hSw); go_simp; all_goals with_reducible rfl)
          (try simp only [Act.put, List.setIfInBounds_toArray, List.set_cons_zero, List.set_cons_succ])
          refine wpAnyH_take (i := 2) (oi := (⟨some 88, .move (.tmp 11), 3, "linear.go:80", #[], none⟩ : Oper)) (v := ?y3_2_e3_v) rfl (by kernel_rfl) (by kernel_rfl) (by kernel_rfl) (fun _ _ _ h => h) (Or.inl ⟨by rfl, ?y3_2_e3_h⟩) hHeld ?y3_2_e3_r
          case y3_2_e3_h => (intro w hSw; (try dsimp only at hSw); go_simp; all_goals with_reducible rfl)
          (try simp only [Act.put, List.setIfInBounds_toArray, List.set_cons_zero, List.set_cons_succ])
          refine wpAnyH_take (i := 3) (oi := (⟨some 89, .indexAddr 70 (.tmp 87) (.tmp 88), 0, "linear.go:80", #[⟨1, .data⟩, ⟨2, .data⟩], none⟩ : Oper)) (v := ?y3_3_e3_v) rfl (by kernel_rfl) (by kernel_rfl) (by kernel_rfl) (fun _ _ _ h => h) (Or.inl ⟨by rfl, ?y3_3_e3_h⟩) hHeld ?y3_3_e3_r
          case y3_3_e3_h => (intro w hSw; (try dsimp only at hSw); go_simp; all_goals with_reducible rfl)
          (try simp only [Act.put, List.setIfInBounds_toArray, List.set_cons_zero, List.set_cons_succ])
          refine wpAnyH_take (i := 4) (oi := (⟨some 90, .load 26 (.tmp 89), 26, "linear.go:80", #[⟨3, .data⟩], none⟩ : Oper)) (v := ?y3_4_e3_v) rfl (by kernel_rfl) (by kernel_rfl) (by kernel_rfl) (fun _ _ _ h => h) (Or.inl ⟨by rfl, ?y3_4_e3_h⟩) hHeld ?y3_4_e3_r
          case y3_4_e3_h => (intro w hSw; (try dsimp only at hSw); go_simp; all_goals with_reducible rfl)
          (try simp only [Act.put, List.setIfInBounds_toArray, List.set_cons_zero, List.set_cons_succ])
          refine wpAnyH_take (i := 5) (oi := (⟨some 91, .move (.tmp 13), 3, "linear.go:80", #[], none⟩ : Oper)) (v := ?y3_5_e3_v) rfl (by kernel_rfl) (by kernel_rfl) (by kernel_rfl) (fun _ _ _ h => h) (Or.inl ⟨by rfl, ?y3_5_e3_h⟩) hHeld ?y3_5_e3_r
          case y3_5_e3_h => (intro w hSw; (try dsimp only at hSw); go_simp; all_goals with_reducible rfl)
          (try simp only [Act.put, List.setIfInBounds_toArray, List.set_cons_zero, List.set_cons_succ])
          refine wpAnyH_take (i := 6) (oi := (⟨some 92, .indexAddr 26 (.tmp 90) (.tmp 91), 0, "linear.go:80", #[⟨4, .data⟩, ⟨5, .data⟩], none⟩ : Oper)) (v := ?y3_6_e3_v) rfl (by kernel_rfl) (by kernel_rfl) (by kernel_rfl) (fun _ _ _ h => h) (Or.inl ⟨by rfl, ?y3_6_e3_h⟩) hHeld ?y3_6_e3_r
          case y3_6_e3_h => (intro w hSw; (try dsimp only at hSw); go_simp; all_goals with_reducible rfl)
          (try simp only [Act.put, List.setIfInBounds_toArray, List.set_cons_zero, List.set_cons_succ])
          refine wpAnyH_take (i := 7) (oi := (⟨some 93, .load 37 (.tmp 92), 37, "linear.go:80", #[⟨6, .data⟩], none⟩ : Oper)) (v := ?y3_7_e3_v) rfl (by kernel_rfl) (by kernel_rfl) (by kernel_rfl) (fun _ _ _ h => h) (Or.inl ⟨by rfl, ?y3_7_e3_h⟩) hHeld ?y3_7_e3_r
          case y3_7_e3_h => (intro w hSw; (try dsimp only at hSw); go_simp; all_goals with_reducible rfl)
          (try simp only [Act.put, List.setIfInBounds_toArray, List.set_cons_zero, List.set_cons_succ])
          refine wpAnyH_ready (rs := [0]) (by kernel_rfl) (by simp) ?_
          refine AllReadyH.cons (o := (⟨some 86, .load 37 (.tmp 9), 37, "linear.go:80", #[], none⟩ : Oper)) rfl (fun K hK => ?_) AllReadyH.nil
          go_simp
          first | refine hK.out _ _ ?_ (fun hHeld => ?_) | (go_wp2_with fail; refine hK.out _ _ ?_ (fun hHeld => ?_))
          ·(first | assumption | with_reducible exact HL7.out _ (Stay.drew HS7.out) | with_reducible exact HL7.out _ HT7.out | with_reducible exact HL7.out _ (stay_four HT7.out))
          clear hK K
          (try dsimp only at hHeld)
          (try simp only [Act.put, List.setIfInBounds_toArray, List.set_cons_zero, List.set_cons_succ])
          refine wpAnyH_ready (rs := [8]) (by kernel_rfl) (by simp) ?_
          refine AllReadyH.cons (o := (⟨some 94, .call { callee := .value (.func 52), args := #[.tmp 86, .tmp 93], argTypes := #[37, 37] }, 37, "linear.go:80", #[⟨0, .data⟩, ⟨7, .data⟩], none⟩ : Oper)) rfl (fun K hK => ?_) AllReadyH.nil
          go_simp
          (go_at_call 52; (with_reducible refine (ratmul_any (HDDi.out.below (Below.drew (Below.refl _ _))) (HY.out.below (Below.drew (Below.refl _ _))) rdet rpv (by decide)).mono ?_); rintro e w2 ⟨m1, b1, i3, j1, m2, b2, i4, j2, rfl, hu1, hu2, hbm⟩; have HP := Lib.hid (RatR.mk hu1 hu2 (.inl rfl)); clear hu1 hu2; have HDm := Lib.hid (blk_next (w := W11.drew) HDi.out hbm); have HT7 := Lib.hid (Stay.next (HI7.out _ (by assumption)) hbm); obtain ⟨⟨t0, t1, t2, t3⟩, t4, t5, t6, t7⟩ := res4_facts HDm.out)
          first | refine hK.out _ _ ?_ (fun hHeld => ?_) | (go_wp2_with fail; refine hK.out _ _ ?_ (fun hHeld => ?_))
          ·(first | assumption | with_reducible exact HL7.out _ (Stay.drew HS7.out) | with_reducible exact HL7.out _ HT7.out | with_reducible exact HL7.out _ (stay_four HT7.out))
          clear hK K
          (try dsimp only at hHeld)
          (try simp only [Act.put, List.setIfInBounds_toArray, List.set_cons_zero, List.set_cons_succ])
          refine wpAnyH_ready (rs := [9]) (by kernel_rfl) (by simp) ?_
          refine AllReadyH.cons (o := (⟨none, .store 37 (.tmp 9) (.tmp 94), 0, "linear.go:80", #[⟨8, .data⟩, ⟨8, .chain⟩, ⟨0, .phase⟩, ⟨1, .phase⟩, ⟨2, .phase⟩, ⟨3, .phase⟩, ⟨4, .phase⟩, ⟨5, .phase⟩, ⟨6, .phase⟩, ⟨7, .phase⟩, ⟨8, .phase⟩], none⟩ : Oper)) rfl (fun K hK => ?_) AllReadyH.nil
          go_simp
          first | refine hK.out _ _ ?_ (fun hHeld => ?_) | (go_wp2_with fail; refine hK.out _ _ ?_ (fun hHeld => ?_))
          ·(first | assumption | with_reducible exact HL7.out _ (Stay.drew HS7.out) | with_reducible exact HL7.out _ HT7.out | with_reducible exact HL7.out _ (stay_four HT7.out))
          clear hK K
          (try dsimp only at hHeld)
          (try simp only [Act.put, List.setIfInBounds_toArray, List.set_cons_zero, List.set_cons_succ])
          refine wpAnyH_done (by kernel_rfl) ?_ _
          clear t0 t1 t2 t3 t4 t5 t6 t7 z0 z1 z2 z3 z4 z5 z6 z7 y0 y1 y2 y3 y9 c0
          have hst := set4_stay (r := w8.heap.size) (w := w2) (x := .bool m1) (y := .slice b1 i3 j1) (z := .bool m2) (u := .slice b2 i4 j2)
          have hni := noInt4 HDm.out
          have bd := Below.drew (Below.refl W11.heap.size W11)
          obtain ⟨W3, hW3⟩ : ∃ W', W' = ((((w2.setCell ⟨w8.heap.size, 0, none⟩ (.bool m1)).setCell ⟨w8.heap.size, 1, none⟩ (.slice b1 i3 j1)).setCell ⟨w8.heap.size, 2, none⟩ (.bool m2)).setCell ⟨w8.heap.size, 3, none⟩ (.slice b2 i4 j2)) := ⟨_, rfl⟩
          go_wp2_with fail
          rw [← hW3]
          rw [← hW3] at hst
          have HA3 := Lib.hid (((HAi.out.below bd).below hbm).stay hst (by omega) (fun x hx => by have := (HGx.out x hx).2; omega) hni)
          have HM3 := Lib.hid ((hst.block (w.heap.size + 1 + 1) (by have := (Array.getElem?_eq_some_iff.1 (blk_next (w := W11.drew) HMi.out hbm)).1; omega) (.inl (by omega))).trans (blk_next (w := W11.drew) HMi.out hbm))
          have HZ3 := Lib.hid ((hst.block (w.heap.size) (by have := (Array.getElem?_eq_some_iff.1 (blk_next (w := W11.drew) HZi.out hbm)).1; omega) (.inl (by omega))).trans (blk_next (w := W11.drew) HZi.out hbm))
          have HD3 := Lib.hid (show W3.heap[w8.heap.size]? = some (.cells #[.bool m1, .slice b1 i3 j1, .bool m2, .slice b2 i4 j2] 37 (0, 0)) by rw [hW3]; exact res4_set HDm.out)
          have HDD3 := Lib.hid (HP.out.stay hst (noInt_one hni))
          have HBm := Lib.hid (bt (bt HBi.out bd) hbm)
          have HB3 := Lib.hid (HBm.out.trans (hst.below (show w.heap.size ≤ w8.heap.size by omega) HBm.out.size))
          clear hst hni bd hW3 hbm HDm HT7 HBm HP HAi HMi HZi HDi HDDi HBi HL7 HI7 HS7 HN7
          (with_reducible refine (clear_any (N := 14000000000) HM3.out HA3.out (fun x hx => by have := (HGx.out x hx).1; omega) hrm (show cc < n by omega) NZP.out rall.out (by decide) (by omega) (by omega)).mono ?_)
          rintro e w4 ⟨rfl, hma4, hon4⟩
          have HA4 := Lib.hid hma4
          have HM4 := Lib.hid (hon4.heap (fun ⟨x, hx, e⟩ => by have := (HGx.out x hx).1; (try dsimp only at e); omega) HM3.out)
          have HZ4 := Lib.hid (hon4.heap (fun ⟨x, hx, e⟩ => by have := (HGx.out x hx).1; (try dsimp only at e); omega) HZ3.out)
          have HD4 := Lib.hid (hon4.heap (fun ⟨x, hx, e⟩ => by have := (HGx.out x hx).2; (try dsimp only at e); omega) HD3.out)
          have HDD4 := Lib.hid (HDD3.out.onlyP hon4 HA3.out.noInt)
          have HB4 := Lib.hid (HB3.out.trans (hon4.below (B := w.heap.size) (fun x ⟨i, hi, e⟩ => by have := (HGx.out i hi).1; (try dsimp only at e); omega) HB3.out.size))
          have HS4 := Lib.hid (Run.succ HRun.out (IsStep.piv j hj1 hjl (fun x h1 h2 => HZC.out x h1 h2) NZ.out))
          rw [if_neg hjr] at HS4
          replace HDD4 := Lib.hid (HDD4.out.as (show -s.det * swapR s.A j s.rank s.rank cc = -s.det * s.A j cc by rw [swapR_pivot]))
          clear hma4 hon4 HA3 HM3 HZ3 HD3 HDD3 HB3
          go_wp2
          refine ⟨⟨cc + 1, _, _, m1, b1, i3, j1, m2, b2, i4, j2, ?_, by go_num, by omega, HS4.out, HA4.out, HGx.out, HM4.out, HZ4.out, HD4.out, HDD4.out, HB4.out⟩, ?_⟩
          ·go_num
          ·simp [intOf]; omega
  ·have hkl : k < m := by omega
   have hki : (k : Int) < (m : Int) := by omega
   obtain rfl := H3.out (by omega)
   obtain ⟨a', c', q1, q2⟩ := H4.out k hkl
   have hbl : b < w.heap.size := World.block_lt_of_cell? _ _ q1
   have c2 := keepc HBr.out q1
   have HQ := Lib.hid (q2.below (Below.refl _ _))
   have c0 : wr.cell? ⟨w.heap.size + 1 + 1, 0, none⟩ = some (.slice (some ⟨w.heap.size + 1, 0, none⟩) m m) := by rw [Lib.cell_of_heap HMr.out]; rfl
   have hlt := HR.out.lt
   have hGc : wr.cell? ⟨w.heap.size + 1, k, none⟩ = some (.slice none 0 0) := by
    obtain ⟨T, hT⟩ := HR.out.outer
    rw [Lib.cell_of_heap hT]; simp [hkl]
   have hGf : wr.frozen? ⟨w.heap.size + 1, k, none⟩ = false := by
    obtain ⟨T, hT⟩ := HR.out.outer
    exact Lib.frozen_of_heap hT k
   clear q1 q2
   go_wp2_with fail
   have HL := Lib.hid (fun (w' : World) (hs : Stay (w.heap.size + 1) (w.heap.size + 1 + 1) wr w') => (⟨hs, hs.cell (.inr (by omega)) c0, hs.cell (.inl (by omega)) c2⟩ : Stay (w.heap.size + 1) (w.heap.size + 1 + 1) wr w' ∧ w'.cell? ⟨w.heap.size + 1 + 1, 0, none⟩ = some (.slice (some ⟨w.heap.size + 1, 0, none⟩) m m) ∧ w'.cell? ⟨b, o + k, none⟩ = some (.slice a' n c')))
   have HI := Lib.hid (fun (w' : World) (hs : Stay (w.heap.size + 1) (w.heap.size + 1 + 1) wr w' ∧ w'.cell? ⟨w.heap.size + 1 + 1, 0, none⟩ = some (.slice (some ⟨w.heap.size + 1, 0, none⟩) m m) ∧ w'.cell? ⟨b, o + k, none⟩ = some (.slice a' n c')) => hs.1)
   have HS := Lib.hid (Stay.refl (w.heap.size + 1) (w.heap.size + 1 + 1) wr)
   go_region_held3 (fun w' => Stay (w.heap.size + 1) (w.heap.size + 1 + 1) wr w' ∧ w'.cell? ⟨w.heap.size + 1 + 1, 0, none⟩ = some (.slice (some ⟨w.heap.size + 1, 0, none⟩) m m) ∧ w'.cell? ⟨b, o + k, none⟩ = some (.slice a' n c'))
    (first | assumption | exact HL.out _ (Stay.drew HS.out) | exact HL.out _ (Stay.next (HI.out _ (by assumption)) (allocs_below1 _ _)) | exact HL.out _ (Stay.drew (Stay.next HS.out (allocs_below1 _ _))) | exact HL.out _ (Stay.next (Stay.setCell HS.out (Nat.le_refl _) (Nat.lt_succ_self _) _ _) (allocs_below1 _ _)) | exact HL.out _ (Stay.drew (Stay.next (Stay.setCell HS.out (Nat.le_refl _) (Nat.lt_succ_self _) _ _) (allocs_below1 _ _))))
    (first | fail)
   -- BEHIND5
   -- BEHIND5
   -- BEHIND5
   -- BEHIND5
   -- BEHIND5
   -- BEHIND5
   -- BEHIND5
   -- BEHIND5
   -- BEHIND5
   -- BEHIND5
   -- BEHIND5
   -- BEHIND5
   -- BEHIND5
   -- BEHIND5
   -- BEHIND5
   go_wp2
   obtain ⟨W5, hW5⟩ : ∃ W', W' = ((wr.setCell ⟨w.heap.size + 1, k, none⟩ (.slice (some ⟨wr.heap.size, 0, none⟩) n n)).alloc (.cells (madeCells #[.bool false, .slice none 0 0, .bool false, .slice none 0 0] (n * 4)) 37)).drew := ⟨_, rfl⟩
   rw [← hW5]
   have T5 := Lib.hid (show Stay (w.heap.size + 1) (w.heap.size + 1 + 1) wr W5 by rw [hW5]; exact Stay.drew (Stay.next (Stay.setCell HS.out (Nat.le_refl _) (Nat.lt_succ_self _) _ _) (allocs_below1 _ _)))
   have G5 := Lib.hid (show ∀ (T : TypeId) (cs : Array Value), wr.heap[w.heap.size + 1]? = some (.cells cs T (0, 0)) → W5.heap[w.heap.size + 1]? = some (.cells (cs.setIfInBounds k (.slice (some ⟨wr.heap.size, 0, none⟩) n n)) T (0, 0)) by
    intro T cs h
    rw [hW5]
    exact blk_next (blk_next (Joins.block_setCell h _) (allocs_below1 _ _)) (Below.drew (Below.refl _ _)))
   have N5 := Lib.hid (show W5.heap[wr.heap.size]? = some (.cells (madeCells #[.bool false, .slice none 0 0, .bool false, .slice none 0 0] (n * 4)) 37 (0, 0)) by
    rw [hW5]
    simpa using alloc_at_d (wr.setCell ⟨w.heap.size + 1, k, none⟩ (.slice (some ⟨wr.heap.size, 0, none⟩) n n)) (.cells (madeCells #[.bool false, .slice none 0 0, .bool false, .slice none 0 0] (n * 4)) 37))
   have hz5 : wr.heap.size < W5.heap.size := (Array.getElem?_eq_some_iff.1 N5.out).1
   have B5 := Lib.hid (HBr.out.trans (T5.out.below (show w.heap.size ≤ w.heap.size + 1 by omega) HBr.out.size))
   replace c0 := T5.out.cell (.inr (by omega)) c0
   replace c2 := T5.out.cell (.inl (by omega)) c2
   have c3 : W5.cell? ⟨w.heap.size + 1, k, none⟩ = some (.slice (some ⟨wr.heap.size, 0, none⟩) n n) := by
    obtain ⟨T, hT⟩ := HR.out.outer
    rw [Lib.cell_of_heap (G5.out T _ hT)]
    simp [hkl]
   obtain ⟨L, hL, ⟨a2, b2, o2, c2', hv, r2, r3, r4, r5⟩, r6⟩ := HQ.out
   have R4 := Lib.hid r4
   have R5 := Lib.hid (fun (kk : Nat) (x : Num) (hx : L[kk]? = some x) => (r5 kk x hx).below0 (B5.out))
   have R6 := Lib.hid r6
   have HLn := Lib.hid hL
   obtain ⟨rfl, rfl⟩ : a' = a2 ∧ c' = c2' := by
    rw [hL] at hv
    injection hv with e1 e2 e3
    exact ⟨e1, e3⟩
   clear hGc hGf hW5 r4 r5 r6 hL hv r2 r3
   have hMl := (Array.getElem?_eq_some_iff.1 HMr.out).1
   have hbw := HBr.out.size
   have HL6 := Lib.hid (fun (w' : World) (hs : Stay (wr.heap.size) (wr.heap.size + 1) W5 w') => (⟨hs, hs.cell (.inl (by omega)) c0, hs.cell (.inl (by omega)) c3, hs.cell (.inl (by omega)) c2⟩ : Stay (wr.heap.size) (wr.heap.size + 1) W5 w' ∧ w'.cell? ⟨w.heap.size + 1 + 1, 0, none⟩ = some (.slice (some ⟨w.heap.size + 1, 0, none⟩) m m) ∧ w'.cell? ⟨w.heap.size + 1, k, none⟩ = some (.slice (some ⟨wr.heap.size, 0, none⟩) n n) ∧ w'.cell? ⟨b, o + k, none⟩ = some (.slice a' n c')))
   have HI6 := Lib.hid (fun (w' : World) (hs : Stay (wr.heap.size) (wr.heap.size + 1) W5 w' ∧ w'.cell? ⟨w.heap.size + 1 + 1, 0, none⟩ = some (.slice (some ⟨w.heap.size + 1, 0, none⟩) m m) ∧ w'.cell? ⟨w.heap.size + 1, k, none⟩ = some (.slice (some ⟨wr.heap.size, 0, none⟩) n n) ∧ w'.cell? ⟨b, o + k, none⟩ = some (.slice a' n c')) => hs.1)
   have HS6 := Lib.hid (Stay.refl (wr.heap.size) (wr.heap.size + 1) W5)
   refine wp_region_held_drew (S := fun w' => Stay (wr.heap.size) (wr.heap.size + 1) W5 w' ∧ w'.cell? ⟨w.heap.size + 1 + 1, 0, none⟩ = some (.slice (some ⟨w.heap.size + 1, 0, none⟩) m m) ∧ w'.cell? ⟨w.heap.size + 1, k, none⟩ = some (.slice (some ⟨wr.heap.size, 0, none⟩) n n) ∧ w'.cell? ⟨b, o + k, none⟩ = some (.slice a' n c')) (by kernel_rfl) ?_ (fun hHeld => ?_)
   ·(first | assumption | exact HL6.out _ (Stay.drew HS6.out) | exact HL6.out _ T6.out)
   (try dsimp only at hHeld)
   refine wpAnyH_take (i := 0) (oi := (⟨some 32, .load 70 (.tmp 7), 70, "linear.go:54", #[], none⟩ : Oper)) (v := ?y1_1_v) rfl (by kernel_rfl) (by kernel_rfl) (by kernel_rfl) (fun _ _ _ h => h) (Or.inl ⟨by rfl, ?y1_1_h⟩) hHeld ?y1_1_r
   case y1_1_h => (intro w hSw; (try dsimp only at hSw); go_simp; all_goals with_reducible rfl)
   (try simp only [Act.put, List.setIfInBounds_toArray, List.set_cons_zero, List.set_cons_succ])
   refine wpAnyH_take (i := 1) (oi := (⟨some 33, .move (.tmp 8), 3, "linear.go:54", #[], none⟩ : Oper)) (v := ?y1_2_v) rfl (by kernel_rfl) (by kernel_rfl) (by kernel_rfl) (fun _ _ _ h => h) (Or.inl ⟨by rfl, ?y1_2_h⟩) hHeld ?y1_2_r
   case y1_2_h => (intro w hSw; (try dsimp only at hSw); go_simp; all_goals with_reducible rfl)
   (try simp only [Act.put, List.setIfInBounds_toArray, List.set_cons_zero, List.set_cons_succ])
   refine wpAnyH_take (i := 2) (oi := (⟨some 34, .indexAddr 70 (.tmp 32) (.tmp 33), 0, "linear.go:54", #[⟨0, .data⟩, ⟨1, .data⟩], none⟩ : Oper)) (v := ?y1_3_v) rfl (by kernel_rfl) (by kernel_rfl) (by kernel_rfl) (fun _ _ _ h => h) (Or.inl ⟨by rfl, ?y1_3_h⟩) hHeld ?y1_3_r
   case y1_3_h => (intro w hSw; (try dsimp only at hSw); go_simp; all_goals with_reducible rfl)
   (try simp only [Act.put, List.setIfInBounds_toArray, List.set_cons_zero, List.set_cons_succ])
   refine wpAnyH_take (i := 3) (oi := (⟨some 35, .load 26 (.tmp 34), 26, "linear.go:54", #[⟨2, .data⟩], none⟩ : Oper)) (v := ?y1_4_v) rfl (by kernel_rfl) (by kernel_rfl) (by kernel_rfl) (fun _ _ _ h => h) (Or.inl ⟨by rfl, ?y1_4_h⟩) hHeld ?y1_4_r
   case y1_4_h => (intro w hSw; (try dsimp only at hSw); go_simp; all_goals with_reducible rfl)
   (try simp only [Act.put, List.setIfInBounds_toArray, List.set_cons_zero, List.set_cons_succ])
   refine wpAnyH_take (i := 4) (oi := (⟨some 36, .move (.tmp 0), 70, "linear.go:54", #[], none⟩ : Oper)) (v := ?y1_5_v) rfl (by kernel_rfl) (by kernel_rfl) (by kernel_rfl) (fun _ _ _ h => h) (Or.inl ⟨by rfl, ?y1_5_h⟩) hHeld ?y1_5_r
   case y1_5_h => (intro w hSw; (try dsimp only at hSw); go_simp; all_goals with_reducible rfl)
   (try simp only [Act.put, List.setIfInBounds_toArray, List.set_cons_zero, List.set_cons_succ])
   refine wpAnyH_take (i := 5) (oi := (⟨some 37, .move (.tmp 8), 3, "linear.go:54", #[], none⟩ : Oper)) (v := ?y1_6_v) rfl (by kernel_rfl) (by kernel_rfl) (by kernel_rfl) (fun _ _ _ h => h) (Or.inl ⟨by rfl, ?y1_6_h⟩) hHeld ?y1_6_r
   case y1_6_h => (intro w hSw; (try dsimp only at hSw); go_simp; all_goals with_reducible rfl)
   (try simp only [Act.put, List.setIfInBounds_toArray, List.set_cons_zero, List.set_cons_succ])
   refine wpAnyH_take (i := 6) (oi := (⟨some 38, .indexAddr 70 (.tmp 36) (.tmp 37), 0, "linear.go:54", #[⟨4, .data⟩, ⟨5, .data⟩], none⟩ : Oper)) (v := ?y1_7_v) rfl (by kernel_rfl) (by kernel_rfl) (by kernel_rfl) (fun _ _ _ h => h) (Or.inl ⟨by rfl, ?y1_7_h⟩) hHeld ?y1_7_r
   case y1_7_h => (intro w hSw; (try dsimp only at hSw); go_simp; all_goals with_reducible rfl)
   (try simp only [Act.put, List.setIfInBounds_toArray, List.set_cons_zero, List.set_cons_succ])
   refine wpAnyH_take (i := 7) (oi := (⟨some 39, .load 26 (.tmp 38), 26, "linear.go:54", #[⟨6, .data⟩], none⟩ : Oper)) (v := ?y1_8_v) rfl (by kernel_rfl) (by kernel_rfl) (by kernel_rfl) (fun _ _ _ h => h) (Or.inl ⟨by rfl, ?y1_8_h⟩) hHeld ?y1_8_r
   case y1_8_h => (intro w hSw; (try dsimp only at hSw); go_simp; all_goals with_reducible rfl)
   (try simp only [Act.put, List.setIfInBounds_toArray, List.set_cons_zero, List.set_cons_succ])
   refine wpAnyH_ready (rs := [8]) (by kernel_rfl) (by simp) ?_
   refine AllReadyH.cons (o := (⟨some 40, .call { callee := .builtin .copy, args := #[.tmp 35, .tmp 39], argTypes := #[26, 26] }, 3, "linear.go:54", #[⟨3, .data⟩, ⟨7, .data⟩], none⟩ : Oper)) rfl (fun K hK => ?_) AllReadyH.nil
   (refine step_copy_wide rfl (.tmp 35) (.tmp 39) 26 26 rfl 37 4 Tryz.underlying26 sizeQ (some ⟨wr.heap.size, 0, none⟩) a' n n n c' n rfl rfl wr.heap.size (madeCells #[.bool false, .slice none 0 0, .bool false, .slice none 0 0] (n * 4)) 37 N5.out (flat L) (by simp) (by rw [flat_length, HLn.out]) (fun hn0 => ⟨rfl, ⟨b2, o2, none⟩, R4.out (by rw [HLn.out]; exact hn0), flat_src (fun kk x hx => (R5.out kk x hx).below (Below.drew (Below.refl _ _)))⟩) (by rw [flat_length, size_madeCells, HLn.out]) (fun v hv => (flat_one v hv).1) ?_; intro w6 hg6 hs6; have N6 := Lib.hid hg6; have T6 := Lib.hid (show Stay (wr.heap.size) (wr.heap.size + 1) W5 w6 from ⟨hs6.os, hs6.tape, hs6.output, hs6.size, hs6.block⟩); clear hg6 hs6)
   first | refine hK.out _ _ ?_ (fun hHeld => ?_) | (go_wp2_with fail; refine hK.out _ _ ?_ (fun hHeld => ?_))
   ·(first | assumption | exact HL6.out _ (Stay.drew HS6.out) | exact HL6.out _ T6.out)
   clear hK K
   (try dsimp only at hHeld)
   (try simp only [Act.put, List.setIfInBounds_toArray, List.set_cons_zero, List.set_cons_succ])
   refine wpAnyH_done (by kernel_rfl) ?_ _
   have MB6 := Lib.hid (HR.out.next (T5.out.fresh T6.out (Nat.le_refl _)) (fun T cs h => (T6.out.block _ (Nat.lt_of_lt_of_le hlt T5.out.size) (.inl (by omega))).trans (G5.out T cs h)) N6.out (Nat.le_refl _) HLn.out (R6.out.below0 HBr.out))
   have hM6 := Lib.hid ((T6.out.block (w.heap.size + 1 + 1) (by have := T5.out.size; have := (Array.getElem?_eq_some_iff.1 HMr.out).1; omega) (.inl (Array.getElem?_eq_some_iff.1 HMr.out).1)).trans ((T5.out.block (w.heap.size + 1 + 1) (Array.getElem?_eq_some_iff.1 HMr.out).1 (.inr (by omega))).trans HMr.out))
   have hZ6 := Lib.hid ((T6.out.block (w.heap.size) (by have := T5.out.size; have := (Array.getElem?_eq_some_iff.1 HZr.out).1; omega) (.inl (Array.getElem?_eq_some_iff.1 HZr.out).1)).trans ((T5.out.block (w.heap.size) (Array.getElem?_eq_some_iff.1 HZr.out).1 (.inl (by omega))).trans HZr.out))
   have hB6 := Lib.hid (B5.out.trans (T6.out.below HBr.out.size B5.out.size))
   have hg6 : ∀ x, x < k + 1 → w.heap.size + 1 + 1 < (if x = k then wr.heap.size else g x) := fun x hx => by
     split
     ·exact (Array.getElem?_eq_some_iff.1 HMr.out).1
     ·exact HGM.out x (by omega)
   have HG6 := Lib.hid hg6
   clear hg6 c0 c2 c3
   go_wp2
   refine ⟨⟨k + 1, fun x => if x = k then wr.heap.size else g x, by go_num, by omega, MB6.out, HG6.out, hM6.out, hZ6.out, hB6.out⟩, ?_⟩
   simp [intOf]; omega
end Go.Proofs.YteionhenpehogaaGreatDoor
