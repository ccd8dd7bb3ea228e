import Derived.Test.YteionhenpehogaaGreatDoorLinF
import Derived.Test.YteionhenpehogaaGreatDoorLinA
import Derived.Test.YteionhenpehogaaGreatDoorMat
import Derived.Test.YteionhenpehogaaGreatDoorRatC
import Derived.Test.YteionhenpehogaaGreatDoorPlainZ
import Derived.Test.YteionhenpehogaaGreatDoorLinS
namespace Go.Proofs.YteionhenpehogaaGreatDoor
open Go.RowKit Tally
theorem MatsR.even {w : World} {v : Value} {m : Nat} {L : Nat → Nat} {A : Mx} (h : MatsR w v m L A) (hv : IsMat m L) : MatsR w v m (fun _ => colsN m L) A := h.congr (fun i hi => hv.1 i hi) (fun _ _ _ _ => rfl)
end Go.Proofs.YteionhenpehogaaGreatDoor
namespace Go.Proofs.YteionhenpehogaaGreatDoor
open Go.RowKit Tally
theorem Four.at {B : Nat} {w w' : World} {b o : Nat} {x : Num} (h : Four w b o x) (hb : Below B w w') (hB : B = w.heap.size := by rfl) : Four w' b o x := by subst hB; exact h.below hb
end Go.Proofs.YteionhenpehogaaGreatDoor
namespace Go.Proofs.YteionhenpehogaaGreatDoor
open Go.RowKit Tally
end Go.Proofs.YteionhenpehogaaGreatDoor
namespace Go.Proofs.YteionhenpehogaaGreatDoor
open Go.RowKit Tally
end Go.Proofs.YteionhenpehogaaGreatDoor
namespace Go.Proofs.YteionhenpehogaaGreatDoor
open Go.RowKit Tally
theorem alloc1_d (w : World) (a : Obj) : ∃ W, W = (w.alloc a).drew ∧ W.heap.size = w.heap.size + 1 ∧ Below w.heap.size w W ∧ W.heap[w.heap.size]? = some a :=
 ⟨_, rfl, by simp [World.drew], Below.drew ((Below.refl _ _).alloc (Nat.le_refl _) _), heap_alloc_new w a⟩
theorem row_cells {w : World} {g : Nat} {x : Num} {T : TypeId} (h : w.heap[g]? = some (.cells #[.bool x.n1, .slice x.a1 x.k1 x.c1, .bool x.n2, .slice x.a2 x.k2 x.c2] T (0, 0))) : ∀ j u, (flat [x])[j]? = some u → w.cell? ((⟨g, 0, none⟩ : Addr).add j) = some u := by
 intro j u hu
 have hadd : (⟨g, 0, none⟩ : Addr).add j = ⟨g, j, none⟩ := by unfold Addr.add; split <;> simp_all
 rw [hadd, Lib.cell_of_heap h]
 simpa [flat] using hu
theorem row_one {w : World} {g : Nat} {v : Value} {T : TypeId} (h : w.heap[g]? = some (.cells #[v] T (0, 0))) : ∀ j u, [v][j]? = some u → w.cell? ((⟨g, 0, none⟩ : Addr).add j) = some u := by
 intro j u hu
 have hadd : (⟨g, 0, none⟩ : Addr).add j = ⟨g, j, none⟩ := by unfold Addr.add; split <;> simp_all
 rw [hadd, Lib.cell_of_heap h]
 simpa using hu
theorem one_cell {w : World} {v : Value} {n : Nat} {f : Nat → Rat} (h : RatsR w v n f) : ∀ u ∈ [v], u.oneCell' = true := by
 obtain ⟨a, c, rfl⟩ := h.shape
 intro u hu
 obtain rfl : u = _ := by simpa using hu
 rfl
theorem only_sl {w : World} {v : Value} {n : Nat} {f : Nat → Rat} (h : RatsR w v n f) : ∀ u ∈ [v], OnlySl u := by
 obtain ⟨a, c, rfl⟩ := h.shape
 intro u hu
 obtain rfl : u = _ := by simpa using hu
 exact ⟨_, _, _, rfl⟩
theorem only_sl0 : ∀ u ∈ (Value.slice none 0 0).cells, OnlySl u := by
 intro u hu
 have e : (Value.slice none 0 0).cells = #[.slice none 0 0] := rfl
 rw [e] at hu
 obtain rfl : u = _ := by simpa using hu
 exact ⟨_, _, _, rfl⟩
theorem rats_wide {w : World} {base m k : Nat} {v : Value} {Lr : List Num} {t : Num} {A : Mx} {y : Nat → Rat} (ho : OwnG notInt w base 37 4 v (0 + m + 1) ([] ++ flat Lr ++ flat [t])) (hl : Lr.length = m) (hn : NumsR w Lr (A k)) (ht : RatN w t (y k)) : RatsR w v (m + 1) (wideM m A y k) := by
 have e : flat (Lr ++ [t]) = [] ++ flat Lr ++ flat [t] := by rw [flat_append]; rfl
 rw [← e, Nat.zero_add] at ho
 refine ⟨Lr ++ [t], by simp [hl], OwnG.sli ho (by simp [hl]), fun j x hx => ?_⟩
 by_cases hj : j < m
 ·rw [List.getElem?_append_left (by omega)] at hx
  have := hn j x hx
  simpa [wideM, hj] using this
 ·rw [List.getElem?_append_right (by omega)] at hx
  have hj1 : j - Lr.length < 1 := by have := (List.getElem?_eq_some_iff.1 hx).1; simpa using this
  obtain rfl : j = m := by omega
  rw [hl, Nat.sub_self] at hx
  obtain rfl : t = x := by simpa using hx
  simpa [wideM] using ht
set_option maxHeartbeats 4000000 in
set_option maxRecDepth 100000 in
theorem solve_new {w : World} {v u : Value} {m N : Nat} {L : Nat → Nat} {A : Mx} {y : Nat → Rat} (h : MatsR w v m L A) (hv : IsMat m L) (hsq : m = colsN m L) (hy : RatsR w u m y) (hN : ∀ i, i < m → RowD N (m + 1) (wideM m A y i)) (hNN : N ≤ 100) :
  Calls Tryz.prog 32 #[v, u] w fun e w' => ∃ s : St, Run upR m (wideM m A y) m s ∧ Below w.heap.size w w' ∧
   ((s.rank < m ∧ e = .returned (.tuple #[.slice none 0 0, .int .i64 14])) ∨ (s.rank = m ∧ ∃ a c, e = .returned (.tuple #[.slice a m c, .int .i64 0]) ∧ RatsR w' (.slice a m c) m (fun i => s.A i m / s.A i i) ∧ ∀ g, (Value.slice a m c).ownBlock = some g → w.heap.size ≤ g)) := by
 obtain ⟨i1, hi1, hz10, hz11, hz12⟩ := info_parts infoS
 obtain ⟨i2, hi2, hz20, hz21, hz22⟩ := info_parts infoQ4
 have H := Lib.hid h
 have HV := Lib.hid hv
 have HSQ := Lib.hid hsq
 have HN := Lib.hid hN
 obtain ⟨a, c, rfl⟩ := h.shape
 obtain ⟨a2, c2, rfl⟩ := hy.shape
 have h24 := hv.2.1
 obtain ⟨_, _, b, o, h3, h4⟩ := (show MatsR w (.slice a m c) m (fun _ => m) A from by have := h.even hv; rw [← hsq] at this; exact this).parts
 obtain ⟨_, _, b2, o2, k3, k4⟩ := hy.parts
 have H3 := Lib.hid h3
 have H4 := Lib.hid h4
 have K3 := Lib.hid k3
 have K4 := Lib.hid k4
 have hq : ((m : Int) == (m : Int)) = true := beq_self_eq_true _
 clear h hv hsq hy h3 h4 k3 k4 hN
 go_enter Tryz.func32, Tryz.ntmps32
 go_wp2_with fail
 refine (square_any H.out true (iff_of_true rfl ⟨HV.out, HSQ.out⟩)).mono ?_
 rintro e w' ⟨rfl, hww⟩
 obtain rfl := hww.symm
 go_wp2
 go_loopw [6, 29] (fun s i wr => ∃ (k : Nat) (V : List Value) (sv : Value), sv = s ∧ i = .int .i64 k ∧ k ≤ m ∧ BuildM w.heap.size wr s V k (fun _ => m + 1) (wideM m A y) ∧ Below w.heap.size w wr) (fun _ i _ => m - (intOf i).toNat)
 case atStart => exact ⟨0, [], _, rfl, rfl, by omega, BuildM.start _ _ _ _, Below.refl _ _⟩
 case round =>
  obtain ⟨k, V, s, rfl, rfl, hk, hbn, hbr⟩ := hrel
  have HM := Lib.hid hbn
  have HB := Lib.hid hbr
  clear hbn hbr
  by_cases hkm : k = m
  ·obtain rfl : m = k := hkm.symm
   obtain ⟨a', c', rfl, hmr⟩ := HM.out.mats
   have HMR := Lib.hid hmr
   clear hmr
   go_wp2_with fail
   (with_reducible refine (eliminated_any HMR.out (show m ≤ m + 1 by omega) (by omega) (by omega) HN.out hNN).mono ?_)
   rintro e w1 ⟨s, a3, cp3, n1, a1, k1, c1, n2, a4, k2, c3, hrun, rfl, hmm, hd, hb⟩
   have HRun := Lib.hid hrun
   have HMM := Lib.hid hmm
   have HB1 := Lib.hid (bt HB.out hb)
   have hrk := hrun.rank_le
   clear hrun hmm hd hb
   by_cases hr : s.rank < m
   ·have hri : (s.rank : Int) < (m : Int) := by omega
    go_wp2
    go_ret2
    exact ⟨s, HRun.out, bt HB1.out (allocs_below1 _ _), .inl ⟨hr, rfl⟩⟩
   ·have hri : ¬ (s.rank : Int) < (m : Int) := by omega
    go_wp2
    obtain ⟨W2, hW, hs2, hb2, b2x⟩ := alloc1 w1 (.cells #[.bool n1, .slice a1 k1 c1, .bool n2, .slice a4 k2 c3] 37)
    rw [← hW]
    have HB2 := Lib.hid (bt HB1.out hb2)
    have HMX := Lib.hid (HMM.out.below hb2)
    clear hW hs2 hb2 b2x HMM HB1
    have hrk2 : s.rank = m := by omega
    have DG := Lib.hid (run_diag HRun.out hrk2)
    have HRK := Lib.hid hrk2
    clear hrk2
    have rows := run_rows_up HRun.out (show m ≤ m + 1 by omega) HN.out
    have hsm := dgs_small (N := N) (c := m) hNN (by omega)
    obtain ⟨_, _, b4, o4, m3, m4⟩ := HMX.out.parts
    have M3 := Lib.hid m3
    have M4 := Lib.hid m4
    clear m3 m4
    go_loopw [12, 61] (fun sl i wr => ∃ (k : Nat) (Ls : List Num) (sv : Value), sv = sl ∧ i = .int .i64 k ∧ k ≤ m ∧ BuildN W2.heap.size wr sl Ls k (fun i => s.A i m / s.A i i) ∧ Below W2.heap.size W2 wr) (fun _ i _ => m - (intOf i).toNat)
    case atStart => exact ⟨0, [], _, rfl, rfl, by omega, BuildN.start _ _ _, Below.refl _ _⟩
    case round =>
     obtain ⟨k, Ls, sl, rfl, rfl, hk, hbn, hbr⟩ := hrel
     have HNl := Lib.hid hbn
     have HBl := Lib.hid hbr
     clear hbn hbr
     by_cases hkm : k = m
     ·obtain rfl : m = k := hkm.symm
      obtain ⟨a', c', rfl, hrr⟩ := HNl.out.rats
      have HRR := Lib.hid hrr
      clear hrr
      go_wp2
      go_ret2
      exact ⟨s, HRun.out, bt HB2.out HBl.out, .inr ⟨HRK.out, a', c', rfl, HRR.out, fun g hg => Nat.le_trans (bt HB2.out (Below.refl _ _)).size (HNl.out.own.own.lt g hg).1⟩⟩
     ·have hkl : k < m := by omega
      have hki : (k : Int) < (m : Int) := by omega
      have hkm1 : (k : Int) < ((m + 1 : Nat) : Int) := by omega
      have hmm1 : (m : Int) < ((m + 1 : Nat) : Int) := by omega
      have hmm3 : (m : Int) < (m : Int) + 1 := by omega
      have hkm3 : (k : Int) < (m : Int) + 1 := by omega
      obtain rfl := M3.out (by omega)
      obtain ⟨a5, c5, q1, q2⟩ := M4.out k hkl
      have e0 := keepc HBl.out q1
      obtain ⟨_, _, b5, o5, p3, p4⟩ := (q2.below HBl.out).parts
      obtain rfl := p3 (by omega)
      obtain ⟨x, hx4, hxq⟩ := p4 m (by omega)
      obtain ⟨z, hz4, hzq⟩ := p4 k (by omega)
      obtain ⟨x0, x1, x2, x3⟩ := hx4
      obtain ⟨z0, z1, z2, z3⟩ := hz4
      have HX := Lib.hid (show RatR wr (.agg #[.bool x.n1, .slice x.a1 x.k1 x.c1, .bool x.n2, .slice x.a2 x.k2 x.c2]) (s.A k m) from hxq)
      have HZ := Lib.hid (show RatR wr (.agg #[.bool z.n1, .slice z.a1 z.k1 z.c1, .bool z.n2, .slice z.a2 z.k2 z.c2]) (s.A k k) from hzq)
      have NZ := Lib.hid (DG.out.1 k hkl)
      have rx : Rg 14000000000 (s.A k m) := (Rg.of ((rows k hkl).fw (show m < m + 1 by omega))).mono (by omega)
      have rz : Rg 14000000000 (s.A k k) := (Rg.of ((rows k hkl).fw (show k < m + 1 by omega))).mono (by omega)
      clear q1 q2 p3 p4 hxq hzq
      rename World => wo
      go_wp2_with fail
      go_cut [15] (fun s15 wx => BlkR wo.heap.size 37 (s.A k m / s.A k k) s15 wx ∧ Below wo.heap.size wo wx)
      case first =>
       have HL := Lib.hid (fun (w' : World) (hb : Below wo.heap.size wo w') => (⟨hb, keepc hb x0, keepc hb x1, keepc hb x2, keepc hb x3, keepc hb z0, keepc hb z1, keepc hb z2, keepc hb z3⟩ : Below wo.heap.size wo w' ∧ w'.cell? ⟨b5, o5 + m * 4, none⟩ = some (.bool x.n1) ∧ w'.cell? ⟨b5, o5 + m * 4 + 1, none⟩ = some (.slice x.a1 x.k1 x.c1) ∧ w'.cell? ⟨b5, o5 + m * 4 + 2, none⟩ = some (.bool x.n2) ∧ w'.cell? ⟨b5, o5 + m * 4 + 3, none⟩ = some (.slice x.a2 x.k2 x.c2) ∧ w'.cell? ⟨b5, o5 + k * 4, none⟩ = some (.bool z.n1) ∧ w'.cell? ⟨b5, o5 + k * 4 + 1, none⟩ = some (.slice z.a1 z.k1 z.c1) ∧ w'.cell? ⟨b5, o5 + k * 4 + 2, none⟩ = some (.bool z.n2) ∧ w'.cell? ⟨b5, o5 + k * 4 + 3, none⟩ = some (.slice z.a2 z.k2 z.c2)))
       have HI := Lib.hid (fun (w' : World) (hs : Below wo.heap.size wo w' ∧ w'.cell? ⟨b5, o5 + m * 4, none⟩ = some (.bool x.n1) ∧ w'.cell? ⟨b5, o5 + m * 4 + 1, none⟩ = some (.slice x.a1 x.k1 x.c1) ∧ w'.cell? ⟨b5, o5 + m * 4 + 2, none⟩ = some (.bool x.n2) ∧ w'.cell? ⟨b5, o5 + m * 4 + 3, none⟩ = some (.slice x.a2 x.k2 x.c2) ∧ w'.cell? ⟨b5, o5 + k * 4, none⟩ = some (.bool z.n1) ∧ w'.cell? ⟨b5, o5 + k * 4 + 1, none⟩ = some (.slice z.a1 z.k1 z.c1) ∧ w'.cell? ⟨b5, o5 + k * 4 + 2, none⟩ = some (.bool z.n2) ∧ w'.cell? ⟨b5, o5 + k * 4 + 3, none⟩ = some (.slice z.a2 z.k2 z.c2)) => hs.1)
       have HS := Lib.hid (Below.refl wo.heap.size wo)
       clear HNl HBl e0 x0 x1 x2 x3 z0 z1 z2 z3
       go_region_held3 (fun w' => Below wo.heap.size wo w' ∧ w'.cell? ⟨b5, o5 + m * 4, none⟩ = some (.bool x.n1) ∧ w'.cell? ⟨b5, o5 + m * 4 + 1, none⟩ = some (.slice x.a1 x.k1 x.c1) ∧ w'.cell? ⟨b5, o5 + m * 4 + 2, none⟩ = some (.bool x.n2) ∧ w'.cell? ⟨b5, o5 + m * 4 + 3, none⟩ = some (.slice x.a2 x.k2 x.c2) ∧ w'.cell? ⟨b5, o5 + k * 4, none⟩ = some (.bool z.n1) ∧ w'.cell? ⟨b5, o5 + k * 4 + 1, none⟩ = some (.slice z.a1 z.k1 z.c1) ∧ w'.cell? ⟨b5, o5 + k * 4 + 2, none⟩ = some (.bool z.n2) ∧ w'.cell? ⟨b5, o5 + k * 4 + 3, none⟩ = some (.slice z.a2 z.k2 z.c2))
        (first | assumption | with_reducible exact HL.out _ HZ0.out | with_reducible exact HL.out _ (Below.drew HS.out) | with_reducible exact HL.out _ (Below.drew (allocs_below1 _ _)) | with_reducible exact HL.out _ (bt (HI.out _ (by assumption)) (allocs_below1 _ _)) | with_reducible exact HL.out _ (bt HZ0.out (allocs_below1 _ _)) | with_reducible exact HL.out _ (held_set4 HZ0.out (by first | exact Nat.le_refl _ | exact HZ0.out.size)))
        (first | (go_at_call 86; (with_reducible refine ((ratdiv_any (HX.out.below (HI.out _ (by assumption))) (HZ.out.below (HI.out _ (by assumption))) rx rz (by decide) NZ.out).mono fun _ _ h => h.plain).mono ?_); rintro e wk0 ⟨m3, b3, j3, r3, m4, b6, j4, r4, rfl, hu3, hbr0⟩; have HF := Lib.hid hu3; clear hu3; have HZ0 := Lib.hid (bt (HI.out _ (by assumption)) hbr0); (first | with_reducible (have HP1 := Lib.hid (one_next_d hbr0)) | with_reducible (have HP1 := Lib.hid (one_next hbr0)) | skip); try (have HPC := res4_facts HP1.out; obtain ⟨⟨d0, d1, d2, d3⟩, e1, e2, e3, e4⟩ := HPC)))
       all_goals (try go_wp2_with fail)
       all_goals go_meet
       all_goals (first | with_reducible exact blkR_set HP1.out HF.out (by first | exact Nat.le_refl _ | exact HZ0.out.size) HZ0.out | with_reducible exact blkR_new HF.out (Nat.le_refl _) HZ0.out)
      case rest =>
      obtain ⟨⟨bf, f1, f2, f3, f4, f5, f6, f7, f8, rfl, hblk, hf, hgf⟩, hbc⟩ := hcut
      have HF := Lib.hid (show RatN wc ⟨f1, f2, f3, f4, f5, f6, f7, f8⟩ (s.A k m / s.A k k) from hf)
      have HNc := Lib.hid (HNl.out.below hbc)
      have HBc := Lib.hid (bt HBl.out hbc)
      obtain ⟨⟨g0, g1, g2, g3⟩, _, _, _, _⟩ := res4_facts hblk
      have HO := Lib.hid (HNc.out.own)
      have hlen := HNc.out.len
      have hbs := HBc.out.size
      clear hf hblk hgf hbc HX HZ x0 x1 x2 x3 z0 z1 z2 z3 e0
      go_wp2_with (at_builtin; refine wpList_append_free _ rfl _ _ 26 rfl W2.heap.size 37 i2 (.agg #[.bool false, .slice none 0 0, .bool false, .slice none 0 0]) 4 64 Tryz.underlying26 hi2 hz20 hz21 hz22 rfl (by decide) _ _ _ rfl (HO.out.below (allocs_below1 _ _)) ⟨wc.heap.size, 0, none⟩ 1 1 (flat [⟨f1, f2, f3, f4, f5, f6, f7, f8⟩]) rfl rfl ?_ (fun u hu => (flat_one u hu).1) (by unfold maxLen; omega) (by omega) (by simp; have := HBc.out.size; omega) (fun u hu => (flat_one u hu).2) zero_notInt ?_)
      ·first | exact fun _ _ hq => hq | exact cells_at4 _ _ _ _ _ _ (by first | rfl | simp)
      ·intro v' w3 ho hg _
       have hb2 := allocs_below1 wc (.cells #[.bool f1, .slice f2 f3 f4, .bool f5, .slice f6 f7 f8] 37)
       have HN2 := Lib.hid (BuildN.snoc (HNc.out.below hb2) (by rw [hlen]; exact ho) hg (RatR.below HF.out hb2))
       have HB3 := Lib.hid (grown_below (bt HBc.out hb2) (HO.out.below hb2).own hg (Nat.le_refl _) (by simp; omega))
       clear ho hg hb2
       go_wp2
       go_roundw
       case rel => (first | exact ⟨k + 1, _, _, rfl, by go_num, by omega, HN2.out, HB3.out⟩ | ((repeat apply Exists.intro); exact ⟨⟨k + 1, _, _, rfl, by go_num, by omega, HN2.out, HB3.out⟩, rfl⟩))
       case measure => (simp [intOf]; omega)
  ·have hkl : k < m := by omega
   have hki : (k : Int) < (m : Int) := by omega
   obtain rfl := H3.out (by omega)
   obtain rfl := K3.out (by omega)
   obtain ⟨a', c', q1, q2⟩ := H4.out k hkl
   have c0 := keepc HB.out q1
   obtain ⟨t, ht4, htq⟩ := K4.out k hkl
   obtain ⟨t0, t1, t2, t3⟩ := ht4.at HB.out
   go_wp2_with fail
   obtain ⟨Lr, hlr, ⟨aa, b3, o3, cc, hsl, r1, r2, r3, r4⟩, hnr⟩ := q2.below HB.out
   rw [hlr] at hsl r1 r3
   injection hsl with e1 e2 e3
   subst e1 e3
   obtain rfl := r3 (by omega)
   have HLr := Lib.hid hlr
   have R5 := Lib.hid r4
   have HNr := Lib.hid hnr
   have HTQ := Lib.hid (show RatN wr t (y k) from htq.below HB.out)
   have hVl := HM.out.len
   clear q1 q2 hlr hnr r4 htq
   have HL := Lib.hid (fun (w' : World) (hb : Below w.heap.size w w') => (⟨keepc hb ht4.1, keepc hb ht4.2.1, keepc hb ht4.2.2.1, keepc hb ht4.2.2.2⟩ : w'.cell? ⟨b2, o2 + k * 4, none⟩ = some (.bool t.n1) ∧ w'.cell? ⟨b2, o2 + k * 4 + 1, none⟩ = some (.slice t.a1 t.k1 t.c1) ∧ w'.cell? ⟨b2, o2 + k * 4 + 2, none⟩ = some (.bool t.n2) ∧ w'.cell? ⟨b2, o2 + k * 4 + 3, none⟩ = some (.slice t.a2 t.k2 t.c2)))
   have HS := Lib.hid (Below.refl wr.heap.size wr)
   refine wp_region_held_drew (S := fun w' => w'.cell? ⟨b2, o2 + k * 4, none⟩ = some (.bool t.n1) ∧ w'.cell? ⟨b2, o2 + k * 4 + 1, none⟩ = some (.slice t.a1 t.k1 t.c1) ∧ w'.cell? ⟨b2, o2 + k * 4 + 2, none⟩ = some (.bool t.n2) ∧ w'.cell? ⟨b2, o2 + k * 4 + 3, none⟩ = some (.slice t.a2 t.k2 t.c2)) (by kernel_rfl) ?_ (fun hHeld => ?_)
   ·(with_reducible exact HL.out _ (bt HB.out (Below.drew HS.out)))
   (try dsimp only at hHeld)
   refine wpAnyH_take (i := 0) (oi := (⟨some 34, .move (.tmp 6), 70, "linear.go:96", #[], none⟩ : Oper)) (v := ?y1_1_v) rfl (by kernel_rfl) (by kernel_rfl) (by kernel_rfl) (fun _ _ _ h => h) (Or.inl ⟨by rfl, ?y1_1_h⟩) hHeld ?y1_1_r
   case y1_1_h => (intro w hSw; (try dsimp only at hSw); go_simp; all_goals with_reducible rfl)
   (try simp only [Act.put, List.setIfInBounds_toArray, List.set_cons_zero, List.set_cons_succ])
   refine wpAnyH_take (i := 2) (oi := (⟨some 36, .move (.tmp 8), 26, "linear.go:96", #[], none⟩ : Oper)) (v := ?y1_2_v) rfl (by kernel_rfl) (by kernel_rfl) (by kernel_rfl) (fun _ _ _ h => h) (Or.inl ⟨by rfl, ?y1_2_h⟩) hHeld ?y1_2_r
   case y1_2_h => (intro w hSw; (try dsimp only at hSw); go_simp; all_goals with_reducible rfl)
   (try simp only [Act.put, List.setIfInBounds_toArray, List.set_cons_zero, List.set_cons_succ])
   refine wpAnyH_take (i := 4) (oi := (⟨some 38, .move (.tmp 1), 26, "linear.go:96", #[], none⟩ : Oper)) (v := ?y1_3_v) rfl (by kernel_rfl) (by kernel_rfl) (by kernel_rfl) (fun _ _ _ h => h) (Or.inl ⟨by rfl, ?y1_3_h⟩) hHeld ?y1_3_r
   case y1_3_h => (intro w hSw; (try dsimp only at hSw); go_simp; all_goals with_reducible rfl)
   (try simp only [Act.put, List.setIfInBounds_toArray, List.set_cons_zero, List.set_cons_succ])
   refine wpAnyH_take (i := 5) (oi := (⟨some 39, .move (.tmp 7), 3, "linear.go:96", #[], none⟩ : Oper)) (v := ?y1_4_v) rfl (by kernel_rfl) (by kernel_rfl) (by kernel_rfl) (fun _ _ _ h => h) (Or.inl ⟨by rfl, ?y1_4_h⟩) hHeld ?y1_4_r
   case y1_4_h => (intro w hSw; (try dsimp only at hSw); go_simp; all_goals with_reducible rfl)
   (try simp only [Act.put, List.setIfInBounds_toArray, List.set_cons_zero, List.set_cons_succ])
   refine wpAnyH_take (i := 6) (oi := (⟨some 40, .indexAddr 26 (.tmp 38) (.tmp 39), 0, "linear.go:96", #[⟨4, .data⟩, ⟨5, .data⟩], none⟩ : Oper)) (v := ?y1_5_v) rfl (by kernel_rfl) (by kernel_rfl) (by kernel_rfl) (fun _ _ _ h => h) (Or.inl ⟨by rfl, ?y1_5_h⟩) hHeld ?y1_5_r
   case y1_5_h => (intro w hSw; (try dsimp only at hSw); go_simp; all_goals with_reducible rfl)
   (try simp only [Act.put, List.setIfInBounds_toArray, List.set_cons_zero, List.set_cons_succ])
   refine wpAnyH_take (i := 7) (oi := (⟨some 41, .load 37 (.tmp 40), 37, "linear.go:96", #[⟨6, .data⟩], none⟩ : Oper)) (v := ?y1_6_v) rfl (by kernel_rfl) (by kernel_rfl) (by kernel_rfl) (fun _ _ _ h => h) (Or.inl ⟨by rfl, ?y1_6_h⟩) hHeld ?y1_6_r
   case y1_6_h => (intro w hSw; (try dsimp only at hSw); go_simp; all_goals with_reducible rfl)
   (try simp only [Act.put, List.setIfInBounds_toArray, List.set_cons_zero, List.set_cons_succ])
   refine wpAnyH_ready (rs := [1, 8]) (by kernel_rfl) (by simp) ?_
   refine AllReadyH.cons (o := (⟨some 35, .buildSlice 26 0 #[], 26, "linear.go:96", #[], none⟩ : Oper)) rfl (fun K hK => ?_) (AllReadyH.cons (o := (⟨some 42, .buildSlice 26 1 #[(0, .tmp 41)], 26, "linear.go:96", #[⟨7, .data⟩], none⟩ : Oper)) rfl (fun K hK => ?_) AllReadyH.nil)
   ·go_simp
    (obtain ⟨w1, hW, hs1, hb, hx⟩ := alloc1_d wr (.cells #[] 37); rw [← hW]; have HZ1 := Lib.hid (bt (Below.refl wr.heap.size wr) hb); have HE := Lib.hid hx; have hle1 : wr.heap.size + 1 ≤ w1.heap.size := (by omega); clear hW hb hx hs1)
    first | refine hK.out _ _ ?_ (fun hHeld => ?_) | (go_wp2_with fail; refine hK.out _ _ ?_ (fun hHeld => ?_))
    ·exact HL.out _ (bt HB.out HZ1.out)
    clear hK K
    (try dsimp only at hHeld)
    (try simp only [Act.put, List.setIfInBounds_toArray, List.set_cons_zero, List.set_cons_succ])
    refine wpAnyH_ready (rs := [3, 8]) (by kernel_rfl) (by simp) ?_
    refine AllReadyH.cons (o := (⟨some 37, .call { callee := .builtin .append, args := #[.tmp 35, .tmp 36], argTypes := #[26, 26] }, 26, "linear.go:96", #[⟨1, .data⟩, ⟨2, .data⟩], none⟩ : Oper)) rfl (fun K hK => ?_) (AllReadyH.cons (o := (⟨some 42, .buildSlice 26 1 #[(0, .tmp 41)], 26, "linear.go:96", #[⟨7, .data⟩], none⟩ : Oper)) rfl (fun K hK => ?_) AllReadyH.nil)
    ·(refine step_append_good (G := notInt) _ rfl (.tmp 35) (.tmp 36) 26 rfl wr.heap.size 37 i2 (.agg #[.bool false, .slice none 0 0, .bool false, .slice none 0 0]) 4 64 Tryz.underlying26 hi2 hz20 hz21 hz22 rfl (by decide) (.slice (some ⟨wr.heap.size, 0, none⟩) 0 0) 0 [] rfl (OwnG.empty HE.out (by omega)) ⟨b3, o3, none⟩ m c' (flat Lr) rfl (by rw [flat_length, HLr.out]) (flat_src (fun kk x hx => (R5.out kk x hx).at HZ1.out)) (fun u hu => (flat_one u hu).1) (by unfold maxLen; omega) (by omega) (HZ1.out.size) (fun u hu => (flat_one u hu).2) zero_notInt ?_; intro v3 w3 ho hg _; have HZ3 := Lib.hid (grown_below HZ1.out (OwnG.empty (G := notInt) (size := 4) HE.out (by omega : wr.heap.size ≤ wr.heap.size)).own hg (Nat.le_refl _) (HZ1.out.size)); have HO := Lib.hid ho; have hsz3 := hg.size; clear ho hg HE)
     first | refine hK.out _ _ ?_ (fun hHeld => ?_) | (go_wp2_with fail; refine hK.out _ _ ?_ (fun hHeld => ?_))
     ·exact HL.out _ (bt HB.out HZ3.out)
     clear hK K
     (try dsimp only at hHeld)
     (try simp only [Act.put, List.setIfInBounds_toArray, List.set_cons_zero, List.set_cons_succ])
     refine wpAnyH_ready (rs := [8]) (by kernel_rfl) (by simp) ?_
     refine AllReadyH.cons (o := (⟨some 42, .buildSlice 26 1 #[(0, .tmp 41)], 26, "linear.go:96", #[⟨7, .data⟩], none⟩ : Oper)) rfl (fun K hK => ?_) AllReadyH.nil
     go_simp
     (obtain ⟨w8, hW, hs8, hb, hx⟩ := alloc1 w3 (.cells #[.bool t.n1, .slice t.a1 t.k1 t.c1, .bool t.n2, .slice t.a2 t.k2 t.c2] 37); rw [← hW]; have HZ8 := Lib.hid (bt HZ3.out hb); replace HO := Lib.hid (OwnG.below HO.out hb); have HT := Lib.hid hx; have hle8 : w3.heap.size + 1 ≤ w8.heap.size := (by omega); clear hW hb hx hs8)
     first | refine hK.out _ _ ?_ (fun hHeld => ?_) | (go_wp2_with fail; refine hK.out _ _ ?_ (fun hHeld => ?_))
     ·exact HL.out _ (bt HB.out HZ8.out)
     clear hK K
     (try dsimp only at hHeld)
     (try simp only [Act.put, List.setIfInBounds_toArray, List.set_cons_zero, List.set_cons_succ])
     refine wpAnyH_ready (rs := [9]) (by kernel_rfl) (by simp) ?_
     refine AllReadyH.cons (o := (⟨some 43, .call { callee := .builtin .append, args := #[.tmp 37, .tmp 42], argTypes := #[26, 26] }, 26, "linear.go:96", #[⟨3, .data⟩, ⟨8, .data⟩, ⟨3, .chain⟩], none⟩ : Oper)) rfl (fun K hK => ?_) AllReadyH.nil
     (refine step_append_good (G := notInt) _ rfl (.tmp 37) (.tmp 42) 26 rfl wr.heap.size 37 i2 (.agg #[.bool false, .slice none 0 0, .bool false, .slice none 0 0]) 4 64 Tryz.underlying26 hi2 hz20 hz21 hz22 rfl (by decide) v3 (0 + m) ([] ++ flat Lr) rfl HO.out ⟨w3.heap.size, 0, none⟩ 1 1 (flat [t]) rfl rfl (row_cells HT.out) (fun u hu => (flat_one u hu).1) (by unfold maxLen; omega) (by omega) (HZ8.out.size) (fun u hu => (flat_one u hu).2) zero_notInt ?_; intro v9 w9 ho hg _; have HZ9 := Lib.hid (grown_below HZ8.out HO.out.own hg (Nat.le_refl _) (HZ8.out.size)); have hr9 := rats_wide ho HLr.out (HNr.out.below HZ9.out) (RatR.below HTQ.out HZ9.out); obtain ⟨a9, c9, rfl⟩ := hr9.shape; have HR := Lib.hid hr9; have hsz9 := hg.size; clear ho hg HT HO hr9)
     first | refine hK.out _ _ ?_ (fun hHeld => ?_) | (go_wp2_with fail; refine hK.out _ _ ?_ (fun hHeld => ?_))
     ·exact HL.out _ (bt HB.out HZ9.out)
     clear hK K
     (try dsimp only at hHeld)
     (try simp only [Act.put, List.setIfInBounds_toArray, List.set_cons_zero, List.set_cons_succ])
     refine wpAnyH_ready (rs := [10]) (by kernel_rfl) (by simp) ?_
     refine AllReadyH.cons (o := (⟨some 44, .buildSlice 70 1 #[(0, .tmp 43)], 70, "linear.go:96", #[⟨9, .data⟩], none⟩ : Oper)) rfl (fun K hK => ?_) AllReadyH.nil
     go_simp
     (obtain ⟨w10, hW, hs10, hb, hx⟩ := alloc1 w9 (.cells #[.slice a9 (m + 1) c9] 26); rw [← hW]; have HZ10 := Lib.hid (bt HZ9.out hb); replace HR := Lib.hid (HR.out.below hb); have HU := Lib.hid hx; have hle10 : w9.heap.size + 1 ≤ w10.heap.size := (by omega); clear hW hb hx hs10)
     first | refine hK.out _ _ ?_ (fun hHeld => ?_) | (go_wp2_with fail; refine hK.out _ _ ?_ (fun hHeld => ?_))
     ·exact HL.out _ (bt HB.out HZ10.out)
     clear hK K
     (try dsimp only at hHeld)
     (try simp only [Act.put, List.setIfInBounds_toArray, List.set_cons_zero, List.set_cons_succ])
     refine wpAnyH_ready (rs := [11]) (by kernel_rfl) (by simp) ?_
     refine AllReadyH.cons (o := (⟨some 45, .call { callee := .builtin .append, args := #[.tmp 34, .tmp 44], argTypes := #[70, 70] }, 70, "linear.go:96", #[⟨0, .data⟩, ⟨10, .data⟩, ⟨9, .chain⟩], none⟩ : Oper)) rfl (fun K hK => ?_) AllReadyH.nil
     (have HN := Lib.hid (HM.out.below HZ10.out); refine step_append_good (G := OnlySl) _ rfl (.tmp 34) (.tmp 44) 70 rfl w.heap.size 26 i1 (.slice none 0 0) 1 24 Tryz.underlying70 hi1 hz10 hz11 hz12 rfl (by decide) s V.length V rfl HN.out.own ⟨w9.heap.size, 0, none⟩ 1 1 [.slice a9 (m + 1) c9] rfl rfl (row_one HU.out) (one_cell HR.out) (by unfold maxLen; omega) (by omega) (by have := HB.out.size; have := HZ10.out.size; omega) (only_sl HR.out) only_sl0 ?_; intro v11 w11 ho hg _; have HZZ := Lib.hid (grown_below (bt HB.out HZ10.out) HN.out.own.own hg (Nat.le_refl _) (by have := HB.out.size; have := HZ10.out.size; omega)); have HNN := Lib.hid (HN.out.snoc ho hg HR.out); clear ho hg)
     first | refine hK.out _ _ ?_ (fun hHeld => ?_) | (go_wp2_with fail; refine hK.out _ _ ?_ (fun hHeld => ?_))
     ·exact HL.out _ HZZ.out
     clear hK K
     (try dsimp only at hHeld)
     (try simp only [Act.put, List.setIfInBounds_toArray, List.set_cons_zero, List.set_cons_succ])
     refine wpAnyH_take (i := 12) (oi := (⟨some 6, .assign (.tmp 45), 70, "linear.go:96", #[⟨11, .data⟩, ⟨11, .chain⟩, ⟨0, .phase⟩, ⟨1, .phase⟩, ⟨2, .phase⟩, ⟨3, .phase⟩, ⟨4, .phase⟩, ⟨5, .phase⟩, ⟨6, .phase⟩, ⟨7, .phase⟩, ⟨8, .phase⟩, ⟨9, .phase⟩, ⟨10, .phase⟩, ⟨11, .phase⟩], none⟩ : Oper)) (v := ?y1_7_v) rfl (by kernel_rfl) (by kernel_rfl) (by kernel_rfl) (fun _ _ _ h => h) (Or.inl ⟨by rfl, ?y1_7_h⟩) hHeld ?y1_7_r
     case y1_7_h => (intro w hSw; (try dsimp only at hSw); go_simp; all_goals with_reducible rfl)
     (try simp only [Act.put, List.setIfInBounds_toArray, List.set_cons_zero, List.set_cons_succ])
     refine wpAnyH_done (by kernel_rfl) ?_ _
     clear t0 t1 t2 t3 ht4
     go_wp2
     go_roundw
     case rel => (first | exact ⟨k + 1, _, _, rfl, by go_num, by omega, HNN.out, HZZ.out⟩ | ((repeat apply Exists.intro); exact ⟨⟨k + 1, _, _, rfl, by go_num, by omega, HNN.out, HZZ.out⟩, rfl⟩))
     case measure => (simp [intOf]; omega)
    ·go_simp
     (obtain ⟨w8, hW, hs8, hb, hx⟩ := alloc1 w1 (.cells #[.bool t.n1, .slice t.a1 t.k1 t.c1, .bool t.n2, .slice t.a2 t.k2 t.c2] 37); rw [← hW]; have HZ8 := Lib.hid (bt HZ1.out hb); replace HE := Lib.hid (blk_next HE.out hb); have HT := Lib.hid hx; have hle8 : w1.heap.size + 1 ≤ w8.heap.size := (by omega); clear hW hb hx hs8)
     first | refine hK.out _ _ ?_ (fun hHeld => ?_) | (go_wp2_with fail; refine hK.out _ _ ?_ (fun hHeld => ?_))
     ·exact HL.out _ (bt HB.out HZ8.out)
     clear hK K
     (try dsimp only at hHeld)
     (try simp only [Act.put, List.setIfInBounds_toArray, List.set_cons_zero, List.set_cons_succ])
     refine wpAnyH_ready (rs := [3]) (by kernel_rfl) (by simp) ?_
     refine AllReadyH.cons (o := (⟨some 37, .call { callee := .builtin .append, args := #[.tmp 35, .tmp 36], argTypes := #[26, 26] }, 26, "linear.go:96", #[⟨1, .data⟩, ⟨2, .data⟩], none⟩ : Oper)) rfl (fun K hK => ?_) AllReadyH.nil
     (refine step_append_good (G := notInt) _ rfl (.tmp 35) (.tmp 36) 26 rfl wr.heap.size 37 i2 (.agg #[.bool false, .slice none 0 0, .bool false, .slice none 0 0]) 4 64 Tryz.underlying26 hi2 hz20 hz21 hz22 rfl (by decide) (.slice (some ⟨wr.heap.size, 0, none⟩) 0 0) 0 [] rfl (OwnG.empty HE.out (by omega)) ⟨b3, o3, none⟩ m c' (flat Lr) rfl (by rw [flat_length, HLr.out]) (flat_src (fun kk x hx => (R5.out kk x hx).at HZ8.out)) (fun u hu => (flat_one u hu).1) (by unfold maxLen; omega) (by omega) (HZ8.out.size) (fun u hu => (flat_one u hu).2) zero_notInt ?_; intro v3 w3 ho hg _; have HZ3 := Lib.hid (grown_below HZ8.out (OwnG.empty (G := notInt) (size := 4) HE.out (by omega : wr.heap.size ≤ wr.heap.size)).own hg (Nat.le_refl _) (HZ8.out.size)); replace HT := Lib.hid ((hg.block (w1.heap.size) (by omega) (by intro q; have q2 : w1.heap.size = wr.heap.size := Option.some.inj q; omega)).trans HT.out); have HO := Lib.hid ho; have hsz3 := hg.size; clear ho hg HE)
     first | refine hK.out _ _ ?_ (fun hHeld => ?_) | (go_wp2_with fail; refine hK.out _ _ ?_ (fun hHeld => ?_))
     ·exact HL.out _ (bt HB.out HZ3.out)
     clear hK K
     (try dsimp only at hHeld)
     (try simp only [Act.put, List.setIfInBounds_toArray, List.set_cons_zero, List.set_cons_succ])
     refine wpAnyH_ready (rs := [9]) (by kernel_rfl) (by simp) ?_
     refine AllReadyH.cons (o := (⟨some 43, .call { callee := .builtin .append, args := #[.tmp 37, .tmp 42], argTypes := #[26, 26] }, 26, "linear.go:96", #[⟨3, .data⟩, ⟨8, .data⟩, ⟨3, .chain⟩], none⟩ : Oper)) rfl (fun K hK => ?_) AllReadyH.nil
     (refine step_append_good (G := notInt) _ rfl (.tmp 37) (.tmp 42) 26 rfl wr.heap.size 37 i2 (.agg #[.bool false, .slice none 0 0, .bool false, .slice none 0 0]) 4 64 Tryz.underlying26 hi2 hz20 hz21 hz22 rfl (by decide) v3 (0 + m) ([] ++ flat Lr) rfl HO.out ⟨w1.heap.size, 0, none⟩ 1 1 (flat [t]) rfl rfl (row_cells HT.out) (fun u hu => (flat_one u hu).1) (by unfold maxLen; omega) (by omega) (HZ3.out.size) (fun u hu => (flat_one u hu).2) zero_notInt ?_; intro v9 w9 ho hg _; have HZ9 := Lib.hid (grown_below HZ3.out HO.out.own hg (Nat.le_refl _) (HZ3.out.size)); have hr9 := rats_wide ho HLr.out (HNr.out.below HZ9.out) (RatR.below HTQ.out HZ9.out); obtain ⟨a9, c9, rfl⟩ := hr9.shape; have HR := Lib.hid hr9; have hsz9 := hg.size; clear ho hg HT HO hr9)
     first | refine hK.out _ _ ?_ (fun hHeld => ?_) | (go_wp2_with fail; refine hK.out _ _ ?_ (fun hHeld => ?_))
     ·exact HL.out _ (bt HB.out HZ9.out)
     clear hK K
     (try dsimp only at hHeld)
     (try simp only [Act.put, List.setIfInBounds_toArray, List.set_cons_zero, List.set_cons_succ])
     refine wpAnyH_ready (rs := [10]) (by kernel_rfl) (by simp) ?_
     refine AllReadyH.cons (o := (⟨some 44, .buildSlice 70 1 #[(0, .tmp 43)], 70, "linear.go:96", #[⟨9, .data⟩], none⟩ : Oper)) rfl (fun K hK => ?_) AllReadyH.nil
     go_simp
     (obtain ⟨w10, hW, hs10, hb, hx⟩ := alloc1 w9 (.cells #[.slice a9 (m + 1) c9] 26); rw [← hW]; have HZ10 := Lib.hid (bt HZ9.out hb); replace HR := Lib.hid (HR.out.below hb); have HU := Lib.hid hx; have hle10 : w9.heap.size + 1 ≤ w10.heap.size := (by omega); clear hW hb hx hs10)
     first | refine hK.out _ _ ?_ (fun hHeld => ?_) | (go_wp2_with fail; refine hK.out _ _ ?_ (fun hHeld => ?_))
     ·exact HL.out _ (bt HB.out HZ10.out)
     clear hK K
     (try dsimp only at hHeld)
     (try simp only [Act.put, List.setIfInBounds_toArray, List.set_cons_zero, List.set_cons_succ])
     refine wpAnyH_ready (rs := [11]) (by kernel_rfl) (by simp) ?_
     refine AllReadyH.cons (o := (⟨some 45, .call { callee := .builtin .append, args := #[.tmp 34, .tmp 44], argTypes := #[70, 70] }, 70, "linear.go:96", #[⟨0, .data⟩, ⟨10, .data⟩, ⟨9, .chain⟩], none⟩ : Oper)) rfl (fun K hK => ?_) AllReadyH.nil
     (have HN := Lib.hid (HM.out.below HZ10.out); refine step_append_good (G := OnlySl) _ rfl (.tmp 34) (.tmp 44) 70 rfl w.heap.size 26 i1 (.slice none 0 0) 1 24 Tryz.underlying70 hi1 hz10 hz11 hz12 rfl (by decide) s V.length V rfl HN.out.own ⟨w9.heap.size, 0, none⟩ 1 1 [.slice a9 (m + 1) c9] rfl rfl (row_one HU.out) (one_cell HR.out) (by unfold maxLen; omega) (by omega) (by have := HB.out.size; have := HZ10.out.size; omega) (only_sl HR.out) only_sl0 ?_; intro v11 w11 ho hg _; have HZZ := Lib.hid (grown_below (bt HB.out HZ10.out) HN.out.own.own hg (Nat.le_refl _) (by have := HB.out.size; have := HZ10.out.size; omega)); have HNN := Lib.hid (HN.out.snoc ho hg HR.out); clear ho hg)
     first | refine hK.out _ _ ?_ (fun hHeld => ?_) | (go_wp2_with fail; refine hK.out _ _ ?_ (fun hHeld => ?_))
     ·exact HL.out _ HZZ.out
     clear hK K
     (try dsimp only at hHeld)
     (try simp only [Act.put, List.setIfInBounds_toArray, List.set_cons_zero, List.set_cons_succ])
     refine wpAnyH_take (i := 12) (oi := (⟨some 6, .assign (.tmp 45), 70, "linear.go:96", #[⟨11, .data⟩, ⟨11, .chain⟩, ⟨0, .phase⟩, ⟨1, .phase⟩, ⟨2, .phase⟩, ⟨3, .phase⟩, ⟨4, .phase⟩, ⟨5, .phase⟩, ⟨6, .phase⟩, ⟨7, .phase⟩, ⟨8, .phase⟩, ⟨9, .phase⟩, ⟨10, .phase⟩, ⟨11, .phase⟩], none⟩ : Oper)) (v := ?y1_8_v) rfl (by kernel_rfl) (by kernel_rfl) (by kernel_rfl) (fun _ _ _ h => h) (Or.inl ⟨by rfl, ?y1_8_h⟩) hHeld ?y1_8_r
     case y1_8_h => (intro w hSw; (try dsimp only at hSw); go_simp; all_goals with_reducible rfl)
     (try simp only [Act.put, List.setIfInBounds_toArray, List.set_cons_zero, List.set_cons_succ])
     refine wpAnyH_done (by kernel_rfl) ?_ _
     clear t0 t1 t2 t3 ht4
     go_wp2
     go_roundw
     case rel => (first | exact ⟨k + 1, _, _, rfl, by go_num, by omega, HNN.out, HZZ.out⟩ | ((repeat apply Exists.intro); exact ⟨⟨k + 1, _, _, rfl, by go_num, by omega, HNN.out, HZZ.out⟩, rfl⟩))
     case measure => (simp [intOf]; omega)
   ·go_simp
    (obtain ⟨w8, hW, hs8, hb, hx⟩ := alloc1_d wr (.cells #[.bool t.n1, .slice t.a1 t.k1 t.c1, .bool t.n2, .slice t.a2 t.k2 t.c2] 37); rw [← hW]; have HZ8 := Lib.hid (bt (Below.refl wr.heap.size wr) hb); have HT := Lib.hid hx; have hle8 : wr.heap.size + 1 ≤ w8.heap.size := (by omega); clear hW hb hx hs8)
    first | refine hK.out _ _ ?_ (fun hHeld => ?_) | (go_wp2_with fail; refine hK.out _ _ ?_ (fun hHeld => ?_))
    ·exact HL.out _ (bt HB.out HZ8.out)
    clear hK K
    (try dsimp only at hHeld)
    (try simp only [Act.put, List.setIfInBounds_toArray, List.set_cons_zero, List.set_cons_succ])
    refine wpAnyH_ready (rs := [1]) (by kernel_rfl) (by simp) ?_
    refine AllReadyH.cons (o := (⟨some 35, .buildSlice 26 0 #[], 26, "linear.go:96", #[], none⟩ : Oper)) rfl (fun K hK => ?_) AllReadyH.nil
    go_simp
    (obtain ⟨w1, hW, hs1, hb, hx⟩ := alloc1 w8 (.cells #[] 37); rw [← hW]; have HZ1 := Lib.hid (bt HZ8.out hb); replace HT := Lib.hid (blk_next HT.out hb); have HE := Lib.hid hx; have hle1 : w8.heap.size + 1 ≤ w1.heap.size := (by omega); clear hW hb hx hs1)
    first | refine hK.out _ _ ?_ (fun hHeld => ?_) | (go_wp2_with fail; refine hK.out _ _ ?_ (fun hHeld => ?_))
    ·exact HL.out _ (bt HB.out HZ1.out)
    clear hK K
    (try dsimp only at hHeld)
    (try simp only [Act.put, List.setIfInBounds_toArray, List.set_cons_zero, List.set_cons_succ])
    refine wpAnyH_ready (rs := [3]) (by kernel_rfl) (by simp) ?_
    refine AllReadyH.cons (o := (⟨some 37, .call { callee := .builtin .append, args := #[.tmp 35, .tmp 36], argTypes := #[26, 26] }, 26, "linear.go:96", #[⟨1, .data⟩, ⟨2, .data⟩], none⟩ : Oper)) rfl (fun K hK => ?_) AllReadyH.nil
    (refine step_append_good (G := notInt) _ rfl (.tmp 35) (.tmp 36) 26 rfl wr.heap.size 37 i2 (.agg #[.bool false, .slice none 0 0, .bool false, .slice none 0 0]) 4 64 Tryz.underlying26 hi2 hz20 hz21 hz22 rfl (by decide) (.slice (some ⟨w8.heap.size, 0, none⟩) 0 0) 0 [] rfl (OwnG.empty HE.out (by omega)) ⟨b3, o3, none⟩ m c' (flat Lr) rfl (by rw [flat_length, HLr.out]) (flat_src (fun kk x hx => (R5.out kk x hx).at HZ1.out)) (fun u hu => (flat_one u hu).1) (by unfold maxLen; omega) (by omega) (HZ1.out.size) (fun u hu => (flat_one u hu).2) zero_notInt ?_; intro v3 w3 ho hg _; have HZ3 := Lib.hid (grown_below HZ1.out (OwnG.empty (G := notInt) (size := 4) HE.out (by omega : wr.heap.size ≤ w8.heap.size)).own hg (Nat.le_refl _) (HZ1.out.size)); replace HT := Lib.hid ((hg.block (wr.heap.size) (by omega) (by intro q; have q2 : wr.heap.size = w8.heap.size := Option.some.inj q; omega)).trans HT.out); have HO := Lib.hid ho; have hsz3 := hg.size; clear ho hg HE)
    first | refine hK.out _ _ ?_ (fun hHeld => ?_) | (go_wp2_with fail; refine hK.out _ _ ?_ (fun hHeld => ?_))
    ·exact HL.out _ (bt HB.out HZ3.out)
    clear hK K
    (try dsimp only at hHeld)
    (try simp only [Act.put, List.setIfInBounds_toArray, List.set_cons_zero, List.set_cons_succ])
    refine wpAnyH_ready (rs := [9]) (by kernel_rfl) (by simp) ?_
    refine AllReadyH.cons (o := (⟨some 43, .call { callee := .builtin .append, args := #[.tmp 37, .tmp 42], argTypes := #[26, 26] }, 26, "linear.go:96", #[⟨3, .data⟩, ⟨8, .data⟩, ⟨3, .chain⟩], none⟩ : Oper)) rfl (fun K hK => ?_) AllReadyH.nil
    (refine step_append_good (G := notInt) _ rfl (.tmp 37) (.tmp 42) 26 rfl wr.heap.size 37 i2 (.agg #[.bool false, .slice none 0 0, .bool false, .slice none 0 0]) 4 64 Tryz.underlying26 hi2 hz20 hz21 hz22 rfl (by decide) v3 (0 + m) ([] ++ flat Lr) rfl HO.out ⟨wr.heap.size, 0, none⟩ 1 1 (flat [t]) rfl rfl (row_cells HT.out) (fun u hu => (flat_one u hu).1) (by unfold maxLen; omega) (by omega) (HZ3.out.size) (fun u hu => (flat_one u hu).2) zero_notInt ?_; intro v9 w9 ho hg _; have HZ9 := Lib.hid (grown_below HZ3.out HO.out.own hg (Nat.le_refl _) (HZ3.out.size)); have hr9 := rats_wide ho HLr.out (HNr.out.below HZ9.out) (RatR.below HTQ.out HZ9.out); obtain ⟨a9, c9, rfl⟩ := hr9.shape; have HR := Lib.hid hr9; have hsz9 := hg.size; clear ho hg HT HO hr9)
    first | refine hK.out _ _ ?_ (fun hHeld => ?_) | (go_wp2_with fail; refine hK.out _ _ ?_ (fun hHeld => ?_))
    ·exact HL.out _ (bt HB.out HZ9.out)
    clear hK K
    (try dsimp only at hHeld)
    (try simp only [Act.put, List.setIfInBounds_toArray, List.set_cons_zero, List.set_cons_succ])
    refine wpAnyH_ready (rs := [10]) (by kernel_rfl) (by simp) ?_
    refine AllReadyH.cons (o := (⟨some 44, .buildSlice 70 1 #[(0, .tmp 43)], 70, "linear.go:96", #[⟨9, .data⟩], none⟩ : Oper)) rfl (fun K hK => ?_) AllReadyH.nil
    go_simp
    (obtain ⟨w10, hW, hs10, hb, hx⟩ := alloc1 w9 (.cells #[.slice a9 (m + 1) c9] 26); rw [← hW]; have HZ10 := Lib.hid (bt HZ9.out hb); replace HR := Lib.hid (HR.out.below hb); have HU := Lib.hid hx; have hle10 : w9.heap.size + 1 ≤ w10.heap.size := (by omega); clear hW hb hx hs10)
    first | refine hK.out _ _ ?_ (fun hHeld => ?_) | (go_wp2_with fail; refine hK.out _ _ ?_ (fun hHeld => ?_))
    ·exact HL.out _ (bt HB.out HZ10.out)
    clear hK K
    (try dsimp only at hHeld)
    (try simp only [Act.put, List.setIfInBounds_toArray, List.set_cons_zero, List.set_cons_succ])
    refine wpAnyH_ready (rs := [11]) (by kernel_rfl) (by simp) ?_
    refine AllReadyH.cons (o := (⟨some 45, .call { callee := .builtin .append, args := #[.tmp 34, .tmp 44], argTypes := #[70, 70] }, 70, "linear.go:96", #[⟨0, .data⟩, ⟨10, .data⟩, ⟨9, .chain⟩], none⟩ : Oper)) rfl (fun K hK => ?_) AllReadyH.nil
    (have HN := Lib.hid (HM.out.below HZ10.out); refine step_append_good (G := OnlySl) _ rfl (.tmp 34) (.tmp 44) 70 rfl w.heap.size 26 i1 (.slice none 0 0) 1 24 Tryz.underlying70 hi1 hz10 hz11 hz12 rfl (by decide) s V.length V rfl HN.out.own ⟨w9.heap.size, 0, none⟩ 1 1 [.slice a9 (m + 1) c9] rfl rfl (row_one HU.out) (one_cell HR.out) (by unfold maxLen; omega) (by omega) (by have := HB.out.size; have := HZ10.out.size; omega) (only_sl HR.out) only_sl0 ?_; intro v11 w11 ho hg _; have HZZ := Lib.hid (grown_below (bt HB.out HZ10.out) HN.out.own.own hg (Nat.le_refl _) (by have := HB.out.size; have := HZ10.out.size; omega)); have HNN := Lib.hid (HN.out.snoc ho hg HR.out); clear ho hg)
    first | refine hK.out _ _ ?_ (fun hHeld => ?_) | (go_wp2_with fail; refine hK.out _ _ ?_ (fun hHeld => ?_))
    ·exact HL.out _ HZZ.out
    clear hK K
    (try dsimp only at hHeld)
    (try simp only [Act.put, List.setIfInBounds_toArray, List.set_cons_zero, List.set_cons_succ])
    refine wpAnyH_take (i := 12) (oi := (⟨some 6, .assign (.tmp 45), 70, "linear.go:96", #[⟨11, .data⟩, ⟨11, .chain⟩, ⟨0, .phase⟩, ⟨1, .phase⟩, ⟨2, .phase⟩, ⟨3, .phase⟩, ⟨4, .phase⟩, ⟨5, .phase⟩, ⟨6, .phase⟩, ⟨7, .phase⟩, ⟨8, .phase⟩, ⟨9, .phase⟩, ⟨10, .phase⟩, ⟨11, .phase⟩], none⟩ : Oper)) (v := ?y1_9_v) rfl (by kernel_rfl) (by kernel_rfl) (by kernel_rfl) (fun _ _ _ h => h) (Or.inl ⟨by rfl, ?y1_9_h⟩) hHeld ?y1_9_r
    case y1_9_h => (intro w hSw; (try dsimp only at hSw); go_simp; all_goals with_reducible rfl)
    (try simp only [Act.put, List.setIfInBounds_toArray, List.set_cons_zero, List.set_cons_succ])
    refine wpAnyH_done (by kernel_rfl) ?_ _
    clear t0 t1 t2 t3 ht4
    go_wp2
    go_roundw
    case rel => (first | exact ⟨k + 1, _, _, rfl, by go_num, by omega, HNN.out, HZZ.out⟩ | ((repeat apply Exists.intro); exact ⟨⟨k + 1, _, _, rfl, by go_num, by omega, HNN.out, HZZ.out⟩, rfl⟩))
    case measure => (simp [intOf]; omega)
end Go.Proofs.YteionhenpehogaaGreatDoor
