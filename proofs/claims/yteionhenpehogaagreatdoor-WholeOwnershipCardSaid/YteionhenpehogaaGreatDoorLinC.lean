import Derived.Test.YteionhenpehogaaGreatDoorLinM
import Derived.Test.YteionhenpehogaaGreatDoorPlainZ
import Derived.Test.YteionhenpehogaaGreatDoorRatD
import Derived.Test.YteionhenpehogaaGreatDoorAllocRat
import Derived.Deep.DeepCutAuto
namespace Go.Proofs.YteionhenpehogaaGreatDoor
open Go.RowKit Tally
theorem stay_four {g o1 o2 o3 o4 : Nat} {a w : World} {v1 v2 v3 v4 : Value} (h : Stay g (g + 1) a w) : Stay g (g + 1) a ((((w.setCell ⟨g, o1, none⟩ v1).setCell ⟨g, o2, none⟩ v2).setCell ⟨g, o3, none⟩ v3).setCell ⟨g, o4, none⟩ v4) :=
 (((h.setCell (Nat.le_refl _) (Nat.lt_succ_self _) _ _).setCell (Nat.le_refl _) (Nat.lt_succ_self _) _ _).setCell (Nat.le_refl _) (Nat.lt_succ_self _) _ _).setCell (Nat.le_refl _) (Nat.lt_succ_self _) _ _
theorem off_one {a b : Nat} (h : a ≠ b) : a < b ∨ b + 1 ≤ a := by omega
set_option maxHeartbeats 8000000 in
set_option maxRecDepth 100000 in
theorem clear_any {w : World} {M G m n r c N : Nat} {T : TypeId} {g : Nat → Nat} {A : Mx} (hm : w.heap[M]? = some (.cells #[.slice (some ⟨G, 0, none⟩) m m] T (0, 0))) (h : MatO w G m n g A) (hM : ∀ i, i < m → g i ≠ M)
  (hr : r < m) (hc : c < n) (h0 : A r c ≠ 0) (hN : ∀ i, i < m → ∀ k, k < n → Rg N (A i k)) (hNN : 8 * N + 8 ≤ 999999999990) (hmm : m ≤ 1000) (hnn : n ≤ 1000) :
  Calls Tryz.prog 128 #[.int .i64 (r : Nat), .int .i64 (c : Nat), .pointer (some ⟨M, 0, none⟩)] w fun e w' => e = .returned (.tuple #[]) ∧ MatO w' G m n g (upR A r c) ∧ OnlyP (RowsP m g) w w' := by
 have HM := Lib.hid hm
 have HA := Lib.hid h
 have HMG := Lib.hid hM
 have H0 := Lib.hid h0
 have HN := Lib.hid hN
 clear hm h hM h0 hN
 have c0 : w.cell? ⟨M, 0, none⟩ = some (.slice (some ⟨G, 0, none⟩) m m) := by rw [Lib.cell_of_heap HM.out]; rfl
 go_enter Tryz.func128, Tryz.ntmps128
 go_wp2
 clear c0
 go_loopw [11] (fun i wr => ∃ (k : Nat), i = .int .i64 k ∧ k ≤ m ∧ MatO wr G m n g (upIn A r c k 0) ∧ OnlyP (RowsP m g) w wr) (fun i _ => m - (intOf i).toNat)
 case atStart => exact ⟨0, rfl, by omega, by rw [upIn_start]; exact HA.out, OnlyP.refl _ _⟩
 case round =>
  obtain ⟨k, rfl, hk, hma, hon⟩ := hrel
  have HR := Lib.hid hma
  have HO := Lib.hid hon
  clear hma hon
  by_cases hkm : k = m
  ·subst hkm
   go_wp2
   go_end0
   exact ⟨rfl, HR.out.congr (fun a ha b _ => upIn_end ha b), HO.out⟩
  ·have hkl : k < m := by omega
   have hki : (k : Int) < (m : Int) := by omega
   have HMr := Lib.hid (HO.out.heap (fun ⟨i, hi, e⟩ => HMG.out i hi e.symm) HM.out)
   have c0 : wr.cell? ⟨M, 0, none⟩ = some (.slice (some ⟨G, 0, none⟩) m m) := by rw [Lib.cell_of_heap HMr.out]; rfl
   have c1 := HR.out.head hkl
   by_cases hkr : k = r
   ·have hkrz : ((k : Int) == (r : Int)) = true := by rw [hkr]; exact beq_self_eq_true _
    have HR2 := Lib.hid (HR.out.congr (fun a ha b hb => show upIn A r c k 0 a b = upIn A r c (k + 1) 0 a b by subst hkr; exact upIn_pivot a b))
    go_wp2
    refine ⟨⟨k + 1, by subst hkr; go_num, by omega, HR2.out, HO.out⟩, ?_⟩
    simp [intOf]; omega
   ·have hkrz : ((k : Int) == (r : Int)) = false := by rw [beq_eq_false_iff_ne]; omega
    obtain ⟨x, hx4, hxq⟩ := (HR.out.row k hkl).elem hc
    obtain ⟨x0, x1, x2, x3⟩ := hx4
    rw [upIn_here (Nat.zero_le _)] at hxq
    have HX := Lib.hid (show RatR wr (.agg #[.bool x.n1, .slice x.a1 x.k1 x.c1, .bool x.n2, .slice x.a2 x.k2 x.c2]) (A k c) from hxq)
    have hcn : (c : Int) < (n : Int) := by omega
    have hrm : (r : Int) < (m : Int) := by omega
    clear hxq
    go_wp2_with fail
    (with_reducible refine (ratsign_any HX.out).mono ?_)
    rintro e w1 ⟨rfl, hb1⟩
    have HB1 := Lib.hid hb1
    replace HX := Lib.hid (HX.out.below hb1)
    by_cases hz : A k c = 0
    ·have HR2 := Lib.hid ((HR.out.below hb1).congr (fun a ha b hb => upIn_zero hz a b))
     have HO2 := Lib.hid (HO.out.next hb1)
     rw [hz, show (0 : Rat).num.sign = 0 from rfl]
     clear c0 c1 x0 x1 x2 x3 hb1
     go_wp2
     refine ⟨⟨k + 1, by go_num, by omega, HR2.out, HO2.out⟩, ?_⟩
     simp [intOf]; omega
    ·have hks : ((A k c).num.sign == 0) = false := by
      rw [beq_eq_false_iff_ne]
      intro e
      exact hz (Rat.num_eq_zero.1 (Int.sign_eq_zero_iff_zero.1 e))
     replace HR := Lib.hid (HR.out.below hb1)
     replace HO := Lib.hid (HO.out.next hb1)
     replace HMr := Lib.hid (blk_next HMr.out hb1)
     replace c0 := keepc hb1 c0
     replace c1 := keepc hb1 c1
     replace x0 := keepc hb1 x0
     replace x1 := keepc hb1 x1
     replace x2 := keepc hb1 x2
     replace x3 := keepc hb1 x3
     have c2 := HR.out.head hr
     obtain ⟨y, hy4, hyq⟩ := (HR.out.row r hr).elem hc
     obtain ⟨y0, y1, y2, y3⟩ := hy4
     rw [upIn_row] at hyq
     have HY := Lib.hid (show RatR w1 (.agg #[.bool y.n1, .slice y.a1 y.k1 y.c1, .bool y.n2, .slice y.a2 y.k2 y.c2]) (A r c) from hyq)
     have rx := HN.out k hkl c hc
     have ry := HN.out r hr c hc
     clear hyq hb1 hz
     go_wp2_with fail
     go_cut [6] (fun s6 wx => BlkR w1.heap.size 37 (A k c / A r c) s6 wx ∧ Below w1.heap.size w1 wx)
     case first =>
      have HL := Lib.hid (fun (w' : World) (hb : Below w1.heap.size w1 w') => (⟨hb, keepc hb c0, keepc hb c1, keepc hb c2, keepc hb x0, keepc hb x1, keepc hb x2, keepc hb x3, keepc hb y0, keepc hb y1, keepc hb y2, keepc hb y3⟩ : Below w1.heap.size w1 w' ∧ w'.cell? ⟨M, 0, none⟩ = some (.slice (some ⟨G, 0, none⟩) m m) ∧ w'.cell? ⟨G, k, none⟩ = some (.slice (some ⟨g k, 0, none⟩) n n) ∧ w'.cell? ⟨G, r, none⟩ = some (.slice (some ⟨g r, 0, none⟩) n n) ∧ w'.cell? ⟨g k, c * 4, none⟩ = some (.bool x.n1) ∧ w'.cell? ⟨g k, c * 4 + 1, none⟩ = some (.slice x.a1 x.k1 x.c1) ∧ w'.cell? ⟨g k, c * 4 + 2, none⟩ = some (.bool x.n2) ∧ w'.cell? ⟨g k, c * 4 + 3, none⟩ = some (.slice x.a2 x.k2 x.c2) ∧ w'.cell? ⟨g r, c * 4, none⟩ = some (.bool y.n1) ∧ w'.cell? ⟨g r, c * 4 + 1, none⟩ = some (.slice y.a1 y.k1 y.c1) ∧ w'.cell? ⟨g r, c * 4 + 2, none⟩ = some (.bool y.n2) ∧ w'.cell? ⟨g r, c * 4 + 3, none⟩ = some (.slice y.a2 y.k2 y.c2)))
      have HI := Lib.hid (fun (w' : World) (hs : Below w1.heap.size w1 w' ∧ w'.cell? ⟨M, 0, none⟩ = some (.slice (some ⟨G, 0, none⟩) m m) ∧ w'.cell? ⟨G, k, none⟩ = some (.slice (some ⟨g k, 0, none⟩) n n) ∧ w'.cell? ⟨G, r, none⟩ = some (.slice (some ⟨g r, 0, none⟩) n n) ∧ w'.cell? ⟨g k, c * 4, none⟩ = some (.bool x.n1) ∧ w'.cell? ⟨g k, c * 4 + 1, none⟩ = some (.slice x.a1 x.k1 x.c1) ∧ w'.cell? ⟨g k, c * 4 + 2, none⟩ = some (.bool x.n2) ∧ w'.cell? ⟨g k, c * 4 + 3, none⟩ = some (.slice x.a2 x.k2 x.c2) ∧ w'.cell? ⟨g r, c * 4, none⟩ = some (.bool y.n1) ∧ w'.cell? ⟨g r, c * 4 + 1, none⟩ = some (.slice y.a1 y.k1 y.c1) ∧ w'.cell? ⟨g r, c * 4 + 2, none⟩ = some (.bool y.n2) ∧ w'.cell? ⟨g r, c * 4 + 3, none⟩ = some (.slice y.a2 y.k2 y.c2)) => hs.1)
      have HS := Lib.hid (Below.refl w1.heap.size w1)
      clear HB1 HMr HR HO HA HM HMG HN c0 c1 c2 x0 x1 x2 x3 y0 y1 y2 y3
      go_region_held3 (fun w' => Below w1.heap.size w1 w' ∧ w'.cell? ⟨M, 0, none⟩ = some (.slice (some ⟨G, 0, none⟩) m m) ∧ w'.cell? ⟨G, k, none⟩ = some (.slice (some ⟨g k, 0, none⟩) n n) ∧ w'.cell? ⟨G, r, none⟩ = some (.slice (some ⟨g r, 0, none⟩) n n) ∧ w'.cell? ⟨g k, c * 4, none⟩ = some (.bool x.n1) ∧ w'.cell? ⟨g k, c * 4 + 1, none⟩ = some (.slice x.a1 x.k1 x.c1) ∧ w'.cell? ⟨g k, c * 4 + 2, none⟩ = some (.bool x.n2) ∧ w'.cell? ⟨g k, c * 4 + 3, none⟩ = some (.slice x.a2 x.k2 x.c2) ∧ w'.cell? ⟨g r, c * 4, none⟩ = some (.bool y.n1) ∧ w'.cell? ⟨g r, c * 4 + 1, none⟩ = some (.slice y.a1 y.k1 y.c1) ∧ w'.cell? ⟨g r, c * 4 + 2, none⟩ = some (.bool y.n2) ∧ w'.cell? ⟨g r, c * 4 + 3, none⟩ = some (.slice y.a2 y.k2 y.c2))
       (first | assumption | with_reducible exact HL.out _ HZ0.out | with_reducible exact HL.out _ (Below.drew HS.out) | with_reducible exact HL.out _ (Below.drew (allocs_below1 _ _)) | with_reducible exact HL.out _ (bt (HI.out _ (by assumption)) (allocs_below1 _ _)) | with_reducible exact HL.out _ (bt HZ0.out (allocs_below1 _ _)) | with_reducible exact HL.out _ (held_set4 HZ0.out (by first | exact Nat.le_refl _ | exact HZ0.out.size)))
       (first | (go_at_call 86; (with_reducible refine ((ratdiv_any (HX.out.below (HI.out _ (by assumption))) (HY.out.below (HI.out _ (by assumption))) rx ry (by omega) H0.out).mono fun _ _ h => h.plain).mono ?_); rintro e wk0 ⟨m3, b3, j3, q3, m4, b4, j4, q4, rfl, hu3, hbr0⟩; have HF := Lib.hid hu3; clear hu3; have HZ0 := Lib.hid (bt (HI.out _ (by assumption)) hbr0); (first | with_reducible (have HP1 := Lib.hid (one_next_d hbr0)) | with_reducible (have HP1 := Lib.hid (one_next hbr0)) | skip); try (have HPC := res4_facts HP1.out; obtain ⟨⟨d0, d1, d2, d3⟩, e0, e1, e2, e3⟩ := HPC)))
      all_goals (try go_wp2_with fail)
      all_goals go_meet
      all_goals (first | with_reducible exact blkR_set HP1.out HF.out (by first | exact Nat.le_refl _ | exact HZ0.out.size) HZ0.out | with_reducible exact blkR_new HF.out (Nat.le_refl _) HZ0.out)
     case rest =>
     obtain ⟨⟨b6, f1, f2, f3, f4, f5, f6, f7, f8, rfl, hblk, hf, hg6⟩, hbc⟩ := hcut
     have HF := Lib.hid hf
     have HBK := Lib.hid hblk
     have hb6 : ∀ i, i < m → g i < b6 := fun i hi => Nat.lt_of_lt_of_le (HR.out.row i hi).lt hg6
     have HB6 := Lib.hid hb6
     replace HR := Lib.hid (HR.out.below hbc)
     replace HO := Lib.hid (HO.out.next hbc)
     replace HMr := Lib.hid (blk_next HMr.out hbc)
     replace c0 := keepc hbc c0
     replace c1 := keepc hbc c1
     clear hf hblk hg6 hb6 hbc c2 x0 x1 x2 x3 y0 y1 y2 y3 HX HY HB1
     go_wp2
     clear c0 c1
     go_loopw [51] (fun j wj => ∃ (k' : Nat), j = .int .i64 k' ∧ k' ≤ n ∧ MatO wj G m n g (upIn A r c k k') ∧ OnlyP (RowsP m g) wc wj) (fun j _ => n - (intOf j).toNat)
     case atStart => exact ⟨0, rfl, by omega, HR.out, OnlyP.refl _ _⟩
     case round =>
      obtain ⟨j, rfl, hj, hmj, hoj⟩ := hrel
      have HRj := Lib.hid hmj
      have HOj := Lib.hid hoj
      clear hmj hoj
      have hnotM : ¬ RowsP m g M := fun ⟨i, hi, e⟩ => HMG.out i hi e.symm
      have hnot6 : ¬ RowsP m g b6 := fun ⟨i, hi, e⟩ => by have := HB6.out i hi; omega
      have HNM := Lib.hid hnotM
      have HN6 := Lib.hid hnot6
      clear hnotM hnot6
      by_cases hjn : j = n
      ·subst hjn
       have HR2 := Lib.hid (HRj.out.congr (fun a ha b hb => upIn_done a hb))
       have HO2 := Lib.hid (HO.out.trans HOj.out)
       go_wp2
       refine ⟨⟨k + 1, by go_num, by omega, HR2.out, HO2.out⟩, ?_⟩
       simp [intOf]; omega
      ·have hjl : j < n := by omega
       have hji : (j : Int) < (n : Int) := by omega
       have HMj := Lib.hid (HOj.out.heap HNM.out HMr.out)
       have HBj := Lib.hid (HOj.out.heap HN6.out HBK.out)
       have HFj := Lib.hid (HF.out.onlyP HOj.out HR.out.noInt)
       have c0 : wr.cell? ⟨M, 0, none⟩ = some (.slice (some ⟨G, 0, none⟩) m m) := by rw [Lib.cell_of_heap HMj.out]; rfl
       have c1 := HRj.out.head hkl
       have c2 := HRj.out.head hr
       obtain ⟨⟨z0, z1, z2, z3⟩, _, _, _, _⟩ := res4_facts HBj.out
       obtain ⟨x, hx4, hxq⟩ := (HRj.out.row k hkl).elem hjl
       obtain ⟨x0, x1, x2, x3⟩ := hx4
       obtain ⟨y, hy4, hyq⟩ := (HRj.out.row r hr).elem hjl
       obtain ⟨y0, y1, y2, y3⟩ := hy4
       rw [upIn_here (Nat.le_refl _)] at hxq
       rw [upIn_row] at hyq
       have HX := Lib.hid (show RatR wr (.agg #[.bool x.n1, .slice x.a1 x.k1 x.c1, .bool x.n2, .slice x.a2 x.k2 x.c2]) (A k j) from hxq)
       have HY := Lib.hid (show RatR wr (.agg #[.bool y.n1, .slice y.a1 y.k1 y.c1, .bool y.n2, .slice y.a2 y.k2 y.c2]) (A r j) from hyq)
       have q1 := HN.out k hkl j hjl
       have q2 := HN.out r hr j hjl
       have rf := (HN.out k hkl c hc).div (HN.out r hr c hc)
       have rp := rf.mul (q2.mono (show N ≤ 2 * N + 1 by omega))
       have hk1 : g k ≠ G := HRj.out.apart k hkl
       have hk2 : M ≠ g k := fun e => HMG.out k hkl e.symm
       have hk3 : b6 ≠ g k := fun e => by have := HB6.out k hkl; omega
       have hk4 : g r ≠ g k := fun e => hkr (HRj.out.inj k r hkl hr e.symm)
       have HRow := Lib.hid (HRj.out.row k hkl)
       have HL := Lib.hid (fun (w' : World) (hs : Stay (g k) (g k + 1) wr w') => (⟨hs, hs.cell (off_one hk2) c0, hs.cell (off_one (Ne.symm hk1)) c1, hs.cell (off_one (Ne.symm hk1)) c2, hs.cell (off_one hk3) z0, hs.cell (off_one hk3) z1, hs.cell (off_one hk3) z2, hs.cell (off_one hk3) z3, hs.cell (off_one hk4) y0, hs.cell (off_one hk4) y1, hs.cell (off_one hk4) y2, hs.cell (off_one hk4) y3⟩ : Stay (g k) (g k + 1) wr w' ∧ w'.cell? ⟨M, 0, none⟩ = some (.slice (some ⟨G, 0, none⟩) m m) ∧ w'.cell? ⟨G, k, none⟩ = some (.slice (some ⟨g k, 0, none⟩) n n) ∧ w'.cell? ⟨G, r, none⟩ = some (.slice (some ⟨g r, 0, none⟩) n n) ∧ w'.cell? ⟨b6, 0, none⟩ = some (.bool f1) ∧ w'.cell? ⟨b6, 1, none⟩ = some (.slice f2 f3 f4) ∧ w'.cell? ⟨b6, 2, none⟩ = some (.bool f5) ∧ w'.cell? ⟨b6, 3, none⟩ = some (.slice f6 f7 f8) ∧ w'.cell? ⟨g r, j * 4, none⟩ = some (.bool y.n1) ∧ w'.cell? ⟨g r, j * 4 + 1, none⟩ = some (.slice y.a1 y.k1 y.c1) ∧ w'.cell? ⟨g r, j * 4 + 2, none⟩ = some (.bool y.n2) ∧ w'.cell? ⟨g r, j * 4 + 3, none⟩ = some (.slice y.a2 y.k2 y.c2)))
       have HI := Lib.hid (fun (w' : World) (hs : Stay (g k) (g k + 1) wr w' ∧ w'.cell? ⟨M, 0, none⟩ = some (.slice (some ⟨G, 0, none⟩) m m) ∧ w'.cell? ⟨G, k, none⟩ = some (.slice (some ⟨g k, 0, none⟩) n n) ∧ w'.cell? ⟨G, r, none⟩ = some (.slice (some ⟨g r, 0, none⟩) n n) ∧ w'.cell? ⟨b6, 0, none⟩ = some (.bool f1) ∧ w'.cell? ⟨b6, 1, none⟩ = some (.slice f2 f3 f4) ∧ w'.cell? ⟨b6, 2, none⟩ = some (.bool f5) ∧ w'.cell? ⟨b6, 3, none⟩ = some (.slice f6 f7 f8) ∧ w'.cell? ⟨g r, j * 4, none⟩ = some (.bool y.n1) ∧ w'.cell? ⟨g r, j * 4 + 1, none⟩ = some (.slice y.a1 y.k1 y.c1) ∧ w'.cell? ⟨g r, j * 4 + 2, none⟩ = some (.bool y.n2) ∧ w'.cell? ⟨g r, j * 4 + 3, none⟩ = some (.slice y.a2 y.k2 y.c2)) => hs.1)
       have HS := Lib.hid (Stay.refl (g k) (g k + 1) wr)
       have HNI := Lib.hid (noInt_one HRow.out.noInt)
       clear hxq hyq hk1 hk2 hk3 hk4
       go_wp2_with fail
       clear c0 c1 c2 z0 z1 z2 z3 y0 y1 y2 y3
       refine wp_region_held_drew (S := fun w' => Stay (g k) (g k + 1) wr w' ∧ w'.cell? ⟨M, 0, none⟩ = some (.slice (some ⟨G, 0, none⟩) m m) ∧ w'.cell? ⟨G, k, none⟩ = some (.slice (some ⟨g k, 0, none⟩) n n) ∧ w'.cell? ⟨G, r, none⟩ = some (.slice (some ⟨g r, 0, none⟩) n n) ∧ w'.cell? ⟨b6, 0, none⟩ = some (.bool f1) ∧ w'.cell? ⟨b6, 1, none⟩ = some (.slice f2 f3 f4) ∧ w'.cell? ⟨b6, 2, none⟩ = some (.bool f5) ∧ w'.cell? ⟨b6, 3, none⟩ = some (.slice f6 f7 f8) ∧ w'.cell? ⟨g r, j * 4, none⟩ = some (.bool y.n1) ∧ w'.cell? ⟨g r, j * 4 + 1, none⟩ = some (.slice y.a1 y.k1 y.c1) ∧ w'.cell? ⟨g r, j * 4 + 2, none⟩ = some (.bool y.n2) ∧ w'.cell? ⟨g r, j * 4 + 3, none⟩ = some (.slice y.a2 y.k2 y.c2)) (by kernel_rfl) ?_ (fun hHeld => ?_)
       ·(first | assumption | with_reducible exact HL.out _ (Stay.drew HS.out) | with_reducible exact HL.out _ HT1.out | with_reducible exact HL.out _ HT2.out | with_reducible exact HL.out _ (stay_four HT2.out))
       (try dsimp only at hHeld)
       refine wpAnyH_take (i := 0) (oi := (⟨some 54, .load 70 (.tmp 2), 70, "linear.go:66", #[], none⟩ : Oper)) (v := ?y1_1_v) rfl (by kernel_rfl) (by kernel_rfl) (by kernel_rfl) (fun _ _ _ h => h) (Or.inl ⟨by rfl, ?y1_1_h⟩) hHeld ?y1_1_r
       case y1_1_h => (intro w hSw; (try dsimp only at hSw); go_simp; all_goals with_reducible rfl)
       (try simp only [Act.put, List.setIfInBounds_toArray, List.set_cons_zero, List.set_cons_succ])
       refine wpAnyH_take (i := 1) (oi := (⟨some 55, .move (.tmp 5), 3, "linear.go:66", #[], none⟩ : Oper)) (v := ?y1_2_v) rfl (by kernel_rfl) (by kernel_rfl) (by kernel_rfl) (fun _ _ _ h => h) (Or.inl ⟨by rfl, ?y1_2_h⟩) hHeld ?y1_2_r
       case y1_2_h => (intro w hSw; (try dsimp only at hSw); go_simp; all_goals with_reducible rfl)
       (try simp only [Act.put, List.setIfInBounds_toArray, List.set_cons_zero, List.set_cons_succ])
       refine wpAnyH_take (i := 2) (oi := (⟨some 56, .indexAddr 70 (.tmp 54) (.tmp 55), 0, "linear.go:66", #[⟨0, .data⟩, ⟨1, .data⟩], none⟩ : Oper)) (v := ?y1_3_v) rfl (by kernel_rfl) (by kernel_rfl) (by kernel_rfl) (fun _ _ _ h => h) (Or.inl ⟨by rfl, ?y1_3_h⟩) hHeld ?y1_3_r
       case y1_3_h => (intro w hSw; (try dsimp only at hSw); go_simp; all_goals with_reducible rfl)
       (try simp only [Act.put, List.setIfInBounds_toArray, List.set_cons_zero, List.set_cons_succ])
       refine wpAnyH_take (i := 3) (oi := (⟨some 57, .load 26 (.tmp 56), 26, "linear.go:66", #[⟨2, .data⟩], none⟩ : Oper)) (v := ?y1_4_v) rfl (by kernel_rfl) (by kernel_rfl) (by kernel_rfl) (fun _ _ _ h => h) (Or.inl ⟨by rfl, ?y1_4_h⟩) hHeld ?y1_4_r
       case y1_4_h => (intro w hSw; (try dsimp only at hSw); go_simp; all_goals with_reducible rfl)
       (try simp only [Act.put, List.setIfInBounds_toArray, List.set_cons_zero, List.set_cons_succ])
       refine wpAnyH_take (i := 4) (oi := (⟨some 58, .move (.tmp 8), 3, "linear.go:66", #[], none⟩ : Oper)) (v := ?y1_5_v) rfl (by kernel_rfl) (by kernel_rfl) (by kernel_rfl) (fun _ _ _ h => h) (Or.inl ⟨by rfl, ?y1_5_h⟩) hHeld ?y1_5_r
       case y1_5_h => (intro w hSw; (try dsimp only at hSw); go_simp; all_goals with_reducible rfl)
       (try simp only [Act.put, List.setIfInBounds_toArray, List.set_cons_zero, List.set_cons_succ])
       refine wpAnyH_take (i := 5) (oi := (⟨some 59, .load 70 (.tmp 2), 70, "linear.go:66", #[], none⟩ : Oper)) (v := ?y1_6_v) rfl (by kernel_rfl) (by kernel_rfl) (by kernel_rfl) (fun _ _ _ h => h) (Or.inl ⟨by rfl, ?y1_6_h⟩) hHeld ?y1_6_r
       case y1_6_h => (intro w hSw; (try dsimp only at hSw); go_simp; all_goals with_reducible rfl)
       (try simp only [Act.put, List.setIfInBounds_toArray, List.set_cons_zero, List.set_cons_succ])
       refine wpAnyH_take (i := 6) (oi := (⟨some 60, .move (.tmp 5), 3, "linear.go:66", #[], none⟩ : Oper)) (v := ?y1_7_v) rfl (by kernel_rfl) (by kernel_rfl) (by kernel_rfl) (fun _ _ _ h => h) (Or.inl ⟨by rfl, ?y1_7_h⟩) hHeld ?y1_7_r
       case y1_7_h => (intro w hSw; (try dsimp only at hSw); go_simp; all_goals with_reducible rfl)
       (try simp only [Act.put, List.setIfInBounds_toArray, List.set_cons_zero, List.set_cons_succ])
       refine wpAnyH_take (i := 7) (oi := (⟨some 61, .indexAddr 70 (.tmp 59) (.tmp 60), 0, "linear.go:66", #[⟨5, .data⟩, ⟨6, .data⟩], none⟩ : Oper)) (v := ?y1_8_v) rfl (by kernel_rfl) (by kernel_rfl) (by kernel_rfl) (fun _ _ _ h => h) (Or.inl ⟨by rfl, ?y1_8_h⟩) hHeld ?y1_8_r
       case y1_8_h => (intro w hSw; (try dsimp only at hSw); go_simp; all_goals with_reducible rfl)
       (try simp only [Act.put, List.setIfInBounds_toArray, List.set_cons_zero, List.set_cons_succ])
       refine wpAnyH_take (i := 8) (oi := (⟨some 62, .load 26 (.tmp 61), 26, "linear.go:66", #[⟨7, .data⟩], none⟩ : Oper)) (v := ?y1_9_v) rfl (by kernel_rfl) (by kernel_rfl) (by kernel_rfl) (fun _ _ _ h => h) (Or.inl ⟨by rfl, ?y1_9_h⟩) hHeld ?y1_9_r
       case y1_9_h => (intro w hSw; (try dsimp only at hSw); go_simp; all_goals with_reducible rfl)
       (try simp only [Act.put, List.setIfInBounds_toArray, List.set_cons_zero, List.set_cons_succ])
       refine wpAnyH_take (i := 9) (oi := (⟨some 63, .move (.tmp 8), 3, "linear.go:66", #[], none⟩ : Oper)) (v := ?y1_10_v) rfl (by kernel_rfl) (by kernel_rfl) (by kernel_rfl) (fun _ _ _ h => h) (Or.inl ⟨by rfl, ?y1_10_h⟩) hHeld ?y1_10_r
       case y1_10_h => (intro w hSw; (try dsimp only at hSw); go_simp; all_goals with_reducible rfl)
       (try simp only [Act.put, List.setIfInBounds_toArray, List.set_cons_zero, List.set_cons_succ])
       refine wpAnyH_take (i := 10) (oi := (⟨some 64, .indexAddr 26 (.tmp 62) (.tmp 63), 0, "linear.go:66", #[⟨8, .data⟩, ⟨9, .data⟩], none⟩ : Oper)) (v := ?y1_11_v) rfl (by kernel_rfl) (by kernel_rfl) (by kernel_rfl) (fun _ _ _ h => h) (Or.inl ⟨by rfl, ?y1_11_h⟩) hHeld ?y1_11_r
       case y1_11_h => (intro w hSw; (try dsimp only at hSw); go_simp; all_goals with_reducible rfl)
       (try simp only [Act.put, List.setIfInBounds_toArray, List.set_cons_zero, List.set_cons_succ])
       refine wpAnyH_take (i := 12) (oi := (⟨some 66, .load 37 (.tmp 6), 37, "linear.go:66", #[], none⟩ : Oper)) (v := ?y1_12_v) rfl (by kernel_rfl) (by kernel_rfl) (by kernel_rfl) (fun _ _ _ h => h) (Or.inl ⟨by rfl, ?y1_12_h⟩) hHeld ?y1_12_r
       case y1_12_h => (intro w hSw; (try dsimp only at hSw); go_simp; all_goals with_reducible rfl)
       (try simp only [Act.put, List.setIfInBounds_toArray, List.set_cons_zero, List.set_cons_succ])
       refine wpAnyH_take (i := 13) (oi := (⟨some 67, .load 70 (.tmp 2), 70, "linear.go:66", #[], none⟩ : Oper)) (v := ?y1_13_v) rfl (by kernel_rfl) (by kernel_rfl) (by kernel_rfl) (fun _ _ _ h => h) (Or.inl ⟨by rfl, ?y1_13_h⟩) hHeld ?y1_13_r
       case y1_13_h => (intro w hSw; (try dsimp only at hSw); go_simp; all_goals with_reducible rfl)
       (try simp only [Act.put, List.setIfInBounds_toArray, List.set_cons_zero, List.set_cons_succ])
       refine wpAnyH_take (i := 14) (oi := (⟨some 68, .move (.tmp 0), 3, "linear.go:66", #[], none⟩ : Oper)) (v := ?y1_14_v) rfl (by kernel_rfl) (by kernel_rfl) (by kernel_rfl) (fun _ _ _ h => h) (Or.inl ⟨by rfl, ?y1_14_h⟩) hHeld ?y1_14_r
       case y1_14_h => (intro w hSw; (try dsimp only at hSw); go_simp; all_goals with_reducible rfl)
       (try simp only [Act.put, List.setIfInBounds_toArray, List.set_cons_zero, List.set_cons_succ])
       refine wpAnyH_take (i := 15) (oi := (⟨some 69, .indexAddr 70 (.tmp 67) (.tmp 68), 0, "linear.go:66", #[⟨13, .data⟩, ⟨14, .data⟩], none⟩ : Oper)) (v := ?y1_15_v) rfl (by kernel_rfl) (by kernel_rfl) (by kernel_rfl) (fun _ _ _ h => h) (Or.inl ⟨by rfl, ?y1_15_h⟩) hHeld ?y1_15_r
       case y1_15_h => (intro w hSw; (try dsimp only at hSw); go_simp; all_goals with_reducible rfl)
       (try simp only [Act.put, List.setIfInBounds_toArray, List.set_cons_zero, List.set_cons_succ])
       refine wpAnyH_take (i := 16) (oi := (⟨some 70, .load 26 (.tmp 69), 26, "linear.go:66", #[⟨15, .data⟩], none⟩ : Oper)) (v := ?y1_16_v) rfl (by kernel_rfl) (by kernel_rfl) (by kernel_rfl) (fun _ _ _ h => h) (Or.inl ⟨by rfl, ?y1_16_h⟩) hHeld ?y1_16_r
       case y1_16_h => (intro w hSw; (try dsimp only at hSw); go_simp; all_goals with_reducible rfl)
       (try simp only [Act.put, List.setIfInBounds_toArray, List.set_cons_zero, List.set_cons_succ])
       refine wpAnyH_take (i := 17) (oi := (⟨some 71, .move (.tmp 8), 3, "linear.go:66", #[], none⟩ : Oper)) (v := ?y1_17_v) rfl (by kernel_rfl) (by kernel_rfl) (by kernel_rfl) (fun _ _ _ h => h) (Or.inl ⟨by rfl, ?y1_17_h⟩) hHeld ?y1_17_r
       case y1_17_h => (intro w hSw; (try dsimp only at hSw); go_simp; all_goals with_reducible rfl)
       (try simp only [Act.put, List.setIfInBounds_toArray, List.set_cons_zero, List.set_cons_succ])
       refine wpAnyH_take (i := 18) (oi := (⟨some 72, .indexAddr 26 (.tmp 70) (.tmp 71), 0, "linear.go:66", #[⟨16, .data⟩, ⟨17, .data⟩], none⟩ : Oper)) (v := ?y1_18_v) rfl (by kernel_rfl) (by kernel_rfl) (by kernel_rfl) (fun _ _ _ h => h) (Or.inl ⟨by rfl, ?y1_18_h⟩) hHeld ?y1_18_r
       case y1_18_h => (intro w hSw; (try dsimp only at hSw); go_simp; all_goals with_reducible rfl)
       (try simp only [Act.put, List.setIfInBounds_toArray, List.set_cons_zero, List.set_cons_succ])
       refine wpAnyH_take (i := 19) (oi := (⟨some 73, .load 37 (.tmp 72), 37, "linear.go:66", #[⟨18, .data⟩], none⟩ : Oper)) (v := ?y1_19_v) rfl (by kernel_rfl) (by kernel_rfl) (by kernel_rfl) (fun _ _ _ h => h) (Or.inl ⟨by rfl, ?y1_19_h⟩) hHeld ?y1_19_r
       case y1_19_h => (intro w hSw; (try dsimp only at hSw); go_simp; all_goals with_reducible rfl)
       (try simp only [Act.put, List.setIfInBounds_toArray, List.set_cons_zero, List.set_cons_succ])
       refine wpAnyH_ready (rs := [11, 20]) (by kernel_rfl) (by simp) ?_
       refine AllReadyH.cons (o := (⟨some 65, .load 37 (.tmp 64), 37, "linear.go:66", #[⟨10, .data⟩], none⟩ : Oper)) rfl (fun K hK => ?_) (AllReadyH.cons (o := (⟨some 74, .call { callee := .value (.func 52), args := #[.tmp 66, .tmp 73], argTypes := #[37, 37] }, 37, "linear.go:66", #[⟨12, .data⟩, ⟨19, .data⟩], none⟩ : Oper)) rfl (fun K hK => ?_) AllReadyH.nil)
       ·go_simp
        first | refine hK.out _ _ ?_ (fun hHeld => ?_) | (go_wp2_with fail; refine hK.out _ _ ?_ (fun hHeld => ?_))
        ·(first | assumption | with_reducible exact HL.out _ (Stay.drew HS.out) | with_reducible exact HL.out _ HT1.out | with_reducible exact HL.out _ HT2.out | with_reducible exact HL.out _ (stay_four HT2.out))
        clear hK K
        (try dsimp only at hHeld)
        (try simp only [Act.put, List.setIfInBounds_toArray, List.set_cons_zero, List.set_cons_succ])
        refine wpAnyH_ready (rs := [20]) (by kernel_rfl) (by simp) ?_
        refine AllReadyH.cons (o := (⟨some 74, .call { callee := .value (.func 52), args := #[.tmp 66, .tmp 73], argTypes := #[37, 37] }, 37, "linear.go:66", #[⟨12, .data⟩, ⟨19, .data⟩], none⟩ : Oper)) rfl (fun K hK => ?_) AllReadyH.nil
        go_simp
        (go_at_call 52; (with_reducible refine (ratmul_any (HFj.out.stay (HI.out _ (by assumption)) HNI.out) (HY.out.stay (HI.out _ (by assumption)) HNI.out) rf (q2.mono (show N ≤ 2 * N + 1 by omega)) (by omega)).mono ?_); rintro e v1 ⟨n3, p3, l3, d3, n4, p4, l4, d4, rfl, hu1, hu2, hbm⟩; have HP := Lib.hid (RatR.mk hu1 hu2 (.inl rfl)); clear hu1 hu2; have HT1 := Lib.hid (Stay.next (HI.out _ (by assumption)) hbm); have HM1 := Lib.hid ((HRj.out.below (Below.drew (Below.refl _ _))).below hbm); have HO1 := Lib.hid ((HOj.out.next (Below.drew (Below.refl _ _))).next hbm); have x4 := keepc (w := wr.drew) hbm x0; have x5 := keepc (w := wr.drew) hbm x1; have x6 := keepc (w := wr.drew) hbm x2; have x7 := keepc (w := wr.drew) hbm x3)
        first | refine hK.out _ _ ?_ (fun hHeld => ?_) | (go_wp2_with fail; refine hK.out _ _ ?_ (fun hHeld => ?_))
        ·(first | assumption | with_reducible exact HL.out _ (Stay.drew HS.out) | with_reducible exact HL.out _ HT1.out | with_reducible exact HL.out _ HT2.out | with_reducible exact HL.out _ (stay_four HT2.out))
        clear hK K
        (try dsimp only at hHeld)
        (try simp only [Act.put, List.setIfInBounds_toArray, List.set_cons_zero, List.set_cons_succ])
        refine wpAnyH_ready (rs := [21]) (by kernel_rfl) (by simp) ?_
        refine AllReadyH.cons (o := (⟨some 75, .call { callee := .value (.func 103), args := #[.tmp 65, .tmp 74], argTypes := #[37, 37] }, 37, "linear.go:66", #[⟨11, .data⟩, ⟨20, .data⟩, ⟨20, .chain⟩], none⟩ : Oper)) rfl (fun K hK => ?_) AllReadyH.nil
        go_simp
        (go_at_call 103; (with_reducible refine (ratsub_any ((HX.out.below (w := wr) (Below.drew (Below.refl _ _))).below hbm) HP.out (q1.mono (show N ≤ 4 * N + 3 by omega)) (rp.mono (show 2 * (2 * N + 1) + 1 ≤ 4 * N + 3 by omega)) (by omega)).mono ?_); rintro e v2 ⟨n5, p5, l5, d5, n6, p6, l6, d6, rfl, hu3, hu4, hbs⟩; have HQ := Lib.hid (show RatN v2 ⟨n5, p5, l5, d5, n6, p6, l6, d6⟩ (A k j - A k c / A r c * A r j) from RatR.mk hu3 hu4 (.inl rfl)); clear hu3 hu4; have HT2 := Lib.hid (Stay.next HT1.out hbs); have HM2 := Lib.hid (HM1.out.below hbs); have HO2 := Lib.hid (HO1.out.next hbs); have x8 := keepc hbs x4; have x9 := keepc hbs x5; have xa := keepc hbs x6; have xb := keepc hbs x7; have g0 := (HM2.out.row k hkl).unfrozen (j * 4); have g1 := (HM2.out.row k hkl).unfrozen (j * 4 + 1); have g2 := (HM2.out.row k hkl).unfrozen (j * 4 + 2); have g3 := (HM2.out.row k hkl).unfrozen (j * 4 + 3))
        first | refine hK.out _ _ ?_ (fun hHeld => ?_) | (go_wp2_with fail; refine hK.out _ _ ?_ (fun hHeld => ?_))
        ·(first | assumption | with_reducible exact HL.out _ (Stay.drew HS.out) | with_reducible exact HL.out _ HT1.out | with_reducible exact HL.out _ HT2.out | with_reducible exact HL.out _ (stay_four HT2.out))
        clear hK K
        (try dsimp only at hHeld)
        (try simp only [Act.put, List.setIfInBounds_toArray, List.set_cons_zero, List.set_cons_succ])
        refine wpAnyH_take (i := 22) (oi := (⟨some 76, .indexAddr 26 (.tmp 57) (.tmp 58), 0, "linear.go:66", #[⟨3, .data⟩, ⟨4, .data⟩, ⟨0, .phase⟩, ⟨1, .phase⟩, ⟨2, .phase⟩, ⟨3, .phase⟩, ⟨4, .phase⟩, ⟨5, .phase⟩, ⟨6, .phase⟩, ⟨7, .phase⟩, ⟨8, .phase⟩, ⟨9, .phase⟩, ⟨10, .phase⟩, ⟨11, .phase⟩, ⟨12, .phase⟩, ⟨13, .phase⟩, ⟨14, .phase⟩, ⟨15, .phase⟩, ⟨16, .phase⟩, ⟨17, .phase⟩, ⟨18, .phase⟩, ⟨19, .phase⟩, ⟨20, .phase⟩, ⟨21, .phase⟩], none⟩ : Oper)) (v := ?y1_20_v) rfl (by kernel_rfl) (by kernel_rfl) (by kernel_rfl) (fun _ _ _ h => h) (Or.inl ⟨by rfl, ?y1_20_h⟩) hHeld ?y1_20_r
        case y1_20_h => (intro w hSw; (try dsimp only at hSw); go_simp; all_goals with_reducible rfl)
        (try simp only [Act.put, List.setIfInBounds_toArray, List.set_cons_zero, List.set_cons_succ])
        refine wpAnyH_ready (rs := [23]) (by kernel_rfl) (by simp) ?_
        refine AllReadyH.cons (o := (⟨none, .store 37 (.tmp 76) (.tmp 75), 0, "linear.go:66", #[⟨22, .data⟩, ⟨21, .data⟩, ⟨21, .chain⟩, ⟨0, .phase⟩, ⟨1, .phase⟩, ⟨2, .phase⟩, ⟨3, .phase⟩, ⟨4, .phase⟩, ⟨5, .phase⟩, ⟨6, .phase⟩, ⟨7, .phase⟩, ⟨8, .phase⟩, ⟨9, .phase⟩, ⟨10, .phase⟩, ⟨11, .phase⟩, ⟨12, .phase⟩, ⟨13, .phase⟩, ⟨14, .phase⟩, ⟨15, .phase⟩, ⟨16, .phase⟩, ⟨17, .phase⟩, ⟨18, .phase⟩, ⟨19, .phase⟩, ⟨20, .phase⟩, ⟨21, .phase⟩], none⟩ : Oper)) rfl (fun K hK => ?_) AllReadyH.nil
        go_simp
        first | refine hK.out _ _ ?_ (fun hHeld => ?_) | (go_wp2_with fail; refine hK.out _ _ ?_ (fun hHeld => ?_))
        ·(first | assumption | with_reducible exact HL.out _ (Stay.drew HS.out) | with_reducible exact HL.out _ HT1.out | with_reducible exact HL.out _ HT2.out | with_reducible exact HL.out _ (stay_four HT2.out))
        clear hK K
        (try dsimp only at hHeld)
        (try simp only [Act.put, List.setIfInBounds_toArray, List.set_cons_zero, List.set_cons_succ])
        refine wpAnyH_done (by kernel_rfl) ?_ _
        have HF3 := Lib.hid ((HM2.out.put hkl hjl HQ.out).congr (fun a ha b hb => upIn_put hkr a b))
        have HO3 := Lib.hid (HO2.out.trans (MatO.putOnly (g := g) (m := m) (k := j) (x := ⟨n5, p5, l5, d5, n6, p6, l6, d6⟩) hkl))
        clear x4 x5 x6 x7 x8 x9 xa xb g0 g1 g2 g3
        go_wp2
        refine ⟨⟨j + 1, by go_num, by omega, HF3.out, HO3.out⟩, ?_⟩
        simp [intOf]; omega
       ·go_simp
        (go_at_call 52; (with_reducible refine (ratmul_any (HFj.out.stay (HI.out _ (by assumption)) HNI.out) (HY.out.stay (HI.out _ (by assumption)) HNI.out) rf (q2.mono (show N ≤ 2 * N + 1 by omega)) (by omega)).mono ?_); rintro e v1 ⟨n3, p3, l3, d3, n4, p4, l4, d4, rfl, hu1, hu2, hbm⟩; have HP := Lib.hid (RatR.mk hu1 hu2 (.inl rfl)); clear hu1 hu2; have HT1 := Lib.hid (Stay.next (HI.out _ (by assumption)) hbm); have HM1 := Lib.hid ((HRj.out.below (Below.drew (Below.refl _ _))).below hbm); have HO1 := Lib.hid ((HOj.out.next (Below.drew (Below.refl _ _))).next hbm); have x4 := keepc (w := wr.drew) hbm x0; have x5 := keepc (w := wr.drew) hbm x1; have x6 := keepc (w := wr.drew) hbm x2; have x7 := keepc (w := wr.drew) hbm x3)
        first | refine hK.out _ _ ?_ (fun hHeld => ?_) | (go_wp2_with fail; refine hK.out _ _ ?_ (fun hHeld => ?_))
        ·(first | assumption | with_reducible exact HL.out _ (Stay.drew HS.out) | with_reducible exact HL.out _ HT1.out | with_reducible exact HL.out _ HT2.out | with_reducible exact HL.out _ (stay_four HT2.out))
        clear hK K
        (try dsimp only at hHeld)
        (try simp only [Act.put, List.setIfInBounds_toArray, List.set_cons_zero, List.set_cons_succ])
        refine wpAnyH_ready (rs := [11]) (by kernel_rfl) (by simp) ?_
        refine AllReadyH.cons (o := (⟨some 65, .load 37 (.tmp 64), 37, "linear.go:66", #[⟨10, .data⟩], none⟩ : Oper)) rfl (fun K hK => ?_) AllReadyH.nil
        go_simp
        first | refine hK.out _ _ ?_ (fun hHeld => ?_) | (go_wp2_with fail; refine hK.out _ _ ?_ (fun hHeld => ?_))
        ·(first | assumption | with_reducible exact HL.out _ (Stay.drew HS.out) | with_reducible exact HL.out _ HT1.out | with_reducible exact HL.out _ HT2.out | with_reducible exact HL.out _ (stay_four HT2.out))
        clear hK K
        (try dsimp only at hHeld)
        (try simp only [Act.put, List.setIfInBounds_toArray, List.set_cons_zero, List.set_cons_succ])
        refine wpAnyH_ready (rs := [21]) (by kernel_rfl) (by simp) ?_
        refine AllReadyH.cons (o := (⟨some 75, .call { callee := .value (.func 103), args := #[.tmp 65, .tmp 74], argTypes := #[37, 37] }, 37, "linear.go:66", #[⟨11, .data⟩, ⟨20, .data⟩, ⟨20, .chain⟩], none⟩ : Oper)) rfl (fun K hK => ?_) AllReadyH.nil
        go_simp
        (go_at_call 103; (with_reducible refine (ratsub_any ((HX.out.below (w := wr) (Below.drew (Below.refl _ _))).below hbm) HP.out (q1.mono (show N ≤ 4 * N + 3 by omega)) (rp.mono (show 2 * (2 * N + 1) + 1 ≤ 4 * N + 3 by omega)) (by omega)).mono ?_); rintro e v2 ⟨n5, p5, l5, d5, n6, p6, l6, d6, rfl, hu3, hu4, hbs⟩; have HQ := Lib.hid (show RatN v2 ⟨n5, p5, l5, d5, n6, p6, l6, d6⟩ (A k j - A k c / A r c * A r j) from RatR.mk hu3 hu4 (.inl rfl)); clear hu3 hu4; have HT2 := Lib.hid (Stay.next HT1.out hbs); have HM2 := Lib.hid (HM1.out.below hbs); have HO2 := Lib.hid (HO1.out.next hbs); have x8 := keepc hbs x4; have x9 := keepc hbs x5; have xa := keepc hbs x6; have xb := keepc hbs x7; have g0 := (HM2.out.row k hkl).unfrozen (j * 4); have g1 := (HM2.out.row k hkl).unfrozen (j * 4 + 1); have g2 := (HM2.out.row k hkl).unfrozen (j * 4 + 2); have g3 := (HM2.out.row k hkl).unfrozen (j * 4 + 3))
        first | refine hK.out _ _ ?_ (fun hHeld => ?_) | (go_wp2_with fail; refine hK.out _ _ ?_ (fun hHeld => ?_))
        ·(first | assumption | with_reducible exact HL.out _ (Stay.drew HS.out) | with_reducible exact HL.out _ HT1.out | with_reducible exact HL.out _ HT2.out | with_reducible exact HL.out _ (stay_four HT2.out))
        clear hK K
        (try dsimp only at hHeld)
        (try simp only [Act.put, List.setIfInBounds_toArray, List.set_cons_zero, List.set_cons_succ])
        refine wpAnyH_take (i := 22) (oi := (⟨some 76, .indexAddr 26 (.tmp 57) (.tmp 58), 0, "linear.go:66", #[⟨3, .data⟩, ⟨4, .data⟩, ⟨0, .phase⟩, ⟨1, .phase⟩, ⟨2, .phase⟩, ⟨3, .phase⟩, ⟨4, .phase⟩, ⟨5, .phase⟩, ⟨6, .phase⟩, ⟨7, .phase⟩, ⟨8, .phase⟩, ⟨9, .phase⟩, ⟨10, .phase⟩, ⟨11, .phase⟩, ⟨12, .phase⟩, ⟨13, .phase⟩, ⟨14, .phase⟩, ⟨15, .phase⟩, ⟨16, .phase⟩, ⟨17, .phase⟩, ⟨18, .phase⟩, ⟨19, .phase⟩, ⟨20, .phase⟩, ⟨21, .phase⟩], none⟩ : Oper)) (v := ?y1_21_v) rfl (by kernel_rfl) (by kernel_rfl) (by kernel_rfl) (fun _ _ _ h => h) (Or.inl ⟨by rfl, ?y1_21_h⟩) hHeld ?y1_21_r
        case y1_21_h => (intro w hSw; (try dsimp only at hSw); go_simp; all_goals with_reducible rfl)
        (try simp only [Act.put, List.setIfInBounds_toArray, List.set_cons_zero, List.set_cons_succ])
        refine wpAnyH_ready (rs := [23]) (by kernel_rfl) (by simp) ?_
        refine AllReadyH.cons (o := (⟨none, .store 37 (.tmp 76) (.tmp 75), 0, "linear.go:66", #[⟨22, .data⟩, ⟨21, .data⟩, ⟨21, .chain⟩, ⟨0, .phase⟩, ⟨1, .phase⟩, ⟨2, .phase⟩, ⟨3, .phase⟩, ⟨4, .phase⟩, ⟨5, .phase⟩, ⟨6, .phase⟩, ⟨7, .phase⟩, ⟨8, .phase⟩, ⟨9, .phase⟩, ⟨10, .phase⟩, ⟨11, .phase⟩, ⟨12, .phase⟩, ⟨13, .phase⟩, ⟨14, .phase⟩, ⟨15, .phase⟩, ⟨16, .phase⟩, ⟨17, .phase⟩, ⟨18, .phase⟩, ⟨19, .phase⟩, ⟨20, .phase⟩, ⟨21, .phase⟩], none⟩ : Oper)) rfl (fun K hK => ?_) AllReadyH.nil
        go_simp
        first | refine hK.out _ _ ?_ (fun hHeld => ?_) | (go_wp2_with fail; refine hK.out _ _ ?_ (fun hHeld => ?_))
        ·(first | assumption | with_reducible exact HL.out _ (Stay.drew HS.out) | with_reducible exact HL.out _ HT1.out | with_reducible exact HL.out _ HT2.out | with_reducible exact HL.out _ (stay_four HT2.out))
        clear hK K
        (try dsimp only at hHeld)
        (try simp only [Act.put, List.setIfInBounds_toArray, List.set_cons_zero, List.set_cons_succ])
        refine wpAnyH_done (by kernel_rfl) ?_ _
        have HF3 := Lib.hid ((HM2.out.put hkl hjl HQ.out).congr (fun a ha b hb => upIn_put hkr a b))
        have HO3 := Lib.hid (HO2.out.trans (MatO.putOnly (g := g) (m := m) (k := j) (x := ⟨n5, p5, l5, d5, n6, p6, l6, d6⟩) hkl))
        clear x4 x5 x6 x7 x8 x9 xa xb g0 g1 g2 g3
        go_wp2
        refine ⟨⟨j + 1, by go_num, by omega, HF3.out, HO3.out⟩, ?_⟩
        simp [intOf]; omega
end Go.Proofs.YteionhenpehogaaGreatDoor
