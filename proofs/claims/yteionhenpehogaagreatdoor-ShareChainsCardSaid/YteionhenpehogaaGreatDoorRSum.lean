import Derived.Test.YteionhenpehogaaGreatDoorPlainWC
import Derived.Test.YteionhenpehogaaGreatDoorRBas
import Derived.Test.YteionhenpehogaaGreatDoorAwakeZ
import Derived.BigRegion
import Derived.IntWalk
import Derived.Deep.RegionWith
import Derived.Deep.DeepCutAuto
namespace Go.Proofs.YteionhenpehogaaGreatDoor
open Go.RowKit Tally Graph.Plain
def bS : Nat → Nat → Nat
 | 0, M => M + 6
 | s + 1, M => M + 6 + 6 * (bS s (M + 6) + 1)
theorem bS_ge : ∀ (s M : Nat), M + 6 ≤ bS s M
 | 0, M => Nat.le_refl _
 | s + 1, M => by unfold bS; omega
def vS (N : Nat) (Z : Nat → Nat → Int) (q : Rat) (t a e k : Nat) : Rat := q * ((if k = a then 1 else 0) + sumTo e (fun x => if x = 0 then 0 else Tally.part (Z a x) * chn N Z t x k))
theorem vS_start {N : Nat} {Z : Nat → Nat → Int} {q : Rat} {t a k : Nat} : vS N Z q t a 1 k = if k = a then q else 0 := by
 unfold vS
 have e : sumTo 1 (fun x => if x = 0 then 0 else Tally.part (Z a x) * chn N Z t x k) = 0 := by
  show (0 : Rat) + (if (0 : Nat) = 0 then (0 : Rat) else Tally.part (Z a 0) * chn N Z t 0 k) = 0
  rw [if_pos rfl]; grind
 rw [e]
 by_cases h : k = a
 ·rw [if_pos h, if_pos h]; grind
 ·rw [if_neg h, if_neg h]; grind
theorem vS_next {N : Nat} {Z : Nat → Nat → Int} {q : Rat} {t a e k : Nat} (he : 1 ≤ e) : vS N Z q t a (e + 1) k = vS N Z q t a e k + q * Tally.part (Z a e) * chn N Z t e k := by
 unfold vS
 have h : sumTo (e + 1) (fun x => if x = 0 then 0 else Tally.part (Z a x) * chn N Z t x k) = sumTo e (fun x => if x = 0 then 0 else Tally.part (Z a x) * chn N Z t x k) + Tally.part (Z a e) * chn N Z t e k := by
  show sumTo e _ + (if e = 0 then (0 : Rat) else Tally.part (Z a e) * chn N Z t e k) = _
  rw [if_neg (by omega)]
 rw [h]
 grind
theorem vS_skip {N : Nat} {Z : Nat → Nat → Int} {q : Rat} {t a e k : Nat} (hz : Z a e = 0) : vS N Z q t a (e + 1) k = vS N Z q t a e k := by
 unfold vS
 have h : sumTo (e + 1) (fun x => if x = 0 then 0 else Tally.part (Z a x) * chn N Z t x k) = sumTo e (fun x => if x = 0 then 0 else Tally.part (Z a x) * chn N Z t x k) := by
  show sumTo e _ + (if e = 0 then (0 : Rat) else Tally.part (Z a e) * chn N Z t e k) = _
  rw [hz, part_zero]
  by_cases z : e = 0
  ·rw [if_pos z]; grind
  ·rw [if_neg z]; grind
 rw [h]
theorem vS_done {N : Nat} {Z : Nat → Nat → Int} {q : Rat} {t a k : Nat} : vS N Z q t a N k = q * chn N Z (t + 1) a k := rfl
def GivesSum (w : World) (N : Nat) (Z : Nat → Nat → Int) (s a M : Nat) (q : Rat) (e : Ending) (w' : World) : Prop :=
 ∃ g : Nat, e = .returned (.slice (some ⟨g, 0, none⟩) N N) ∧ RowX w' g N (fun k => q * chn N Z s a k) ∧ (∀ k, k < N → Rg (bS s M) (q * chn N Z s a k)) ∧ w.heap.size ≤ g ∧ Below w.heap.size w w'
abbrev SumAt (N : Nat) (Z : Nat → Nat → Int) (s : Nat) : Prop :=
 ∀ (w : World) (v u : Value) (a M : Nat) (q : Rat), bS s M ≤ 400000000 → 1 ≤ M → a < N → MatZ w v N N Z → RRatR w u q → Rg M q →
  Calls Tryz.prog 61 #[v, .int .i64 (a : Nat), u, .int .i64 (s : Nat)] w (GivesSum w N Z s a M q)
set_option maxRecDepth 100000 in
set_option maxHeartbeats 8000000 in
theorem rsum_step {N : Nat} {Z : Nat → Nat → Int} (hN1 : 1 ≤ N) (hN6 : N ≤ 6) (hz : ∀ i k, i < N → k < N → 0 ≤ Z i k ∧ Z i k ≤ 10000) (s : Nat) (hs : s ≤ 6) (IH : ∀ t, s = t + 1 → SumAt N Z t) : SumAt N Z s := by
 intro w v u a M q hbs hM ha hm hu hq
 obtain ⟨ti2, hi2, hz20, hz21, hz22⟩ := info_parts rinfoQ
 obtain ⟨n1, a1, k1, c1, n2, a2, k2, c2, rfl⟩ := hu.shape
 obtain ⟨am, _, _, cm, rfl, _⟩ := id hm
 obtain ⟨bm, om, rfl, hml⟩ := hm.look (by omega)
 have hai : (a : Int) < (N : Int) := by omega
 have HM := Lib.hid hm
 have HML := Lib.hid hml
 have HU := Lib.hid hu
 have HQ := Lib.hid hq
 have HZ := Lib.hid hz
 have HIH := Lib.hid IH
 clear hm hml hu hq hz IH
 have hmk2 := fun W : World => run_make (P := Tryz.prog) (w := W) 76 86 ti2 (.agg #[.bool false, .slice none 0 0, .bool false, .slice none 0 0]) Tryz.underlying76 hi2 hz20 .i64 .i64 (N : Int) (N : Int) (by omega) (by omega) (by rw [hz22]; omega) (by omega)
 have e2 : ((N : Int)).toNat = N := by omega
 simp only [hz21, e2, show (Value.agg #[.bool false, .slice none 0 0, .bool false, .slice none 0 0]).cells = #[.bool false, .slice none 0 0, .bool false, .slice none 0 0] from rfl] at hmk2
 clear e2
 go_enter Tryz.func61, Tryz.ntmps61
 go_wp2_with fail
 clear hmk2
 obtain ⟨W1, hW, hs1, hb, b0, b1⟩ := alloc2 w (.cells #[.bool n1, .slice a1 k1 c1, .bool n2, .slice a2 k2 c2] 86) (.cells (madeCells #[.bool false, .slice none 0 0, .bool false, .slice none 0 0] (N * 4)) 86)
 rw [← hW]
 obtain ⟨OB, hOB⟩ : ∃ OB, w.heap.size + 1 = OB := ⟨_, rfl⟩
 rw [hOB] at b1 ⊢
 have HR0 := Lib.hid (RowX.made b1)
 have HF0 := Lib.hid b0
 have HB0 := Lib.hid hb
 have hz1 : OB < W1.heap.size := (Array.getElem?_eq_some_iff.1 b1).1
 clear hW hb b0 b1
 go_loopw [10] (fun i wl => ∃ e : Nat, e ≤ N ∧ i = .int .i64 e ∧ RowX wl OB N (fun _ => 0) ∧ wl.heap[w.heap.size]? = some (.cells #[.bool n1, .slice a1 k1 c1, .bool n2, .slice a2 k2 c2] 86 (0, 0)) ∧ Below w.heap.size w wl) (fun i _ => N - (RowKit.intOf i).toNat)
 case atStart => exact ⟨0, Nat.zero_le _, rfl, HR0.out, HF0.out, HB0.out⟩
 case round =>
  obtain ⟨e, he, rfl, hro, hf, hbo⟩ := hrel
  have HRO := Lib.hid hro
  have HF := Lib.hid hf
  have HB := Lib.hid hbo
  clear hro hf hbo HR0 HF0 HB0
  by_cases hel : e < N
  ·have hei : (e : Int) < (N : Int) := by omega
   go_wp2_with fail
   (with_reducible refine ((rint_any (n := 0) (by decide) (by decide)).mono fun _ _ h => h.plain).mono ?_)
   rintro en w7 ⟨m1, b1, j1, d1, m2, b2, j2, d2, rfl, hx, hb⟩
   have HX := Lib.hid (show rRatN w7 ⟨m1, b1, j1, d1, m2, b2, j2, d2⟩ 0 from hx)
   have HRO7 := Lib.hid (HRO.out.below hb)
   have HF7 := Lib.hid (blk_next HF.out hb)
   have HB7 := Lib.hid (bt HB.out hb)
   obtain ⟨x0, ⟨y0, y1, y2, y3⟩, _⟩ := HRO7.out.elem hel
   have g0 := HRO7.out.unfrozen (e * 4)
   have g1 := HRO7.out.unfrozen (e * 4 + 1)
   have g2 := HRO7.out.unfrozen (e * 4 + 2)
   have g3 := HRO7.out.unfrozen (e * 4 + 3)
   have HRO8 := Lib.hid ((HRO7.out.put hel HX.out).congr (fun k _ => show (if k = e then (0 : Rat) else 0) = 0 by split <;> rfl))
   have hst := putN_stay (w := w7) (b := OB) (o := e * 4) (x := ⟨m1, b1, j1, d1, m2, b2, j2, d2⟩)
   have HF8 := Lib.hid ((hst.block w.heap.size (Array.getElem?_eq_some_iff.1 HF7.out).1 (by omega)).trans HF7.out)
   have HB8 := Lib.hid (below_putN (o := e * 4) (x := ⟨m1, b1, j1, d1, m2, b2, j2, d2⟩) HB7.out (show w.heap.size ≤ OB by omega))
   clear hx hb HRO HRO7 HB HB7 HF HF7 hst
   go_wp2
   go_roundw
   case rel => exact ⟨e + 1, by omega, by go_num, HRO8.out, HF8.out, HB8.out⟩
   case measure => simp [RowKit.intOf]; omega
  obtain rfl : N = e := by omega
  obtain ⟨⟨p0, p1, p2, p3⟩, _⟩ := res4_facts HF.out
  obtain ⟨x0, ⟨y0, y1, y2, y3⟩, _⟩ := HRO.out.elem ha
  have g0 := HRO.out.unfrozen (a * 4)
  have g1 := HRO.out.unfrozen (a * 4 + 1)
  have g2 := HRO.out.unfrozen (a * 4 + 2)
  have g3 := HRO.out.unfrozen (a * 4 + 3)
  obtain ⟨w9, hW9⟩ : ∃ w9, putN wr OB (a * 4) ⟨n1, a1, k1, c1, n2, a2, k2, c2⟩ = w9 := ⟨_, rfl⟩
  have HR9 := Lib.hid (show RowX w9 OB N (fun k => if k = a then q else 0) from hW9 ▸ HRO.out.put ha (show rRatN wr ⟨n1, a1, k1, c1, n2, a2, k2, c2⟩ q from HU.out.below HB.out))
  have hst := putN_stay (w := wr) (b := OB) (o := a * 4) (x := ⟨n1, a1, k1, c1, n2, a2, k2, c2⟩)
  rw [hW9] at hst
  have HF9 := Lib.hid ((hst.block w.heap.size (Array.getElem?_eq_some_iff.1 HF.out).1 (by omega)).trans HF.out)
  have HB9 := Lib.hid (show Below w.heap.size w w9 from hW9 ▸ below_putN HB.out (show w.heap.size ≤ OB by omega))
  have HW9 := Lib.hid (show ((((wr.setCell ⟨OB, a * 4, none⟩ (.bool n1)).setCell ⟨OB, a * 4 + 1, none⟩ (.slice a1 k1 c1)).setCell ⟨OB, a * 4 + 2, none⟩ (.bool n2)).setCell ⟨OB, a * 4 + 3, none⟩ (.slice a2 k2 c2)) = w9 from hW9)
  clear hst hW9 HRO HF HB
  by_cases hs0 : s = 0
  ·subst hs0
   have HV := Lib.hid (HR9.out.congr (g := fun k => q * chn N Z 0 a k) (fun k _ => by
    show _ = q * (if k = a then 1 else 0)
    by_cases z : k = a
    ·rw [if_pos z, if_pos z]; grind
    ·rw [if_neg z, if_neg z]; grind))
   have HG := Lib.hid (show ∀ k, k < N → Rg (bS 0 M) (q * chn N Z 0 a k) from fun k _ => by
    show Rg (M + 6) (q * (if k = a then 1 else 0))
    by_cases z : k = a
    ·rw [if_pos z, show q * 1 = q by grind]; exact HQ.out.mono (by omega)
    ·rw [if_neg z, show q * 0 = 0 by grind]; exact Rg.of (fw_zero (M + 5)))
   go_wp2
   go_ret
   rw [HW9.out]
   exact ⟨OB, rfl, HV.out, HG.out, by omega, HB9.out⟩
  obtain ⟨t, rfl⟩ : ∃ t, s = t + 1 := ⟨s - 1, by omega⟩
  have hsi : (((t + 1 : Nat) : Int) == 0) = false := by rw [beq_eq_false_iff_ne]; omega
  have HIT := Lib.hid (HIH.out t rfl)
  obtain ⟨Y, hY⟩ : ∃ Y, bS t (M + 6) = Y := ⟨_, rfl⟩
  have hYb : bS (t + 1) M = M + 6 + 6 * (Y + 1) := by rw [← hY]; rfl
  have hYl : Y ≤ 400000000 := by omega
  have hY5 := bS_ge t (M + 6)
  rw [hY] at hY5
  have HYE := Lib.hid hY
  have HYB := Lib.hid hYb
  have hcap : M + 6 + 6 * (Y + 1) ≤ 400000000 := by omega
  have HR9b := Lib.hid (HR9.out.congr (g := vS N Z q t a 1) (fun k _ => vS_start.symm))
  have HG9 := Lib.hid (show ∀ k, k < N → Rg (M + 6 + 1 * (Y + 1)) (vS N Z q t a 1 k) from fun k _ => by
   rw [vS_start]
   by_cases z : k = a
   ·rw [if_pos z]; exact HQ.out.mono (by omega)
   ·rw [if_neg z]; exact (Rg.of (fw_zero 0)).mono (by omega))
  clear hY hYb HIH HR9
  go_wp2_with fail
  rw [HW9.out]
  clear p0 p1 p2 p3 y0 y1 y2 y3 g0 g1 g2 g3 HW9
  go_loopw [11] (fun i wl => ∃ e : Nat, 1 ≤ e ∧ e ≤ N ∧ i = .int .i64 e ∧ RowX wl OB N (vS N Z q t a e) ∧ (∀ k, k < N → Rg (M + 6 + e * (Y + 1)) (vS N Z q t a e k)) ∧ wl.heap[w.heap.size]? = some (.cells #[.bool n1, .slice a1 k1 c1, .bool n2, .slice a2 k2 c2] 86 (0, 0)) ∧ Below w.heap.size w wl) (fun i _ => N - (RowKit.intOf i).toNat)
  case atStart => exact ⟨1, Nat.le_refl _, hN1, rfl, HR9b.out, HG9.out, HF9.out, HB9.out⟩
  case round =>
   obtain ⟨e, he1, he, rfl, hro, hrg, hf, hbo⟩ := hrel
   have HRO := Lib.hid hro
   have HRG := Lib.hid hrg
   have HF := Lib.hid hf
   have HB := Lib.hid hbo
   clear hro hrg hf hbo HR9b HG9 HF9 HB9
   by_cases hel : e < N
   case neg =>
    obtain rfl : e = N := by omega
    have HG := Lib.hid (show ∀ k, k < e → Rg (bS (t + 1) M) (q * chn e Z (t + 1) a k) from fun k hk => by
     rw [HYB.out, ← vS_done]
     exact (HRG.out k hk).mono (by have := Nat.mul_le_mul_right (Y + 1) hN6; omega))
    have HV := Lib.hid (HRO.out.congr (g := fun k => q * chn e Z (t + 1) a k) (fun k _ => vS_done))
    go_wp2
    go_ret
    exact ⟨OB, rfl, HV.out, HG.out, by omega, HB.out⟩
   have hei : (e : Int) < (N : Int) := by omega
   obtain ⟨b', o', c', x1, x2⟩ := HML.out a e ha hel
   replace x1 := keepc HB.out x1
   replace x2 := keepc HB.out x2
   have hzr := HZ.out a e ha hel
   by_cases hz0 : Z a e = 0
   ·have HRO2 := Lib.hid (HRO.out.congr (g := vS N Z q t a (e + 1)) (fun k _ => (vS_skip hz0).symm))
    have HRG2 := Lib.hid (show ∀ k, k < N → Rg (M + 6 + (e + 1) * (Y + 1)) (vS N Z q t a (e + 1) k) from fun k hk => by
     rw [vS_skip hz0]
     exact (HRG.out k hk).mono (by rw [Nat.add_mul]; omega))
    rw [hz0] at x2
    clear hz0 hzr
    go_wp2
    go_roundw
    case rel => exact ⟨e + 1, by omega, by omega, by go_num, HRO2.out, HRG2.out, HF.out, HB.out⟩
    case measure => simp [RowKit.intOf]; omega
   have hzb : (Z a e == 0) = false := by rw [beq_eq_false_iff_ne]; exact hz0
   obtain ⟨⟨p0, p1, p2, p3⟩, _⟩ := res4_facts HF.out
   have hlf := (Array.getElem?_eq_some_iff.1 HF.out).1
   have HWR := Lib.hid (IntWalk.i64_in (t : Int) ⟨by omega, by omega⟩)
   have rq : Rg (M + 5) q := HQ.out.mono (by omega)
   have rz : Rg (M + 5) (Tally.part (Z a e)) := (rg_part hzr.1 hzr.2).mono (by omega)
   have rm : Rg (M + 6) (q * Tally.part (Z a e)) := Rg.of (fw_mono (fw_mul HQ.out.fw (rg_part hzr.1 hzr.2).fw) (by omega))
   go_wp2_with fail
   have Yx1 := Lib.hid x1
   have Yx2 := Lib.hid x2
   have Yp0 := Lib.hid p0
   have Yp1 := Lib.hid p1
   have Yp2 := Lib.hid p2
   have Yp3 := Lib.hid p3
   clear x1 x2 p0 p1 p2 p3
   have HLS := Lib.hid (fun (w' : World) (hb : Below wr.heap.size wr w') => (⟨keepc hb Yx1.out, keepc hb Yx2.out, keepc hb Yp0.out, keepc hb Yp1.out, keepc hb Yp2.out, keepc hb Yp3.out⟩ : w'.cell? ⟨bm, om + a, none⟩ = some (.slice (some ⟨b', o', none⟩) N c') ∧ w'.cell? ⟨b', o' + e, none⟩ = some (.int .i64 (Z a e)) ∧ w'.cell? ⟨w.heap.size, 0, none⟩ = some (.bool n1) ∧ w'.cell? ⟨w.heap.size, 1, none⟩ = some (.slice a1 k1 c1) ∧ w'.cell? ⟨w.heap.size, 2, none⟩ = some (.bool n2) ∧ w'.cell? ⟨w.heap.size, 3, none⟩ = some (.slice a2 k2 c2)))
   have HDR := Lib.hid (Below.drew (Below.refl wr.heap.size wr))
   refine wp_region_held_drew (S := fun w' => w'.cell? ⟨bm, om + a, none⟩ = some (.slice (some ⟨b', o', none⟩) N c') ∧ w'.cell? ⟨b', o' + e, none⟩ = some (.int .i64 (Z a e)) ∧ w'.cell? ⟨w.heap.size, 0, none⟩ = some (.bool n1) ∧ w'.cell? ⟨w.heap.size, 1, none⟩ = some (.slice a1 k1 c1) ∧ w'.cell? ⟨w.heap.size, 2, none⟩ = some (.bool n2) ∧ w'.cell? ⟨w.heap.size, 3, none⟩ = some (.slice a2 k2 c2)) (by kernel_rfl) ?_ (fun hHeld => ?_)
   ·exact HLS.out _ HDR.out
   (try dsimp only at hHeld)
   refine wpAnyH_take (i := 0) (oi := (⟨some 48, .move (.tmp 0), 101, "ref.go:173", #[], none⟩ : Oper)) (v := ?y1_1_v) rfl (by kernel_rfl) (by kernel_rfl) (by kernel_rfl) (fun _ _ _ h => h) (Or.inl ⟨by rfl, ?y1_1_h⟩) hHeld ?y1_1_r
   case y1_1_h => (intro w hSw; (try dsimp only at hSw); go_simp; all_goals with_reducible rfl)
   (try simp only [Act.put, List.setIfInBounds_toArray, List.set_cons_zero, List.set_cons_succ])
   refine wpAnyH_take (i := 1) (oi := (⟨some 49, .move (.tmp 11), 3, "ref.go:173", #[], none⟩ : Oper)) (v := ?y1_2_v) rfl (by kernel_rfl) (by kernel_rfl) (by kernel_rfl) (fun _ _ _ h => h) (Or.inl ⟨by rfl, ?y1_2_h⟩) hHeld ?y1_2_r
   case y1_2_h => (intro w hSw; (try dsimp only at hSw); go_simp; all_goals with_reducible rfl)
   (try simp only [Act.put, List.setIfInBounds_toArray, List.set_cons_zero, List.set_cons_succ])
   refine wpAnyH_take (i := 2) (oi := (⟨some 50, .load 86 (.tmp 6), 86, "ref.go:173", #[], none⟩ : Oper)) (v := ?y1_3_v) rfl (by kernel_rfl) (by kernel_rfl) (by kernel_rfl) (fun _ _ _ h => h) (Or.inl ⟨by rfl, ?y1_3_h⟩) hHeld ?y1_3_r
   case y1_3_h => (intro w hSw; (try dsimp only at hSw); go_simp; all_goals with_reducible rfl)
   (try simp only [Act.put, List.setIfInBounds_toArray, List.set_cons_zero, List.set_cons_succ])
   refine wpAnyH_take (i := 3) (oi := (⟨some 51, .move (.tmp 0), 101, "ref.go:173", #[], none⟩ : Oper)) (v := ?y1_4_v) rfl (by kernel_rfl) (by kernel_rfl) (by kernel_rfl) (fun _ _ _ h => h) (Or.inl ⟨by rfl, ?y1_4_h⟩) hHeld ?y1_4_r
   case y1_4_h => (intro w hSw; (try dsimp only at hSw); go_simp; all_goals with_reducible rfl)
   (try simp only [Act.put, List.setIfInBounds_toArray, List.set_cons_zero, List.set_cons_succ])
   refine wpAnyH_take (i := 4) (oi := (⟨some 52, .move (.tmp 1), 3, "ref.go:173", #[], none⟩ : Oper)) (v := ?y1_5_v) rfl (by kernel_rfl) (by kernel_rfl) (by kernel_rfl) (fun _ _ _ h => h) (Or.inl ⟨by rfl, ?y1_5_h⟩) hHeld ?y1_5_r
   case y1_5_h => (intro w hSw; (try dsimp only at hSw); go_simp; all_goals with_reducible rfl)
   (try simp only [Act.put, List.setIfInBounds_toArray, List.set_cons_zero, List.set_cons_succ])
   refine wpAnyH_take (i := 5) (oi := (⟨some 53, .indexAddr 101 (.tmp 51) (.tmp 52), 0, "ref.go:173", #[⟨3, .data⟩, ⟨4, .data⟩], none⟩ : Oper)) (v := ?y1_6_v) rfl (by kernel_rfl) (by kernel_rfl) (by kernel_rfl) (fun _ _ _ h => h) (Or.inl ⟨by rfl, ?y1_6_h⟩) hHeld ?y1_6_r
   case y1_6_h => (intro w hSw; (try dsimp only at hSw); go_simp; all_goals with_reducible rfl)
   (try simp only [Act.put, List.setIfInBounds_toArray, List.set_cons_zero, List.set_cons_succ])
   refine wpAnyH_take (i := 6) (oi := (⟨some 54, .load 53 (.tmp 53), 53, "ref.go:173", #[⟨5, .data⟩], none⟩ : Oper)) (v := ?y1_7_v) rfl (by kernel_rfl) (by kernel_rfl) (by kernel_rfl) (fun _ _ _ h => h) (Or.inl ⟨by rfl, ?y1_7_h⟩) hHeld ?y1_7_r
   case y1_7_h => (intro w hSw; (try dsimp only at hSw); go_simp; all_goals with_reducible rfl)
   (try simp only [Act.put, List.setIfInBounds_toArray, List.set_cons_zero, List.set_cons_succ])
   refine wpAnyH_take (i := 7) (oi := (⟨some 55, .move (.tmp 11), 3, "ref.go:173", #[], none⟩ : Oper)) (v := ?y1_8_v) rfl (by kernel_rfl) (by kernel_rfl) (by kernel_rfl) (fun _ _ _ h => h) (Or.inl ⟨by rfl, ?y1_8_h⟩) hHeld ?y1_8_r
   case y1_8_h => (intro w hSw; (try dsimp only at hSw); go_simp; all_goals with_reducible rfl)
   (try simp only [Act.put, List.setIfInBounds_toArray, List.set_cons_zero, List.set_cons_succ])
   refine wpAnyH_take (i := 8) (oi := (⟨some 56, .indexAddr 53 (.tmp 54) (.tmp 55), 0, "ref.go:173", #[⟨6, .data⟩, ⟨7, .data⟩], none⟩ : Oper)) (v := ?y1_9_v) rfl (by kernel_rfl) (by kernel_rfl) (by kernel_rfl) (fun _ _ _ h => h) (Or.inl ⟨by rfl, ?y1_9_h⟩) hHeld ?y1_9_r
   case y1_9_h => (intro w hSw; (try dsimp only at hSw); go_simp; all_goals with_reducible rfl)
   (try simp only [Act.put, List.setIfInBounds_toArray, List.set_cons_zero, List.set_cons_succ])
   refine wpAnyH_take (i := 9) (oi := (⟨some 57, .load 3 (.tmp 56), 3, "ref.go:173", #[⟨8, .data⟩], none⟩ : Oper)) (v := ?y1_10_v) rfl (by kernel_rfl) (by kernel_rfl) (by kernel_rfl) (fun _ _ _ h => h) (Or.inl ⟨by rfl, ?y1_10_h⟩) hHeld ?y1_10_r
   case y1_10_h => (intro w hSw; (try dsimp only at hSw); go_simp; all_goals with_reducible rfl)
   (try simp only [Act.put, List.setIfInBounds_toArray, List.set_cons_zero, List.set_cons_succ])
   refine wpAnyH_take (i := 12) (oi := (⟨some 60, .move (.tmp 3), 3, "ref.go:173", #[], none⟩ : Oper)) (v := ?y1_11_v) rfl (by kernel_rfl) (by kernel_rfl) (by kernel_rfl) (fun _ _ _ h => h) (Or.inl ⟨by rfl, ?y1_11_h⟩) hHeld ?y1_11_r
   case y1_11_h => (intro w hSw; (try dsimp only at hSw); go_simp; all_goals with_reducible rfl)
   (try simp only [Act.put, List.setIfInBounds_toArray, List.set_cons_zero, List.set_cons_succ])
   refine wpAnyH_take (i := 13) (oi := (⟨some 61, .binOp .sub 3 (.tmp 60) (.const (.int .i64 1)) 3, 3, "ref.go:173", #[⟨12, .data⟩], none⟩ : Oper)) (v := ?y1_12_v) rfl (by kernel_rfl) (by kernel_rfl) (by kernel_rfl) (fun _ _ _ h => h) (Or.inl ⟨by rfl, ?y1_12_h⟩) hHeld ?y1_12_r
   case y1_12_h => (intro w hSw; (try dsimp only at hSw); go_simp; all_goals with_reducible rfl)
   (try simp only [Act.put, List.setIfInBounds_toArray, List.set_cons_zero, List.set_cons_succ])
   refine wpAnyH_ready (rs := [10]) (by kernel_rfl) (by simp) ?_
   refine AllReadyH.cons (o := (⟨some 58, .call { callee := .value (.func 109), args := #[.tmp 57], argTypes := #[3] }, 86, "ref.go:173", #[⟨9, .data⟩], none⟩ : Oper)) rfl (fun K hK => ?_) AllReadyH.nil
   go_simp
   (go_at_call 109; (with_reducible refine ((rshare_any (by omega) (by omega)).mono fun _ _ h => h.plain).mono ?_); rintro en u1 ⟨e1_, e2_, e3_, e4_, e5_, e6_, e7_, e8_, rfl, hx, hb⟩; have HV := Lib.hid hx; have HZ10 := Lib.hid (bt HDR.out hb); clear hx hb)
   first | refine hK.out _ _ ?_ (fun hHeld => ?_) | (go_wp2_with fail; refine hK.out _ _ ?_ (fun hHeld => ?_))
   ·exact HLS.out _ HZ10.out
   clear hK K
   (try dsimp only at hHeld)
   (try simp only [Act.put, List.setIfInBounds_toArray, List.set_cons_zero, List.set_cons_succ])
   refine wpAnyH_ready (rs := [11]) (by kernel_rfl) (by simp) ?_
   refine AllReadyH.cons (o := (⟨some 59, .call { callee := .value (.func 94), args := #[.tmp 50, .tmp 58], argTypes := #[86, 86] }, 86, "ref.go:173", #[⟨2, .data⟩, ⟨10, .data⟩, ⟨10, .chain⟩], none⟩ : Oper)) rfl (fun K hK => ?_) AllReadyH.nil
   go_simp
   (go_at_call 94; (with_reducible refine ((rratmul_any (N := M + 5) (RRatR.below (HU.out.below HB.out) HZ10.out) HV.out rq rz (by omega)).mono fun _ _ h => h.plain).mono ?_); rintro en u2 ⟨f1_, f2_, f3_, f4_, f5_, f6_, f7_, f8_, rfl, hx, hb⟩; have HV2 := Lib.hid hx; have HZ11 := Lib.hid (bt HZ10.out hb); clear hx hb)
   first | refine hK.out _ _ ?_ (fun hHeld => ?_) | (go_wp2_with fail; refine hK.out _ _ ?_ (fun hHeld => ?_))
   ·exact HLS.out _ HZ11.out
   clear hK K
   (try dsimp only at hHeld)
   (try simp only [Act.put, List.setIfInBounds_toArray, List.set_cons_zero, List.set_cons_succ])
   refine wpAnyH_ready (rs := [14]) (by kernel_rfl) (by simp) ?_
   refine AllReadyH.cons (o := (⟨some 62, .call { callee := .value (.func 61), args := #[.tmp 48, .tmp 49, .tmp 59, .tmp 61], argTypes := #[101, 3, 86, 3] }, 76, "ref.go:173", #[⟨0, .data⟩, ⟨1, .data⟩, ⟨11, .data⟩, ⟨13, .data⟩, ⟨11, .chain⟩], none⟩ : Oper)) rfl (fun K hK => ?_) AllReadyH.nil
   go_simp
   (go_at_call 61; rw [HWR.out]; (with_reducible refine (HIT.out _ _ _ _ (M + 6) _ (by rw [HYE.out]; omega) (by omega) hel (HM.out.below (bt HB.out HZ11.out)) HV2.out rm).mono ?_); rintro en w5 ⟨gm, rfl, hx, hg, hgb, hb⟩; have HMO5 := Lib.hid hx; have HGM := Lib.hid (show ∀ k, k < N → Rg Y (q * Tally.part (Z a e) * chn N Z t e k) from fun k hk => by have := hg k hk; rwa [HYE.out] at this); have HZ14 := Lib.hid (bt HZ11.out hb); have hgl := Nat.le_trans HZ11.out.size hgb; clear hx hg hb)
   first | refine hK.out _ _ ?_ (fun hHeld => ?_) | (go_wp2_with fail; refine hK.out _ _ ?_ (fun hHeld => ?_))
   ·exact HLS.out _ HZ14.out
   clear hK K
   (try dsimp only at hHeld)
   (try simp only [Act.put, List.setIfInBounds_toArray, List.set_cons_zero, List.set_cons_succ])
   refine wpAnyH_take (i := 15) (oi := (⟨some 12, .assign (.tmp 62), 76, "ref.go:173", #[⟨14, .data⟩, ⟨14, .chain⟩, ⟨0, .phase⟩, ⟨1, .phase⟩, ⟨2, .phase⟩, ⟨3, .phase⟩, ⟨4, .phase⟩, ⟨5, .phase⟩, ⟨6, .phase⟩, ⟨7, .phase⟩, ⟨8, .phase⟩, ⟨9, .phase⟩, ⟨10, .phase⟩, ⟨11, .phase⟩, ⟨12, .phase⟩, ⟨13, .phase⟩, ⟨14, .phase⟩], none⟩ : Oper)) (v := ?y1_13_v) rfl (by kernel_rfl) (by kernel_rfl) (by kernel_rfl) (fun _ _ _ h => h) (Or.inl ⟨by rfl, ?y1_13_h⟩) hHeld ?y1_13_r
   case y1_13_h => (intro w hSw; (try dsimp only at hSw); go_simp; all_goals with_reducible rfl)
   (try simp only [Act.put, List.setIfInBounds_toArray, List.set_cons_zero, List.set_cons_succ])
   refine wpAnyH_done (by kernel_rfl) ?_ _
   have HRO5 := Lib.hid (HRO.out.below HZ14.out)
   have HF5 := Lib.hid (blk_next HF.out HZ14.out)
   have HB5 := Lib.hid (bt HB.out HZ14.out)
   have HBX := Lib.hid HB5.out
   have hlo := HRO.out.lt
   have HNE := Lib.hid (show gm ≠ OB from by omega)
   clear HLS HDR
   have hsx := HBX.out.size
   go_wp2_with fail
   go_loopw [13] (fun i wl => ∃ k : Nat, k ≤ N ∧ i = .int .i64 k ∧ RowX wl OB N (fun j => if j < k then vS N Z q t a (e + 1) j else vS N Z q t a e j) ∧ Stay OB (OB + 1) w5 wl) (fun i _ => N - (RowKit.intOf i).toNat)
   case atStart => exact ⟨0, Nat.zero_le _, rfl, HRO5.out.congr (fun j _ => by rw [if_neg (Nat.not_lt_zero _)]), Stay.refl _ _ _⟩
   case round =>
    obtain ⟨k, hk, rfl, hro, hst⟩ := hrel
    have HRJ := Lib.hid hro
    have HST := Lib.hid hst
    clear hro hst
    by_cases hkl : k < N
    case neg =>
     obtain rfl : k = N := by omega
     have HRO2 := Lib.hid (HRJ.out.congr (g := vS k Z q t a (e + 1)) (fun j hj => by rw [if_pos hj]))
     have HRG2 := Lib.hid (show ∀ j, j < k → Rg (M + 6 + (e + 1) * (Y + 1)) (vS k Z q t a (e + 1) j) from fun j hj => by
      rw [vS_next he1]
      exact Rg.of (fw_mono (fw_add (HRG.out j hj).fw (HGM.out j hj).fw) (by rw [Nat.add_mul]; omega)))
     have HF2 := Lib.hid ((HST.out.block w.heap.size (Array.getElem?_eq_some_iff.1 HF5.out).1 (by omega)).trans HF5.out)
     have HB2 := Lib.hid (HB5.out.trans (HST.out.below (show w.heap.size ≤ OB by omega) HB5.out.size))
     go_wp2
     go_roundw
     case rel => (first | exact ⟨e + 1, by omega, by omega, by go_num, HRO2.out, HRG2.out, HF2.out, HB2.out⟩ | ((repeat apply Exists.intro); exact ⟨⟨e + 1, by omega, by omega, by go_num, HRO2.out, HRG2.out, HF2.out, HB2.out⟩, rfl⟩))
     case measure => simp [RowKit.intOf]; omega
    have hki : (k : Int) < (N : Int) := by omega
    obtain ⟨x, ⟨x0, x1, x2, x3⟩, hxq⟩ := HRJ.out.elem hkl
    rw [if_neg (Nat.lt_irrefl k)] at hxq
    obtain ⟨y, ⟨y0, y1, y2, y3⟩, hyq⟩ := (HMO5.out.stay HST.out HNE.out HRO5.out.noInt).elem hkl
    have HX := Lib.hid (show RRatR wr (.agg #[.bool x.n1, .slice x.a1 x.k1 x.c1, .bool x.n2, .slice x.a2 x.k2 x.c2]) (vS N Z q t a e k) from hxq)
    have HY := Lib.hid (show RRatR wr (.agg #[.bool y.n1, .slice y.a1 y.k1 y.c1, .bool y.n2, .slice y.a2 y.k2 y.c2]) (q * Tally.part (Z a e) * chn N Z t e k) from hyq)
    have rx : Rg 800000000 (vS N Z q t a e k) := (HRG.out k hkl).mono (by have := Nat.mul_le_mul_right (Y + 1) (show e ≤ 6 by omega); omega)
    have ry : Rg 800000000 (q * Tally.part (Z a e) * chn N Z t e k) := (HGM.out k hkl).mono (by omega)
    have HNX := Lib.hid (vS_next (N := N) (Z := Z) (q := q) (t := t) (a := a) (e := e) (k := k) he1)
    clear hxq hyq
    go_wp2_with fail
    have HL := Lib.hid (fun (w' : World) (hs : Stay OB (OB + 1) wr w') => (⟨hs.cell (by have := HNE.out; omega) y0, hs.cell (by have := HNE.out; omega) y1, hs.cell (by have := HNE.out; omega) y2, hs.cell (by have := HNE.out; omega) y3⟩ : w'.cell? ⟨gm, k * 4, none⟩ = some (.bool y.n1) ∧ w'.cell? ⟨gm, k * 4 + 1, none⟩ = some (.slice y.a1 y.k1 y.c1) ∧ w'.cell? ⟨gm, k * 4 + 2, none⟩ = some (.bool y.n2) ∧ w'.cell? ⟨gm, k * 4 + 3, none⟩ = some (.slice y.a2 y.k2 y.c2)))
    have HS0 := Lib.hid (Stay.refl OB (OB + 1) wr)
    refine wp_region_held_drew (S := fun w' => w'.cell? ⟨gm, k * 4, none⟩ = some (.bool y.n1) ∧ w'.cell? ⟨gm, k * 4 + 1, none⟩ = some (.slice y.a1 y.k1 y.c1) ∧ w'.cell? ⟨gm, k * 4 + 2, none⟩ = some (.bool y.n2) ∧ w'.cell? ⟨gm, k * 4 + 3, none⟩ = some (.slice y.a2 y.k2 y.c2)) (by kernel_rfl) ?_ (fun hHeld => ?_)
    ·exact HL.out _ (Stay.drew HS0.out)
    (try dsimp only at hHeld)
    refine wpAnyH_take (i := 0) (oi := (⟨some 69, .move (.tmp 9), 76, "ref.go:175", #[], none⟩ : Oper)) (v := ?y2_1_v) rfl (by kernel_rfl) (by kernel_rfl) (by kernel_rfl) (fun _ _ _ h => h) (Or.inl ⟨by rfl, ?y2_1_h⟩) hHeld ?y2_1_r
    case y2_1_h => (intro w hSw; (try dsimp only at hSw); go_simp; all_goals with_reducible rfl)
    (try simp only [Act.put, List.setIfInBounds_toArray, List.set_cons_zero, List.set_cons_succ])
    refine wpAnyH_take (i := 1) (oi := (⟨some 70, .move (.tmp 13), 3, "ref.go:175", #[], none⟩ : Oper)) (v := ?y2_2_v) rfl (by kernel_rfl) (by kernel_rfl) (by kernel_rfl) (fun _ _ _ h => h) (Or.inl ⟨by rfl, ?y2_2_h⟩) hHeld ?y2_2_r
    case y2_2_h => (intro w hSw; (try dsimp only at hSw); go_simp; all_goals with_reducible rfl)
    (try simp only [Act.put, List.setIfInBounds_toArray, List.set_cons_zero, List.set_cons_succ])
    refine wpAnyH_take (i := 2) (oi := (⟨some 71, .move (.tmp 9), 76, "ref.go:175", #[], none⟩ : Oper)) (v := ?y2_3_v) rfl (by kernel_rfl) (by kernel_rfl) (by kernel_rfl) (fun _ _ _ h => h) (Or.inl ⟨by rfl, ?y2_3_h⟩) hHeld ?y2_3_r
    case y2_3_h => (intro w hSw; (try dsimp only at hSw); go_simp; all_goals with_reducible rfl)
    (try simp only [Act.put, List.setIfInBounds_toArray, List.set_cons_zero, List.set_cons_succ])
    refine wpAnyH_take (i := 3) (oi := (⟨some 72, .move (.tmp 13), 3, "ref.go:175", #[], none⟩ : Oper)) (v := ?y2_4_v) rfl (by kernel_rfl) (by kernel_rfl) (by kernel_rfl) (fun _ _ _ h => h) (Or.inl ⟨by rfl, ?y2_4_h⟩) hHeld ?y2_4_r
    case y2_4_h => (intro w hSw; (try dsimp only at hSw); go_simp; all_goals with_reducible rfl)
    (try simp only [Act.put, List.setIfInBounds_toArray, List.set_cons_zero, List.set_cons_succ])
    refine wpAnyH_take (i := 4) (oi := (⟨some 73, .indexAddr 76 (.tmp 71) (.tmp 72), 0, "ref.go:175", #[⟨2, .data⟩, ⟨3, .data⟩], none⟩ : Oper)) (v := ?y2_5_v) rfl (by kernel_rfl) (by kernel_rfl) (by kernel_rfl) (fun _ _ _ h => h) (Or.inl ⟨by rfl, ?y2_5_h⟩) hHeld ?y2_5_r
    case y2_5_h => (intro w hSw; (try dsimp only at hSw); go_simp; all_goals with_reducible rfl)
    (try simp only [Act.put, List.setIfInBounds_toArray, List.set_cons_zero, List.set_cons_succ])
    refine wpAnyH_take (i := 6) (oi := (⟨some 75, .move (.tmp 12), 76, "ref.go:175", #[], none⟩ : Oper)) (v := ?y2_6_v) rfl (by kernel_rfl) (by kernel_rfl) (by kernel_rfl) (fun _ _ _ h => h) (Or.inl ⟨by rfl, ?y2_6_h⟩) hHeld ?y2_6_r
    case y2_6_h => (intro w hSw; (try dsimp only at hSw); go_simp; all_goals with_reducible rfl)
    (try simp only [Act.put, List.setIfInBounds_toArray, List.set_cons_zero, List.set_cons_succ])
    refine wpAnyH_take (i := 7) (oi := (⟨some 76, .move (.tmp 13), 3, "ref.go:175", #[], none⟩ : Oper)) (v := ?y2_7_v) rfl (by kernel_rfl) (by kernel_rfl) (by kernel_rfl) (fun _ _ _ h => h) (Or.inl ⟨by rfl, ?y2_7_h⟩) hHeld ?y2_7_r
    case y2_7_h => (intro w hSw; (try dsimp only at hSw); go_simp; all_goals with_reducible rfl)
    (try simp only [Act.put, List.setIfInBounds_toArray, List.set_cons_zero, List.set_cons_succ])
    refine wpAnyH_take (i := 8) (oi := (⟨some 77, .indexAddr 76 (.tmp 75) (.tmp 76), 0, "ref.go:175", #[⟨6, .data⟩, ⟨7, .data⟩], none⟩ : Oper)) (v := ?y2_8_v) rfl (by kernel_rfl) (by kernel_rfl) (by kernel_rfl) (fun _ _ _ h => h) (Or.inl ⟨by rfl, ?y2_8_h⟩) hHeld ?y2_8_r
    case y2_8_h => (intro w hSw; (try dsimp only at hSw); go_simp; all_goals with_reducible rfl)
    (try simp only [Act.put, List.setIfInBounds_toArray, List.set_cons_zero, List.set_cons_succ])
    refine wpAnyH_take (i := 9) (oi := (⟨some 78, .load 86 (.tmp 77), 86, "ref.go:175", #[⟨8, .data⟩], none⟩ : Oper)) (v := ?y2_9_v) rfl (by kernel_rfl) (by kernel_rfl) (by kernel_rfl) (fun _ _ _ h => h) (Or.inl ⟨by rfl, ?y2_9_h⟩) hHeld ?y2_9_r
    case y2_9_h => (intro w hSw; (try dsimp only at hSw); go_simp; all_goals with_reducible rfl)
    (try simp only [Act.put, List.setIfInBounds_toArray, List.set_cons_zero, List.set_cons_succ])
    refine wpAnyH_ready (rs := [5]) (by kernel_rfl) (by simp) ?_
    refine AllReadyH.cons (o := (⟨some 74, .load 86 (.tmp 73), 86, "ref.go:175", #[⟨4, .data⟩], none⟩ : Oper)) rfl (fun K hK => ?_) AllReadyH.nil
    go_simp
    first | refine hK.out _ _ ?_ (fun hHeld => ?_) | (go_wp2_with fail; refine hK.out _ _ ?_ (fun hHeld => ?_))
    ·exact HL.out _ (Stay.drew HS0.out)
    clear hK K
    (try dsimp only at hHeld)
    (try simp only [Act.put, List.setIfInBounds_toArray, List.set_cons_zero, List.set_cons_succ])
    refine wpAnyH_ready (rs := [10]) (by kernel_rfl) (by simp) ?_
    refine AllReadyH.cons (o := (⟨some 79, .call { callee := .value (.func 93), args := #[.tmp 74, .tmp 78], argTypes := #[86, 86] }, 86, "ref.go:175", #[⟨5, .data⟩, ⟨9, .data⟩], none⟩ : Oper)) rfl (fun K hK => ?_) AllReadyH.nil
    go_simp
    (go_at_call 93; (with_reducible refine ((rratadd_any (HX.out.below (Below.drew (Below.refl _ _))) (HY.out.below (Below.drew (Below.refl _ _))) rx ry (by decide)).mono fun _ _ h => h.plain).mono ?_); rintro en w9 ⟨r1, r2, r3, r4, r5, r6, r7, r8, rfl, hu, hb1⟩; have HT1 := Lib.hid (Stay.next (Stay.drew HS0.out) hb1); have HQ9 := Lib.hid (show rRatN w9 ⟨r1, r2, r3, r4, r5, r6, r7, r8⟩ (vS N Z q t a (e + 1) k) from by rw [HNX.out]; exact hu); have HR9 := Lib.hid ((HRJ.out.below (Below.drew (Below.refl _ _))).below hb1); have u0 := keepc hb1 (show wr.drew.cell? _ = _ from x0); have u1 := keepc hb1 (show wr.drew.cell? _ = _ from x1); have u2 := keepc hb1 (show wr.drew.cell? _ = _ from x2); have u3 := keepc hb1 (show wr.drew.cell? _ = _ from x3); have z0 := HR9.out.unfrozen (k * 4); have z1 := HR9.out.unfrozen (k * 4 + 1); have z2 := HR9.out.unfrozen (k * 4 + 2); have z3 := HR9.out.unfrozen (k * 4 + 3); have HS9 := Lib.hid (Stay.next (Stay.drew HST.out) hb1); clear hu hb1)
    first | refine hK.out _ _ ?_ (fun hHeld => ?_) | (go_wp2_with fail; refine hK.out _ _ ?_ (fun hHeld => ?_))
    ·exact HL.out _ HT1.out
    clear hK K
    (try dsimp only at hHeld)
    (try simp only [Act.put, List.setIfInBounds_toArray, List.set_cons_zero, List.set_cons_succ])
    refine wpAnyH_take (i := 11) (oi := (⟨some 80, .indexAddr 76 (.tmp 69) (.tmp 70), 0, "ref.go:175", #[⟨0, .data⟩, ⟨1, .data⟩, ⟨0, .phase⟩, ⟨1, .phase⟩, ⟨2, .phase⟩, ⟨3, .phase⟩, ⟨4, .phase⟩, ⟨5, .phase⟩, ⟨6, .phase⟩, ⟨7, .phase⟩, ⟨8, .phase⟩, ⟨9, .phase⟩, ⟨10, .phase⟩], none⟩ : Oper)) (v := ?y2_10_v) rfl (by kernel_rfl) (by kernel_rfl) (by kernel_rfl) (fun _ _ _ h => h) (Or.inl ⟨by rfl, ?y2_10_h⟩) hHeld ?y2_10_r
    case y2_10_h => (intro w hSw; (try dsimp only at hSw); go_simp; all_goals with_reducible rfl)
    (try simp only [Act.put, List.setIfInBounds_toArray, List.set_cons_zero, List.set_cons_succ])
    refine wpAnyH_ready (rs := [12]) (by kernel_rfl) (by simp) ?_
    refine AllReadyH.cons (o := (⟨none, .store 86 (.tmp 80) (.tmp 79), 0, "ref.go:175", #[⟨11, .data⟩, ⟨10, .data⟩, ⟨10, .chain⟩, ⟨0, .phase⟩, ⟨1, .phase⟩, ⟨2, .phase⟩, ⟨3, .phase⟩, ⟨4, .phase⟩, ⟨5, .phase⟩, ⟨6, .phase⟩, ⟨7, .phase⟩, ⟨8, .phase⟩, ⟨9, .phase⟩, ⟨10, .phase⟩], none⟩ : Oper)) rfl (fun K hK => ?_) AllReadyH.nil
    go_simp
    first | refine hK.out _ _ ?_ (fun hHeld => ?_) | (go_wp2_with fail; refine hK.out _ _ ?_ (fun hHeld => ?_))
    ·exact HL.out _ (stay_four HT1.out)
    clear hK K
    (try dsimp only at hHeld)
    (try simp only [Act.put, List.setIfInBounds_toArray, List.set_cons_zero, List.set_cons_succ])
    refine wpAnyH_done (by kernel_rfl) ?_ _
    have HR2 := Lib.hid ((HR9.out.put (x := ⟨r1, r2, r3, r4, r5, r6, r7, r8⟩) hkl HQ9.out).congr (g := fun j => if j < k + 1 then vS N Z q t a (e + 1) j else vS N Z q t a e j) (fun j _ => by
     by_cases w1 : j = k
     ·subst w1; rw [if_pos rfl, if_pos (Nat.lt_succ_self _)]
     ·rw [if_neg w1]
      by_cases w2 : j < k
      ·rw [if_pos w2, if_pos (by omega)]
      ·rw [if_neg w2, if_neg (by omega)]))
    have HS2 := Lib.hid (HS9.out.trans (putN_stay (w := w9) (b := OB) (o := k * 4) (x := ⟨r1, r2, r3, r4, r5, r6, r7, r8⟩)))
    clear HL x0 x1 x2 x3 y0 y1 y2 y3 u0 u1 u2 u3 z0 z1 z2 z3
    go_wp2
    go_roundw
    case rel => exact ⟨k + 1, by omega, by go_num, HR2.out, HS2.out⟩
    case measure => (simp [RowKit.intOf]; omega)
theorem rsum_any {N : Nat} {Z : Nat → Nat → Int} (hN1 : 1 ≤ N) (hN6 : N ≤ 6) (hz : ∀ i k, i < N → k < N → 0 ≤ Z i k ∧ Z i k ≤ 10000) : ∀ s, s ≤ 6 → SumAt N Z s
 | 0, h => rsum_step hN1 hN6 hz 0 h (fun t e => by omega)
 | s + 1, h => rsum_step hN1 hN6 hz (s + 1) h (fun t e => by
   obtain rfl : s = t := by omega
   exact rsum_any hN1 hN6 hz s (by omega))
end Go.Proofs.YteionhenpehogaaGreatDoor
