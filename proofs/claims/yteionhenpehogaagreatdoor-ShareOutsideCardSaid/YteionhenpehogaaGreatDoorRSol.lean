import Derived.Test.YteionhenpehogaaGreatDoorRBas
import Derived.Test.YteionhenpehogaaGreatDoorRHold
import Derived.Test.YteionhenpehogaaGreatDoorRChn
import Derived.Test.YteionhenpehogaaGreatDoorRSlv
import Derived.IntWalk
import Derived.BigRegion
namespace Go.Proofs.YteionhenpehogaaGreatDoor
open Go.RowKit Tally Graph.Plain
theorem rowIs_below {w w' : World} {b n : Nat} {t : TypeId} {f : Nat → Value} (h : w.rowIs b t n f) (hb : Below w.heap.size w w') : w'.rowIs b t n f := h.of_block (hb.block b h.lt)
set_option maxRecDepth 100000 in
set_option maxHeartbeats 8000000 in
theorem rreached_any {w : World} {v u : Value} {G : Nat} {Z : Nat → Nat → Int} {D : Nat → Int} (h : MatZ w v G G Z) (hu : RowR w u G fun e => .int .i64 (D e)) (hG1 : 1 ≤ G) (hG2 : G ≤ 12) :
  Calls Tryz.prog 136 #[v, u] w fun en w' => ∃ (g c : Nat) (r : Nat → Bool), en = .returned (.slice (some ⟨g, 0, none⟩) G c) ∧ RowR w' (.slice (some ⟨g, 0, none⟩) G c) G (fun e => .bool (r e)) ∧ IsReach G (inner Z) (direct G D) r ∧ Below w.heap.size w w' := by
 obtain ⟨am, _, _, cm, rfl, _⟩ := id h
 obtain ⟨a2, b2, o2, c2, rfl, l2, m2, s2, r2⟩ := hu
 obtain rfl := s2 (by omega)
 have HMZ := Lib.hid h
 have R2 := Lib.hid r2
 have hmake := run_make_row' (P := Tryz.prog) 41 4 (.bool false) 1 Tryz.underlying41 infoB rfl .i64 .i64 G (by omega) (by omega)
 clear h r2
 go_enter Tryz.func136, Tryz.ntmps136
 go_wp2
 clear hmake
 have HR0 := Lib.hid (World.rowIs_made w (.bool false) G 4)
 have HB0 := Lib.hid ((Below.refl w.heap.size w).alloc (Nat.le_refl _) (.cells (madeCells #[.bool false] G) 4))
 go_loopw [6] (fun i wr => ∃ e : Nat, 1 ≤ e ∧ e ≤ G ∧ i = .int .i64 e ∧ wr.rowIs w.heap.size 4 G (fun j => .bool (decide (1 ≤ j ∧ j < e ∧ 0 < D j))) ∧ Below w.heap.size w wr) (fun i _ => G - (RowKit.intOf i).toNat)
 case atStart => exact ⟨1, Nat.le_refl _, hG1, rfl, HR0.out.congr (fun j _ => by rw [decide_eq_false (by omega)]), HB0.out⟩
 case round =>
  clear HR0 HB0
  obtain ⟨e, he1, he, rfl, hr, hb⟩ := hrel
  have HR := Lib.hid hr
  have HB := Lib.hid hb
  clear hr hb
  by_cases heG : e < G
  ·have hei : (e : Int) < (G : Int) := by omega
   have y1 := HR.out.cell heG
   have y2 := HR.out.frozen e
   have x1 := keepc HB.out (R2.out e heG)
   have HR2 := Lib.hid ((HR.out.set e (.bool (decide (0 < D e)))).congr (g := fun j => .bool (decide (1 ≤ j ∧ j < e + 1 ∧ 0 < D j))) (fun j _ => by
    by_cases q : j = e
    ·subst q
     rw [if_pos rfl]
     by_cases z : 0 < D j
     ·rw [decide_eq_true z, decide_eq_true ⟨he1, by omega, z⟩]
     ·rw [decide_eq_false z, decide_eq_false (fun y => z y.2.2)]
    ·rw [if_neg q]
     by_cases z : 1 ≤ j ∧ j < e ∧ 0 < D j
     ·rw [decide_eq_true z, decide_eq_true ⟨z.1, by omega, z.2.2⟩]
     ·rw [decide_eq_false z, decide_eq_false (fun y => z ⟨y.1, by omega, y.2.2⟩)]))
   have HB2 := Lib.hid (HB.out.setCell (p := ⟨w.heap.size, e, none⟩) (Nat.le_refl _) (.bool (decide (0 < D e))))
   go_wp2
   go_roundw
   case rel => exact ⟨e + 1, by omega, by omega, by go_num, HR2.out, HB2.out⟩
   case measure => simp [RowKit.intOf]; omega
  obtain rfl : e = G := by omega
  have HRR := Lib.hid (show RowR wr (.slice (some ⟨w.heap.size, 0, none⟩) e e) e (fun j => .bool (decide (1 ≤ j ∧ j < e ∧ 0 < D j))) from ⟨_, w.heap.size, 0, e, rfl, Nat.le_refl _, by omega, fun _ => rfl, fun i hi => by rw [Nat.zero_add]; exact HR.out.cell hi⟩)
  clear HR
  go_wp2_with fail
  refine (rchains_any (HMZ.out.below HB.out) HRR.out hG1 hG2).mono ?_
  rintro en w2 ⟨g, c, r, rfl, hrr, hre, hb2⟩
  have H1 := Lib.hid hrr
  have H2 := Lib.hid (show IsReach e (inner Z) (direct e D) r from by rw [← direct_dec]; exact hre)
  have H3 := Lib.hid (bt HB.out hb2)
  clear hrr hre hb2
  go_wp2
  go_ret
  exact ⟨g, c, r, rfl, H1.out, H2.out, H3.out⟩
set_option maxRecDepth 100000 in
set_option maxHeartbeats 8000000 in
theorem rshares_any {w : World} {v u : Value} {N : Nat} {Z : Nat → Nat → Int} {D E : Nat → Int} (h : MatZ w v N N Z) (hu : RowR w u N fun e => .int .i64 (D e)) (hDE : ∀ e, 1 ≤ e → e < N → D e = E e) (hs : Shares N Z E) (hz : ∀ i k, i < N → k < N → 0 ≤ Z i k ∧ Z i k ≤ 10000) (hd : ∀ e, e < N → 0 ≤ E e ∧ E e ≤ 10000) (hN1 : 1 ≤ N) (hN2 : N ≤ 12) :
  Calls Tryz.prog 96 #[v, u] w fun en w' => ∃ (g : Nat) (o : Nat → Bool) (x : Nat → Rat), en = .returned (.slice (some ⟨g, 0, none⟩) N N) ∧ RowX w' g N x ∧ IsReach N (inner Z) (direct N E) o ∧ Sol N Z E o x ∧ (∀ e, e < N → Rg 50000 (x e)) ∧ w.heap.size ≤ g ∧ Below w.heap.size w w' := by
 obtain ⟨ti1, hi1, hz10, hz11, hz12⟩ := info_parts infoN
 obtain ⟨ti2, hi2, hz20, hz21, hz22⟩ := info_parts rinfoQ
 obtain ⟨am, _, _, cm, rfl, _⟩ := id h
 obtain ⟨au, _, _, cu, rfl, _⟩ := id hu
 have HM := Lib.hid h
 have HU := Lib.hid hu
 have HZR := Lib.hid hz
 have HSH := Lib.hid hs
 have HDR := Lib.hid hd
 have HDE := Lib.hid hDE
 clear h hu hz hs hd hDE
 have hmk2 := fun W : World => run_make (P := Tryz.prog) (w := W) 76 86 ti2 (.agg #[.bool false, .slice none 0 0, .bool false, .slice none 0 0]) Tryz.underlying76 hi2 hz20 .i64 .i64 (N : Int) (N : Int) (by omega) (by omega) (by rw [hz22]; omega) (by omega)
 have e2 : ((N : Int)).toNat = N := by omega
 simp only [hz21, e2, show (Value.agg #[.bool false, .slice none 0 0, .bool false, .slice none 0 0]).cells = #[.bool false, .slice none 0 0, .bool false, .slice none 0 0] from rfl] at hmk2
 clear e2
 go_enter Tryz.func96, Tryz.ntmps96
 go_wp2_with fail
 refine (rreached_any HM.out HU.out hN1 hN2).mono ?_
 rintro en w3 ⟨gr, cr, o, rfl, hrow, ho, hb3⟩
 obtain ⟨_, bR, oR, _, te, _, _, tR, hRO⟩ := hrow
 injection te with te1 _ te2
 subst te1
 subst te2
 obtain ⟨rfl, rfl⟩ : gr = bR ∧ 0 = oR := by
  have := tR (by omega)
  injection this with this
  injection this with q1 q2
  exact ⟨q1, q2⟩
 have HRO := Lib.hid (show ∀ i, i < N → w3.cell? ⟨gr, i, none⟩ = some (.bool (o i)) from fun i hi => by have := hRO i hi; rwa [Nat.zero_add] at this)
 have HO := Lib.hid (show IsReach N (inner Z) (direct N E) o from by rw [← direct_congr HDE.out]; exact ho)
 have HM3 := Lib.hid (HM.out.below hb3)
 have HU3 := Lib.hid (RowR.below HU.out hb3)
 have HB3 := Lib.hid hb3
 have HO0 := Lib.hid (reach_zero HO.out (by omega))
 clear tR hRO ho hb3
 go_wp2_with fail
 go_loopw [6, 7] (fun s i wl => ∃ j : Nat, 1 ≤ j ∧ j ≤ N ∧ i = .int .i64 j ∧ wl.ownsRow w3.heap.size 3 1 s (plc o j).length (natInts (plc o j)) ∧ Below w3.heap.size w3 wl) (fun _ i _ => N - (RowKit.intOf i).toNat)
 case atStart => exact ⟨1, Nat.le_refl _, hN1, rfl, by rw [plc_no (n := 0) (by rw [HO0.out]; decide)]; exact World.ownsRow_nil _ _ _ _, Below.refl _ _⟩
 case round =>
  obtain ⟨j, hj1, hj, rfl, hown, hbl⟩ := hrel
  have hlen : (plc o j).length ≤ j := plc_len
  by_cases hjl : j < N
  ·have hji : (j : Int) < (N : Int) := by omega
   have x1 := keepc hbl (HRO.out j hjl)
   have HBL := Lib.hid hbl
   clear hbl
   cases hoj : o j
   ·rw [hoj] at x1
    go_wp2
    go_roundw
    case rel => exact ⟨j + 1, by omega, by omega, by go_num, by rw [plc_no (by simp [hoj])]; exact hown, HBL.out⟩
    case measure => simp [RowKit.intOf]; omega
   ·rw [hoj] at x1
    have hsz := HBL.out.size
    go_wp2_with (at_builtin; refine wpList_append_own _ rfl _ _ 53 rfl w3.heap.size 3 ti1 (.int .i64 0) 1 8 Tryz.underlying53 hi1 hz10 hz11 hz12 rfl (by decide) _ _ _ rfl (hown.alloc _) ⟨wr.heap.size, 0, none⟩ 1 1 [.int .i64 (j : Int)] rfl rfl (cell_one_new _ _ _) (ints_oneCell .i64 [(j : Int)]) (by unfold maxLen; omega) (by omega) (by simp; omega) ?_; intro v' w4 hown' hgrow _)
    have HBL4 := Lib.hid (((HBL.out.alloc (by omega) _).grown hgrow (by simp; omega) (fun j hj => (hown.lt j hj).1) : Below w3.heap.size w3 w4))
    have HOW4 := Lib.hid hown'
    clear hown' hgrow hown
    go_roundw
    case rel => exact ⟨j + 1, by omega, by omega, by go_num, by rw [plc_yes hoj, natInts_snoc, List.length_append]; exact HOW4.out, HBL4.out⟩
    case measure => simp [RowKit.intOf]; omega
  obtain rfl : N = j := by omega
  have hln : (plc o N).length ≤ 12 := Nat.le_trans plc_len hN2
  have HPL5 := Lib.hid (show PlR wr _ (plc o N) from (rowR_of_owns hown).congr (fun i hi => natInts_getD hi))
  have HM5 := Lib.hid (HM3.out.below hbl)
  have HU5 := Lib.hid (RowR.below HU3.out hbl)
  have HB5 := Lib.hid (bt HB3.out hbl)
  clear hown hbl HM3 HU3 HB3 HRO
  go_wp2_with fail
  obtain ⟨w6, hW, hs6, hb6, b6⟩ := alloc1 wr (.cells (madeCells #[.bool false, .slice none 0 0, .bool false, .slice none 0 0] (N * 4)) 86)
  rw [← hW]
  have HR6 := Lib.hid (RowX.made b6)
  obtain ⟨OB, hOB⟩ : ∃ OB, wr.heap.size = OB := ⟨_, rfl⟩
  have HOB := Lib.hid hOB
  have HB6 := Lib.hid (show Below OB wr w6 from hOB ▸ hb6)
  rw [hOB] at HR6 hs6 ⊢
  have HBO := Lib.hid (show w.heap.size ≤ OB by have := HB5.out.size; omega)
  have HPLB := Lib.hid (hOB ▸ RowR.blk HPL5.out)
  clear hW hb6 b6 hOB
  have H56 := Lib.hid (show ∀ wl, Below OB wr wl → MatZ wl (.slice am N cm) N N Z ∧ RowR wl (.slice au N cu) N (fun j => .int .i64 (D j)) ∧ PlR wl _ (plc o N) ∧ Below w.heap.size w wl from fun wl h => by
   have h' : Below wr.heap.size wr wl := HOB.out ▸ h
   exact ⟨HM5.out.below h', RowR.below HU5.out h', RowR.below HPL5.out h', bt HB5.out h'⟩)
  clear HM5 HU5 HPL5 HB5 HOB
  generalize hv5 : wr = v5 at H56 HB6
  clear hv5
  go_loopw [9] (fun i wl => ∃ e : Nat, e ≤ N ∧ i = .int .i64 e ∧ RowX wl OB N (fun _ => 0) ∧ Below OB v5 wl ∧ OB < wl.heap.size) (fun i _ => N - (RowKit.intOf i).toNat)
  case atStart => exact ⟨0, Nat.zero_le _, rfl, HR6.out, HB6.out, by omega⟩
  case round =>
   obtain ⟨e, he, rfl, hro, hbo, hol⟩ := hrel
   have HRO := Lib.hid hro
   have HBE := Lib.hid hbo
   clear hro hbo
   by_cases hel : e < N
   ·have hei : (e : Int) < (N : Int) := by omega
    go_wp2_with fail
    (with_reducible refine ((rint_any (n := 0) (by decide) (by decide)).mono fun _ _ h => h.plain).mono ?_)
    rintro en w7 ⟨m1, b1, j1, d1, m2, b2, j2, d2, rfl, hx, hb⟩
    have HX := Lib.hid (show rRatN w7 ⟨m1, b1, j1, d1, m2, b2, j2, d2⟩ 0 from hx)
    have HRO7 := Lib.hid (HRO.out.below hb)
    have HBE7 := Lib.hid (HBE.out.trans (hb.mono (by omega)))
    have hs7 := hb.size
    obtain ⟨x0, ⟨y0, y1, y2, y3⟩, _⟩ := HRO7.out.elem hel
    have g0 := HRO7.out.unfrozen (e * 4)
    have g1 := HRO7.out.unfrozen (e * 4 + 1)
    have g2 := HRO7.out.unfrozen (e * 4 + 2)
    have g3 := HRO7.out.unfrozen (e * 4 + 3)
    have HRO8 := Lib.hid ((HRO7.out.put hel HX.out).congr (fun k _ => show (if k = e then (0 : Rat) else 0) = 0 by split <;> rfl))
    have HBE8 := Lib.hid (below_putN (o := e * 4) (x := ⟨m1, b1, j1, d1, m2, b2, j2, d2⟩) HBE7.out (Nat.le_refl OB))
    clear hx hb HRO HRO7 HBE HBE7
    go_wp2
    go_roundw
    case rel => exact ⟨e + 1, by omega, by go_num, HRO8.out, HBE8.out, by simp; omega⟩
    case measure => simp [RowKit.intOf]; omega
   obtain rfl : N = e := by omega
   obtain ⟨hM, hU, hPL, hB⟩ := H56.out _ HBE.out
   obtain ⟨ap, cp, hps⟩ : ∃ ap cp, u6 = .slice ap (plc o N).length cp := by obtain ⟨a, b, o, c, h1, _⟩ := hPL; exact ⟨a, c, h1⟩
   subst hps
   have HM9 := Lib.hid hM
   have HU9 := Lib.hid hU
   have HPL9 := Lib.hid hPL
   have HB9 := Lib.hid hB
   have HR9 := Lib.hid HRO.out
   have hs9 : OB < wr.heap.size := hol
   clear hM hU hPL hB H56 HBE HRO
   go_wp2_with fail
   have HDL := Lib.hid (show ∀ i, i < (plc o N).length → 0 ≤ D ((plc o N).getD i 0) ∧ D ((plc o N).getD i 0) ≤ 10000 from fun i hi => by
    obtain ⟨q1, q2⟩ := plAt_mem hi
    have e := HDE.out _ (reach_pos HO.out q1 q2) q1
    show 0 ≤ D (plAt o N i) ∧ D (plAt o N i) ≤ 10000
    rw [e]
    exact HDR.out _ q1)
   refine (requations_any HM9.out HU9.out HPL9.out (fun x hx => (plc_mem.1 hx).1) hN2 hln HZR.out (fun i hi => HDL.out i hi)).mono ?_
   rintro en w10 ⟨sv, V, rfl, hbx, hb10⟩
   have HBX := Lib.hid (show BuildX wr.heap.size w10 sv V (plc o N).length ((plc o N).length + 1) (wideM (plc o N).length (eqM (plB o N Z)) (plD o N E)) from hbx.congr (fun i hi k hk => by
    unfold wideM
    by_cases q : k < (plc o N).length
    ·rw [if_pos q, if_pos q]; rfl
    ·rw [if_neg q, if_neg q]
     obtain ⟨q1, q2⟩ := plAt_mem hi
     exact congrArg Tally.part (HDE.out _ (reach_pos HO.out q1 q2) q1)))
   have HB10 := Lib.hid hb10
   have hs10 := hb10.size
   clear hbx hb10 HM9 HU9
   go_wp2_with fail
   refine (rsolved_any (N := 5 + 5) HBX.out hs10 hln (sol_rows HZR.out HDR.out) (by decide) (fun i s h1 h2 h3 h4 => pivot_there HSH.out HO.out h1 h2 h3 h4)).mono ?_
   rintro en w11 ⟨s, az, cz, rfl, hrun, hz11, hown, hb11⟩
   have HRUN := Lib.hid hrun
   have HZ11 := Lib.hid hz11
   have HNE := Lib.hid (show ∀ g, (Value.slice az (plc o N).length cz).ownBlock = some g → g ≠ OB from fun g hg => by have := hown g hg; omega)
   have HBA := Lib.hid (HB10.out.trans hb11)
   have HR11 := Lib.hid (HR9.out.below HBA.out)
   have HPL11 := Lib.hid (RowR.below HPL9.out HBA.out)
   have HB11 := Lib.hid (bt HB9.out HBA.out)
   have hs11 := HBA.out.size
   clear hrun hz11 hown hb11 HBX HB10 HBA HR9 HPL9 HB9
   go_wp2_with fail
   obtain ⟨_, bp, op, _, te, _, _, t5, t6⟩ := HPL11.out
   injection te with te1 _ te2
   subst te1
   subst te2
   have T5 := Lib.hid t5
   have T6 := Lib.hid t6
   clear t5 t6 HPL11
   go_loopw [11] (fun i wl => ∃ j : Nat, j ≤ (plc o N).length ∧ i = .int .i64 j ∧ RowX wl OB N (fun e => fillP o N (fun i => s.A i (plc o N).length / s.A i i) j e) ∧ Stay OB (OB + 1) w11 wl) (fun i _ => (plc o N).length - (RowKit.intOf i).toNat)
   case atStart => exact ⟨0, Nat.zero_le _, rfl, HR11.out, Stay.refl _ _ _⟩
   case round =>
    obtain ⟨j, hj, rfl, hro, hst⟩ := hrel
    have HRJ := Lib.hid hro
    have HST := Lib.hid hst
    clear hro hst
    by_cases hjl : j < (plc o N).length
    ·have hji : (j : Int) < ((plc o N).length : Int) := by omega
     obtain rfl := T5.out (by omega)
     have hbp : bp < OB := HPLB.out (by omega) bp rfl
     have t1 := HST.out.cell (by omega) (T6.out j hjl)
     obtain ⟨hpN, hpo⟩ := plAt_mem hjl
     have hp1 := reach_pos HO.out hpN hpo
     obtain ⟨_, _, bz, oz, p3, p4⟩ := (rRatsR.stay' HZ11.out HST.out HNE.out HR11.out.noInt).parts
     obtain rfl := p3 (by omega)
     obtain ⟨z, ⟨z0, z1, z2, z3⟩, hzq⟩ := p4 j hjl
     have HZQ := Lib.hid hzq
     obtain ⟨P, hP⟩ : ∃ P, (plc o N).getD j 0 = P := ⟨_, rfl⟩
     have HPA := Lib.hid (show plAt o N j = P from hP)
     rw [show plAt o N j = P from hP] at hpN hp1
     simp only [hP] at t1
     have hPi : (P : Int) < (N : Int) := by omega
     obtain ⟨x0, ⟨y0, y1, y2, y3⟩, _⟩ := HRJ.out.elem hpN
     have g0 := HRJ.out.unfrozen (P * 4)
     have g1 := HRJ.out.unfrozen (P * 4 + 1)
     have g2 := HRJ.out.unfrozen (P * 4 + 2)
     have g3 := HRJ.out.unfrozen (P * 4 + 3)
     have HRJ2 := Lib.hid ((HRJ.out.put hpN HZQ.out).congr (g := fun e => fillP o N (fun i => s.A i (plc o N).length / s.A i i) (j + 1) e) (fun e _ => by
      show _ = if e = plAt o N j then _ else _
      rw [HPA.out]))
     have HST2 := Lib.hid (HST.out.trans (putN_stay (b := OB) (o := P * 4) (x := z)))
     have HRJ3 := Lib.hid (HRJ2.out.below (Below.drew (Below.refl _ _)))
     have HST3 := Lib.hid (Stay.drew HST2.out)
     clear p3 p4 hzq hP hpo HRJ HRJ2 HST2
     go_wp2_with fail
     go_region
     go_wp2
     go_roundw
     case rel => exact ⟨j + 1, by omega, by go_num, HRJ3.out, HST3.out⟩
     case measure => (simp [RowKit.intOf]; omega)
    ·obtain rfl : j = (plc o N).length := by omega
     obtain ⟨h1, h2⟩ := sol_good HSH.out HO.out HZR.out HDR.out hN2 HRUN.out
     have H1 := Lib.hid h1
     have H2 := Lib.hid h2
     clear h1 h2
     go_wp2
     go_ret
     exact ⟨OB, rfl, o, _, HRJ.out, HO.out, H1.out, H2.out, HBO.out, HB11.out.trans (HST.out.below HBO.out HB11.out.size)⟩
def rGivesSol (w : World) (N : Nat) (Z : Nat → Nat → Int) (D : Nat → Int) (q : Rat) (e : Ending) (w' : World) : Prop :=
 ∃ (g : Nat) (o : Nat → Bool) (x : Nat → Rat), e = .returned (.tuple #[.slice (some ⟨g, 0, none⟩) N N, .int .i64 0]) ∧ IsReach N (inner Z) (direct N D) o ∧ Sol N Z D o x ∧ (∀ e, e < N → Rg 50000 (x e)) ∧
  rRatsR w' (.slice (some ⟨g, 0, none⟩) N N) N (fun e => if e = 0 then q else x e) ∧ Below w.heap.size w w'
set_option maxHeartbeats 4000000 in
theorem reff_no1 {w : World} {v : Value} {k : Nat} {n : Int} {H : Hds} {day : Int} (hH : HoldR w v k H) (hv : ¬ H.valid n k) :
  Calls Tryz.prog 49 #[.int .i64 n, v, .int .i64 day] w (GivesNo w 1) := by
 obtain ⟨a, c, rfl⟩ : ∃ a c, v = .slice a k c := by obtain ⟨a, b, o, c, h1, _⟩ := hH; exact ⟨a, c, h1⟩
 have HH := Lib.hid hH
 have HV := Lib.hid hv
 clear hH hv
 go_enter Tryz.func49, Tryz.ntmps49
 go_wp2_with fail
 refine (rmatrix_no1 HH.out HV.out).mono ?_
 rintro en w1 ⟨rfl, hb⟩
 go_wp2
 go_ret2
 exact ⟨rfl, hb⟩
set_option maxHeartbeats 4000000 in
theorem reff_no2 {w : World} {v : Value} {k : Nat} {n : Int} {H : Hds} {day : Int} (hH : HoldR w v k H) (hv : H.valid n k) (hd : ¬ goodDate day) :
  Calls Tryz.prog 49 #[.int .i64 n, v, .int .i64 day] w (GivesNo w 2) := by
 obtain ⟨a, c, rfl⟩ : ∃ a c, v = .slice a k c := by obtain ⟨a, b, o, c, h1, _⟩ := hH; exact ⟨a, c, h1⟩
 have HH := Lib.hid hH
 have HV := Lib.hid hv
 have HD := Lib.hid hd
 clear hH hv hd
 go_enter Tryz.func49, Tryz.ntmps49
 go_wp2_with fail
 refine (rmatrix_no2 HH.out HV.out HD.out).mono ?_
 rintro en w1 ⟨rfl, hb⟩
 go_wp2
 go_ret2
 exact ⟨rfl, hb⟩
set_option maxHeartbeats 4000000 in
theorem rout_no1 {w : World} {v : Value} {k : Nat} {n : Int} {H : Hds} {day : Int} (hH : HoldR w v k H) (hv : ¬ H.valid n k) :
  Calls Tryz.prog 57 #[.int .i64 n, v, .int .i64 day] w (GivesNo w 1) := by
 obtain ⟨a, c, rfl⟩ : ∃ a c, v = .slice a k c := by obtain ⟨a, b, o, c, h1, _⟩ := hH; exact ⟨a, c, h1⟩
 have HH := Lib.hid hH
 have HV := Lib.hid hv
 clear hH hv
 go_enter Tryz.func57, Tryz.ntmps57
 go_wp2_with fail
 refine (rmatrix_no1 HH.out HV.out).mono ?_
 rintro en w1 ⟨rfl, hb⟩
 go_wp2
 go_ret2
 exact ⟨rfl, hb⟩
set_option maxHeartbeats 4000000 in
theorem rout_no2 {w : World} {v : Value} {k : Nat} {n : Int} {H : Hds} {day : Int} (hH : HoldR w v k H) (hv : H.valid n k) (hd : ¬ goodDate day) :
  Calls Tryz.prog 57 #[.int .i64 n, v, .int .i64 day] w (GivesNo w 2) := by
 obtain ⟨a, c, rfl⟩ : ∃ a c, v = .slice a k c := by obtain ⟨a, b, o, c, h1, _⟩ := hH; exact ⟨a, c, h1⟩
 have HH := Lib.hid hH
 have HV := Lib.hid hv
 have HD := Lib.hid hd
 clear hH hv hd
 go_enter Tryz.func57, Tryz.ntmps57
 go_wp2_with fail
 refine (rmatrix_no2 HH.out HV.out HD.out).mono ?_
 rintro en w1 ⟨rfl, hb⟩
 go_wp2
 go_ret2
 exact ⟨rfl, hb⟩
set_option maxRecDepth 100000 in
set_option maxHeartbeats 8000000 in
theorem reff_yes {w : World} {v : Value} {k N : Nat} {H : Hds} {day : Int} (hH : HoldR w v k H) (hv : H.valid N k) (hd : goodDate day) :
  Calls Tryz.prog 49 #[.int .i64 N, v, .int .i64 day] w (rGivesSol w N (fun h e => H.at h e day k) (dirE N fun h e => H.at h e day k) 1) := by
 obtain ⟨a, c, rfl⟩ : ∃ a c, v = .slice a k c := by obtain ⟨a, b, o, c, h1, _⟩ := hH; exact ⟨a, c, h1⟩
 have hN1 : 1 ≤ N := by have := hv.1; omega
 have hN2 : N ≤ 12 := by have := hv.2.1; omega
 obtain ⟨Z, hZ⟩ : ∃ Z : Nat → Nat → Int, Z = fun h e => H.at (h : Nat) (e : Nat) day k := ⟨_, rfl⟩
 rw [← hZ]
 have HSS := Lib.hid (show Sh N Z from by rw [hZ]; exact at_shares hv)
 have HZE := Lib.hid hZ
 have HH := Lib.hid hH
 have HV := Lib.hid hv
 have HD := Lib.hid hd
 clear hH hv hd hZ
 go_enter Tryz.func49, Tryz.ntmps49
 go_wp2_with fail
 refine (rmatrix_yes HH.out HV.out HD.out).mono ?_
 rintro en w1 ⟨am, cm, V, rfl, hm, hb⟩
 have HM := Lib.hid (show MatZ w1 (.slice am N cm) N N Z from by rw [HZE.out]; exact hm.matz)
 have HB := Lib.hid hb
 clear hm hb HH HV HD
 obtain ⟨_, bm, om, _, te, _, _, t4, t5⟩ := HM.out
 injection te with te1 _ te2
 subst te1
 subst te2
 obtain rfl := t4 (by omega)
 obtain ⟨a0, c0, t1, t2⟩ := t5 0 (by omega)
 rw [Nat.add_zero] at t1
 have HR0 := Lib.hid t2
 clear t4 t5 t2
 go_wp2_with fail
 refine (rshares_any HM.out HR0.out (fun e h1 he => (dirE_pos h1).symm) (dirE_shares HSS.out) HSS.out.range (dirE_range HSS.out HSS.out.range) hN1 hN2).mono ?_
 rintro en w2 ⟨g, o, x, rfl, hx, ho, hs, hg, hgb, hb2⟩
 have HX := Lib.hid hx
 have HO := Lib.hid ho
 have HS := Lib.hid hs
 have HG := Lib.hid hg
 have HB2 := Lib.hid (bt HB.out hb2)
 have hgw : w.heap.size ≤ g := Nat.le_trans HB.out.size hgb
 clear hx ho hs hg hb2 t1 HM HR0 HB hgb
 go_wp2_with fail
 (with_reducible refine ((rint_any (n := 1) (by decide) (by decide)).mono fun _ _ h => h.plain).mono ?_)
 rintro en w7 ⟨m1, b1, j1, d1, m2, b2, j2, d2, rfl, hx, hb⟩
 have HQ := Lib.hid (show rRatN w7 ⟨m1, b1, j1, d1, m2, b2, j2, d2⟩ 1 from hx)
 have HX7 := Lib.hid (HX.out.below hb)
 have HB7 := Lib.hid (bt HB2.out hb)
 obtain ⟨x0, ⟨y0, y1, y2, y3⟩, _⟩ := HX7.out.elem (show 0 < N by omega)
 simp only [Nat.zero_mul, Nat.zero_add] at y0 y1 y2 y3
 have g0 := HX7.out.unfrozen 0
 have g1 := HX7.out.unfrozen 1
 have g2 := HX7.out.unfrozen 2
 have g3 := HX7.out.unfrozen 3
 obtain ⟨w8, hW8⟩ : ∃ w8, putN w7 g 0 ⟨m1, b1, j1, d1, m2, b2, j2, d2⟩ = w8 := ⟨_, rfl⟩
 have HX8 := Lib.hid (show RowX w8 g N (fun k => if k = 0 then 1 else x k) from hW8 ▸ (by have := HX7.out.put (k := 0) (show 0 < N by omega) HQ.out; rw [Nat.zero_mul] at this; exact this))
 have HB8 := Lib.hid (show Below w.heap.size w w8 from hW8 ▸ below_putN HB7.out hgw)
 have HW8 := Lib.hid (show ((((w7.setCell ⟨g, 0, none⟩ (.bool m1)).setCell ⟨g, 1, none⟩ (.slice b1 j1 d1)).setCell ⟨g, 2, none⟩ (.bool m2)).setCell ⟨g, 3, none⟩ (.slice b2 j2 d2)) = w8 from hW8)
 clear hx hb HX HX7 HB7 HB2 hW8
 go_wp2
 go_ret2
 rw [HW8.out]
 exact ⟨g, o, x, rfl, HO.out, HS.out, HG.out, HX8.out.rats (by omega), HB8.out⟩
set_option maxRecDepth 100000 in
set_option maxHeartbeats 8000000 in
theorem rout_yes {w : World} {v : Value} {k N : Nat} {H : Hds} {day : Int} (hH : HoldR w v k H) (hv : H.valid N k) (hd : goodDate day) :
  Calls Tryz.prog 57 #[.int .i64 N, v, .int .i64 day] w (rGivesSol w N (fun h e => H.at h e day k) (dirO N fun h e => H.at h e day k) 0) := by
 obtain ⟨a, c, rfl⟩ : ∃ a c, v = .slice a k c := by obtain ⟨a, b, o, c, h1, _⟩ := hH; exact ⟨a, c, h1⟩
 have hN1 : 1 ≤ N := by have := hv.1; omega
 have hN2 : N ≤ 12 := by have := hv.2.1; omega
 obtain ⟨Z, hZ⟩ : ∃ Z : Nat → Nat → Int, Z = fun h e => H.at (h : Nat) (e : Nat) day k := ⟨_, rfl⟩
 rw [← hZ]
 have HSS := Lib.hid (show Sh N Z from by rw [hZ]; exact at_shares hv)
 have HZE := Lib.hid hZ
 have HH := Lib.hid hH
 have HV := Lib.hid hv
 have HD := Lib.hid hd
 clear hH hv hd hZ
 have hmk := run_make_row' (P := Tryz.prog) 53 3 (.int .i64 0) 8 Tryz.underlying53 infoN rfl .i64 .i64 N (by omega) (by omega)
 go_enter Tryz.func57, Tryz.ntmps57
 go_wp2_with fail
 refine (rmatrix_yes HH.out HV.out HD.out).mono ?_
 rintro en w1 ⟨am, cm, V, rfl, hm, hb⟩
 have HM := Lib.hid (show MatZ w1 (.slice am N cm) N N Z from by rw [HZE.out]; exact hm.matz)
 have HB := Lib.hid hb
 clear hm hb HH HV HD
 obtain ⟨bm, om, ham, hml⟩ := HM.out.look (by omega)
 subst ham
 have HML := Lib.hid hml
 clear hml
 go_wp2_with fail
 clear hmk
 obtain ⟨w2, hW, hs2, hb2, b2⟩ := alloc1 w1 (.cells (madeCells #[.int .i64 0] N) 3)
 have hrow := World.rowIs_made w1 (.int .i64 0) N 3
 rw [← hW] at hrow ⊢
 have HROW := Lib.hid hrow
 have HB2 := Lib.hid hb2
 have HZR := Lib.hid HSS.out.range
 clear hW hs2 hb2 b2 hrow
 go_loopw [11] (fun i wr => ∃ e : Nat, 1 ≤ e ∧ e ≤ N ∧ i = .int .i64 e ∧ wr.rowIs w1.heap.size 3 N (fun j => .int .i64 (if 1 ≤ j ∧ j < e then dirO N Z j else 0)) ∧ Below w1.heap.size w1 wr) (fun i _ => N - (RowKit.intOf i).toNat)
 case atStart => exact ⟨1, Nat.le_refl _, hN1, rfl, HROW.out.congr (fun j _ => by rw [if_neg (by omega)]), HB2.out⟩
 case round =>
  obtain ⟨e, he1, he, rfl, hrow, hb⟩ := hrel
  have HR := Lib.hid hrow
  have HBe := Lib.hid hb
  clear hrow hb HROW HB2
  by_cases hel : e < N
  ·have hei : (e : Int) < (N : Int) := by omega
   have y1 := HR.out.cell hel
   have y2 := HR.out.frozen e
   have HR2 := Lib.hid ((HR.out.set e (.int .i64 10000)).congr (g := fun j => .int .i64 (if j = e then 10000 - isum 0 (fun h => Z h e) else if 1 ≤ j ∧ j < e then dirO N Z j else 0)) (fun j _ => by
    by_cases z : j = e
    ·rw [if_pos z, if_pos z]; rfl
    ·rw [if_neg z, if_neg z]))
   have HB3 := Lib.hid (HBe.out.setCell (p := ⟨w1.heap.size, e, none⟩) (Nat.le_refl _) (.int .i64 10000))
   clear HR HBe
   go_wp2_with fail
   clear y1 y2
   go_loopw [12] (fun i wr => ∃ h : Nat, h ≤ N ∧ i = .int .i64 h ∧ wr.rowIs w1.heap.size 3 N (fun j => .int .i64 (if j = e then 10000 - isum h (fun h => Z h e) else if 1 ≤ j ∧ j < e then dirO N Z j else 0)) ∧ Below w1.heap.size w1 wr) (fun i _ => N - (RowKit.intOf i).toNat)
   case atStart => exact ⟨0, Nat.zero_le _, rfl, HR2.out, HB3.out⟩
   case round =>
    obtain ⟨h, hh, rfl, hrow, hb⟩ := hrel
    have HR := Lib.hid hrow
    have HBe := Lib.hid hb
    clear hrow hb HR2 HB3
    by_cases hhl : h < N
    ·have hhi : (h : Int) < (N : Int) := by omega
     have y1 := HR.out.cell hel
     rw [if_pos rfl] at y1
     have y2 := HR.out.frozen e
     obtain ⟨b', o', c', x1, x2⟩ := HML.out h e hhl hel
     replace x1 := keepc HBe.out x1
     replace x2 := keepc HBe.out x2
     have hz1 := HZR.out h e hhl hel
     have hs1 := isum_range (n := h) (c := 10000) (f := fun i => Z i e) (fun i hi => HZR.out i e (by omega) hel)
     have hcap : (h : Int) * 10000 ≤ 120000 := by omega
     have HS := Lib.hid (show 10000 - isum h (fun h => Z h e) - Z h e = 10000 - isum (h + 1) (fun h => Z h e) from by rw [isum_step]; omega)
     have HR2 := Lib.hid ((HR.out.set e (.int .i64 (10000 - isum h (fun h => Z h e) - Z h e))).congr (g := fun j => .int .i64 (if j = e then 10000 - isum (h + 1) (fun h => Z h e) else if 1 ≤ j ∧ j < e then dirO N Z j else 0)) (fun j _ => by
      by_cases z : j = e
      ·rw [if_pos z, if_pos z, HS.out]
      ·rw [if_neg z, if_neg z, if_neg z]))
     have HB3 := Lib.hid (HBe.out.setCell (p := ⟨w1.heap.size, e, none⟩) (Nat.le_refl _) (.int .i64 (10000 - isum h (fun h => Z h e) - Z h e)))
     obtain ⟨S, hS⟩ : ∃ S, isum h (fun h => Z h e) = S := ⟨_, rfl⟩
     rw [hS] at y1 hs1 HR2 HB3
     have hwr : IntKind.i64.wrap (10000 - S - Z h e) = 10000 - S - Z h e := IntWalk.i64_in _ ⟨by omega, by omega⟩
     have HR3 := Lib.hid (rowIs_below HR2.out (Below.drew (Below.refl _ _)))
     have HB4 := Lib.hid (HB3.out.drew)
     clear hS HS HR2 HB3
     go_wp2_with fail
     go_region
     go_wp2
     go_roundw
     case rel => exact ⟨h + 1, by omega, by go_num, HR3.out, HB4.out⟩
     case measure => simp [RowKit.intOf]; omega
    ·obtain rfl : h = N := by omega
     have HR2 := Lib.hid (HR.out.congr (g := fun j => .int .i64 (if 1 ≤ j ∧ j < e + 1 then dirO h Z j else 0)) (fun j _ => by
      by_cases z : j = e
      ·subst z; rw [if_pos rfl, if_pos ⟨he1, by omega⟩, dirO_pos he1]
      ·rw [if_neg z]
       by_cases q : 1 ≤ j ∧ j < e
       ·rw [if_pos q, if_pos ⟨q.1, by omega⟩]
       ·rw [if_neg q, if_neg (by omega)]))
     go_wp2
     go_roundw
     case rel => exact ⟨e + 1, by omega, by omega, by go_num, HR2.out, HBe.out⟩
     case measure => simp [RowKit.intOf]; omega
  obtain rfl : N = e := by omega
  have HPR := Lib.hid (show RowR wr (.slice (some ⟨w1.heap.size, 0, none⟩) N N) N fun j => .int .i64 (dirO N Z j) from ⟨_, w1.heap.size, 0, N, rfl, Nat.le_refl _, by omega, fun _ => rfl, fun j hj => by
   have h1 := HR.out.cell hj
   rw [Nat.zero_add, h1]
   by_cases z : j = 0
   ·subst z
    rw [if_neg (by omega)]
    rfl
   ·rw [if_pos (by omega)]⟩)
  have HB3 := Lib.hid (bt HB.out HBe.out)
  have HM3 := Lib.hid (HM.out.below HBe.out)
  clear HR HBe
  go_wp2_with fail
  refine (rshares_any HM3.out HPR.out (fun e h1 he => rfl) (dirO_shares HSS.out) HSS.out.range (dirO_range HSS.out HSS.out.range) hN1 hN2).mono ?_
  rintro en w4 ⟨g, o, x, rfl, hx, ho, hs, hg, hgb, hb2⟩
  have HX := Lib.hid hx
  have HO := Lib.hid ho
  have HS := Lib.hid hs
  have HG := Lib.hid hg
  have HB4 := Lib.hid (bt HB3.out hb2)
  clear hx ho hs hg hb2 HM3 HPR HB3 hgb
  go_wp2
  go_ret2
  exact ⟨g, o, x, rfl, HO.out, HS.out, HG.out, (HX.out.rats (by omega)).congr (fun e he => by
   by_cases z : e = 0
   ·subst z; rw [if_pos rfl]; exact Sol.zero HO.out HS.out (by omega)
   ·rw [if_neg z]), HB4.out⟩
end Go.Proofs.YteionhenpehogaaGreatDoor
