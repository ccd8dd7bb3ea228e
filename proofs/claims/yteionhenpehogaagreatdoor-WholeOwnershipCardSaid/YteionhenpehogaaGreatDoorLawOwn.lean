import Derived.Test.YteionhenpehogaaGreatDoorPlainOwn
import Derived.Test.YteionhenpehogaaGreatDoorCur
import Derived.Test.YteionhenpehogaaGreatDoorAwakeT
import Derived.BigRegion
import Derived.Deep.RegionWith
namespace Go.Proofs.YteionhenpehogaaGreatDoor
open Go.RowKit Tally Graph.Plain
theorem eff_noC {w : World} {v : Value} {k : Nat} {H : Hds} {n day : Int} (hH : HoldR w v k H) (hw : Hwf H k) {c : Int} (hc : c = 1 ∧ ¬ H.valid n k ∨ c = 2 ∧ H.valid n k ∧ ¬ goodDate day) :
  Calls Tryz.prog 16 #[.int .i64 n, v, .int .i64 day] w (GivesNo w c) := by
 rcases hc with ⟨rfl, h⟩ | ⟨rfl, h, d⟩
 ·exact eff_no1 hH hw h
 ·exact eff_no2 hH hw h d
theorem out_noC {w : World} {v : Value} {k : Nat} {H : Hds} {n day : Int} (hH : HoldR w v k H) (hw : Hwf H k) {c : Int} (hc : c = 1 ∧ ¬ H.valid n k ∨ c = 2 ∧ H.valid n k ∧ ¬ goodDate day) :
  Calls Tryz.prog 22 #[.int .i64 n, v, .int .i64 day] w (GivesNo w c) := by
 rcases hc with ⟨rfl, h⟩ | ⟨rfl, h, d⟩
 ·exact out_no1 hH hw h
 ·exact out_no2 hH hw h d
theorem box_grp {w : World} {u : Value} {n : Nat} {jt : Nat → Bool} (hE : EntR w u n jt) :
  ∃ W, W = (w.alloc (.cells (grp (.slice none 0 0)) 49)).setRow w.heap.size (grp u) ∧ Below w.heap.size w W ∧ W.heap[w.heap.size]? = some (.cells (grp u) 49 (0, 0)) ∧ EntR W u n jt := by
 have hb : Below w.heap.size w ((w.alloc (.cells (grp (.slice none 0 0)) 49)).setRow w.heap.size (grp u)) := below_setRow ((Below.refl _ _).alloc (Nat.le_refl _) _) (Nat.le_refl _) _
 exact ⟨_, rfl, hb, setRow_heap _ _ _ _ _ _ (heap_alloc_new w _), hE.below hb⟩
theorem rg_oneO {N : Nat} (h : 1 ≤ N) : Rg N (1 : Rat) := Rg.of (fw_mono (show Fw 1 1 by constructor <;> decide) h)
theorem RowIs_eff_rg {N : Nat} {x : Nat → Rat} (h : ∀ e, e < N → Rg 50000 (x e)) (c : Rat) (hc : Rg 50000 c) : ∀ e, e < N → Rg 50000 (if e = 0 then c else x e) := fun e he => by
 by_cases z : e = 0
 ·rw [if_pos z]; exact hc
 ·rw [if_neg z]; exact h e he
set_option maxHeartbeats 8000000 in
set_option maxRecDepth 100000 in
theorem lawOwn_any {w : World} {u v : Value} {n k : Nat} {day : Int} {H : Hds} {jt : Nat → Bool} (hj : RowR w u n fun i => .bool (jt i)) (h : HoldIn w v k H) (ht : Tab w) :
  Calls Tryz.prog 4 #[u, v, .int .i64 day] w fun e w' => e = .returned (.bool true) ∧ Below w.heap.size w w' := by
 obtain ⟨⟨a, c, rfl, hkc⟩, hh, hw⟩ := h
 obtain ⟨ua, uc, rfl, hnc⟩ : ∃ a c, u = .slice a n c ∧ n ≤ 9223372036854775807 := by obtain ⟨a, b, o, c, h1, h2, h3, _⟩ := hj; exact ⟨a, c, h1, by omega⟩
 have HJ := Lib.hid hj
 have HH := Lib.hid hh
 have HW := Lib.hid hw
 have HT := Lib.hid ht
 clear hh hw ht hj
 go_enter Tryz.func4, Tryz.ntmps4
 go_wp2_with fail
 refine (tawake_any HT.out).mono ?_
 rintro en w1 ⟨rfl, hb1⟩
 have HB1 := Lib.hid hb1
 clear hb1
 by_cases hn8 : n ≤ 8
 case neg =>
  have q1 : (8 : Int) < (n : Int) := by omega
  go_wp2_with (go_at_call 15; (with_reducible refine (tawake_any (HT.out.below HB1.out)).mono ?_); rintro en w3 ⟨rfl, hb3⟩; have HB3 := Lib.hid (bt HB1.out hb3); clear hb3)
  go_ret
  exact ⟨rfl, HB3.out⟩
 have q1 : ¬ (8 : Int) < (n : Int) := by omega
 by_cases hk30 : k ≤ 30
 case neg =>
  have q2 : (30 : Int) < (k : Int) := by omega
  go_wp2_with (go_at_call 15; (with_reducible refine (tawake_any (HT.out.below HB1.out)).mono ?_); rintro en w3 ⟨rfl, hb3⟩; have HB3 := Lib.hid (bt HB1.out hb3); clear hb3)
  go_ret
  exact ⟨rfl, HB3.out⟩
 have q2 : ¬ (30 : Int) < (k : Int) := by omega
 go_wp2_with fail
 refine (joint_any (HJ.out.below HB1.out) hn8).mono ?_
 rintro en w2 ⟨ug, rfl, hE2, hb2⟩
 obtain ⟨uga, ugc, rfl⟩ : ∃ a c, ug = .slice a n c := by obtain ⟨a, b, o, c, h1, _⟩ := hE2; exact ⟨a, c, h1⟩
 obtain ⟨w3, hW3, hb3, hg3, hE3⟩ := box_grp hE2
 replace hW3 : w3 = (w2.alloc (.cells #[.string ⟨#[]⟩, .int .i64 0, .int .i64 0, .int .i64 0, .slice none 0 0, .int .i64 0, .int .i64 0, .int .i64 0, .int .i64 0, .int .i64 0, .int .i64 0, .int .i64 0, .int .i64 0, .int .i64 0, .int .i64 0, .int .i64 0, .int .i64 0, .int .i64 0, .int .i64 0, .int .i64 0, .slice none 0 0] 49)).setRow w2.heap.size (grp (.slice uga n ugc)) := hW3
 have HB2 := Lib.hid (bt HB1.out hb2)
 have HB3 := Lib.hid (bt HB2.out hb3)
 have HG3 := Lib.hid hg3
 have HE3 := Lib.hid hE3
 have HH3 := Lib.hid ((HH.out hk30).below HB3.out)
 clear HH hb2 hb3 hg3 hE3
 go_wp2_with (refine wpList_store_row rfl 49 (.tmp 8) (.tmp 39) rfl w2.heap.size (grp (.slice uga n ugc)) rfl rfl 49 (grp (.slice none 0 0)) (heap_alloc_new w2 _) (by kernel_rfl) rfl (by simp [grp, Value.oneCell']) ?_)
 rw [← hW3]
 clear hW3
 by_cases hg : H.valid n k ∧ goodDate day
 case neg =>
  obtain ⟨cc, hcc⟩ : ∃ cc : Int, cc = 1 ∧ ¬ H.valid n k ∨ cc = 2 ∧ H.valid n k ∧ ¬ goodDate day := by
   by_cases hv : H.valid n k
   ·exact ⟨2, .inr ⟨rfl, hv, fun d => hg ⟨hv, d⟩⟩⟩
   ·exact ⟨1, .inl ⟨rfl, hv⟩⟩
  have hcb : (cc != 0) = true := bne_iff_ne.2 (by omega)
  have hc0 : (cc == 0) = false := by rw [beq_eq_false_iff_ne]; omega
  have HC := Lib.hid hcc
  clear hg hcc
  go_wp2_with fail
  refine (eff_noC HH3.out HW.out HC.out).mono ?_
  rintro en w4 ⟨rfl, hb4⟩
  have HB4 := Lib.hid (bt HB3.out hb4)
  have HH4 := Lib.hid (HH3.out.below hb4)
  have HE4 := Lib.hid (HE3.out.below hb4)
  have HG4 := Lib.hid (blk_next HG3.out hb4)
  clear hb4 HH3 HE3 HG3
  go_wp2_with fail
  refine (out_noC HH4.out HW.out HC.out).mono ?_
  rintro en w5 ⟨rfl, hb5⟩
  have HB5 := Lib.hid (bt HB4.out hb5)
  have HH5 := Lib.hid (HH4.out.below hb5)
  have HE5 := Lib.hid (HE4.out.below hb5)
  have HG5 := Lib.hid (blk_next HG4.out hb5)
  clear hb5 HH4 HE4 HG4
  go_wp2_with fail
  refine (ctl_no HH5.out HW.out HC.out).mono ?_
  rintro en w6 ⟨rfl, hb6⟩
  have HB6 := Lib.hid (bt HB5.out hb6)
  have HH6 := Lib.hid (HH5.out.below hb6)
  have HE6 := Lib.hid (HE5.out.below hb6)
  have HG6 := Lib.hid (blk_next HG5.out hb6)
  clear hb6 HH5 HE5 HG5
  go_wp2_with (refine wpList_load_row rfl 49 (.tmp 8) rfl w2.heap.size rfl 49 (grp (.slice uga n ugc)) (0, 0) _ HG6.out Tryz.underlying49 rfl (by kernel_rfl) ?_)
  refine (all_no HE6.out HH6.out HW.out HC.out).mono ?_
  rintro en w7 ⟨rfl, hb7⟩
  have HB7 := Lib.hid (bt HB6.out hb7)
  clear hb7
  go_wp2
  go_ret
  exact ⟨rfl, HB7.out⟩
 obtain ⟨hv, hd⟩ := hg
 have hN1 : 1 ≤ n := by have := hv.1; omega
 have hN2 : n ≤ 12 := by omega
 have HV := Lib.hid hv
 have HD := Lib.hid hd
 have HSS := Lib.hid (at_shares (day := day) hv)
 have HZI := Lib.hid (ctlS_is (n := n) (Z := fun h e => H.at (h : Nat) (e : Nat) day k) fun i j hi hj => (at_zrange hv i j hi hj).1)
 clear hv hd
 go_wp2_with fail
 refine (eff_yes HH3.out HW.out HV.out HD.out).mono ?_
 rintro en w4 ⟨ax, cx, o, x, rfl, ho, hx, hg, hr, hb4⟩
 have HO := Lib.hid ho
 have HX := Lib.hid hx
 have HGX0 := Lib.hid hg
 have HB4 := Lib.hid (bt HB3.out hb4)
 have HH4 := Lib.hid (HH3.out.below hb4)
 have HE4 := Lib.hid (HE3.out.below hb4)
 have HG4 := Lib.hid (blk_next HG3.out hb4)
 have HR4 := Lib.hid hr
 clear ho hx hg hr hb4 HH3 HE3 HG3
 go_wp2_with fail
 refine (out_yes HH4.out HW.out HV.out HD.out).mono ?_
 rintro en w5 ⟨ay, cy, p, y, rfl, hp, hy, hg, hr, hb5⟩
 have HP := Lib.hid hp
 have HY := Lib.hid hy
 have HGY0 := Lib.hid hg
 have HB5 := Lib.hid (bt HB4.out hb5)
 have HH5 := Lib.hid (HH4.out.below hb5)
 have HE5 := Lib.hid (HE4.out.below hb5)
 have HG5 := Lib.hid (blk_next HG4.out hb5)
 have HR5 := Lib.hid (HR4.out.below hb5)
 have HS5 := Lib.hid hr
 clear hp hy hg hr hb5 HH4 HE4 HG4 HR4
 go_wp2_with fail
 refine (ctl_yes HH5.out HW.out HV.out HD.out).mono ?_
 rintro en w6 ⟨Bc, s, rfl, hrow, hct, hb6⟩
 have HCT := Lib.hid hct
 have HB6 := Lib.hid (bt HB5.out hb6)
 have HH6 := Lib.hid (HH5.out.below hb6)
 have HE6 := Lib.hid (HE5.out.below hb6)
 have HG6 := Lib.hid (blk_next HG5.out hb6)
 have HR6 := Lib.hid (HR5.out.below hb6)
 have HS6 := Lib.hid (HS5.out.below hb6)
 have HC6 := Lib.hid hrow
 clear hrow hct hb6 HH5 HE5 HG5 HR5 HS5
 go_wp2_with (refine wpList_load_row rfl 49 (.tmp 8) rfl w2.heap.size rfl 49 (grp (.slice uga n ugc)) (0, 0) _ HG6.out Tryz.underlying49 rfl (by kernel_rfl) ?_)
 refine (all_yes HE6.out HH6.out HW.out HV.out HD.out).mono ?_
 rintro en w7 ⟨Bm, s2, rfl, hrow, hct, hb7⟩
 have HB7 := Lib.hid (bt HB6.out hb7)
 have HH7 := Lib.hid (HH6.out.below hb7)
 have HE7 := Lib.hid (HE6.out.below hb7)
 have HG7 := Lib.hid (blk_next HG6.out hb7)
 have HR7 := Lib.hid (HR6.out.below hb7)
 have HS7 := Lib.hid (HS6.out.below hb7)
 have HC7 := Lib.hid (HC6.out.of_block (hb7.block _ HC6.out.lt))
 have HMO := Lib.hid (show ∀ e, e < n → mth n (fun h e => H.at (h : Nat) (e : Nat) day k) jt s2 e = mOf n k H jt e day from fun e he => mth_same (Y := fun h e => H.at (h : Nat) (e : Nat) day k) HZI.out hct (fun _ _ _ _ => rfl) he)
 have HM7 := Lib.hid (hrow.congr fun e he => by rw [HMO.out e he])
 clear hrow hct hb7 HH6 HE6 HG6 HR6 HS6 HC6 HMO
 obtain ⟨M, hM⟩ : ∃ M : Nat → Int, M = fun e => mOf n k H jt e day := ⟨_, rfl⟩
 rw [show (fun e => Value.int .i64 (mOf n k H jt e day)) = fun e => Value.int .i64 (M e) from by rw [hM]] at HM7
 have HMM := Lib.hid hM
 clear hM
 go_wp2_with fail
 refine (check_any (b := true) (M := 50000) HH7.out HW.out HV.out HD.out HO.out HX.out HR7.out (RowIs_eff_rg HGX0.out 1 (rg_oneO (by omega))) (Nat.le_refl _) (by decide) ⟨fun _ => ⟨rfl, fun _ _ => rfl⟩, fun _ => rfl⟩).mono ?_
 rintro en w8 ⟨rfl, hb8⟩
 have HB8 := Lib.hid (bt HB7.out hb8)
 have HH8 := Lib.hid (HH7.out.below hb8)
 have HE8 := Lib.hid (HE7.out.below hb8)
 have HG8 := Lib.hid (blk_next HG7.out hb8)
 have HR8 := Lib.hid (HR7.out.below hb8)
 have HS8 := Lib.hid (HS7.out.below hb8)
 have HC8 := Lib.hid (HC7.out.of_block (hb8.block _ HC7.out.lt))
 have HM8 := Lib.hid (HM7.out.of_block (hb8.block _ HM7.out.lt))
 clear hb8 HH7 HE7 HG7 HR7 HS7 HC7 HM7
 go_wp2_with fail
 refine (of_r (n := 1) (d := 1) (by decide) (by decide) (by decide) (by decide) (by decide)).mono ?_
 rintro en w9 ⟨n1, a1, k1, c1, n2, a2, k2, c2, rfl, hq, hb9⟩
 have HQ9 := Lib.hid (show RatN w9 ⟨n1, a1, k1, c1, n2, a2, k2, c2⟩ 1 from hq)
 have HB9 := Lib.hid (bt HB8.out hb9)
 have HH9 := Lib.hid (HH8.out.below hb9)
 have HE9 := Lib.hid (HE8.out.below hb9)
 have HG9 := Lib.hid (blk_next HG8.out hb9)
 have HR9 := Lib.hid (HR8.out.below hb9)
 have HS9 := Lib.hid (HS8.out.below hb9)
 have HC9 := Lib.hid (HC8.out.of_block (hb9.block _ HC8.out.lt))
 have HM9 := Lib.hid (HM8.out.of_block (hb9.block _ HM8.out.lt))
 clear hq hb9 HH8 HE8 HG8 HR8 HS8 HC8 HM8
 go_wp2_with fail
 obtain ⟨wa, hW, hs, hb, b0⟩ := alloc1 w9 (.cells #[.bool n1, .slice a1 k1 c1, .bool n2, .slice a2 k2 c2] 37)
 rw [← hW]
 have HQA := Lib.hid (show RatN wa ⟨n1, a1, k1, c1, n2, a2, k2, c2⟩ 1 from RatR.below HQ9.out hb)
 have HOA := Lib.hid b0
 have HBA := Lib.hid (bt HB9.out hb)
 have HHA := Lib.hid (HH9.out.below hb)
 have HEA := Lib.hid (HE9.out.below hb)
 have HGA := Lib.hid (blk_next HG9.out hb)
 have HRA := Lib.hid (HR9.out.below hb)
 have HSA := Lib.hid (HS9.out.below hb)
 have HCA := Lib.hid (HC9.out.of_block (hb.block _ HC9.out.lt))
 have HMA := Lib.hid (HM9.out.of_block (hb.block _ HM9.out.lt))
 have HGX := Lib.hid (RowIs_eff_rg HGX0.out 1 (rg_oneO (by omega)))
 have HGY := Lib.hid (RowIs_eff_rg HGY0.out 0 (Rg.of (fw_zero 49999)))
 have HSUM := Lib.hid (show ∀ e, e < n → ¬ 0 < cmpQ ((if e = 0 then (1 : Rat) else x e) + (if e = 0 then (0 : Rat) else y e)) 1 from fun e he => own_sum HSS.out HO.out HP.out HX.out HY.out he)
 have HCTL := Lib.hid (show ∀ e, e < n → s e = true → 0 < (if e = 0 then (1 : Rat) else x e).num.sign ∧ M e = 3 from fun e he hc => ⟨own_ctl HSS.out HO.out HX.out HCT.out he hc, by
  rw [HMM.out]
  show mth n _ jt _ e = 3
  unfold mth
  rw [if_pos (by rw [(HCT.out.unique HZI.out) e he] at hc; exact hc)]⟩)
 have HNON := Lib.hid (show ∀ e, e < n → ¬ 0 < (if e = 0 then (1 : Rat) else x e).num.sign → M e = 0 from fun e he hc => by
  rw [HMM.out]
  exact ownZ_none HSS.out HO.out HX.out HZI.out he hc)
 clear hW hs hb b0 HQ9 HB9 HH9 HE9 HG9 HR9 HS9 HC9 HM9 HGX0 HGY0
 go_wp2_with fail
 go_loopw [19] (fun i wr => ∃ e : Nat, e ≤ n ∧ i = .int .i64 e ∧ Below wa.heap.size wa wr) (fun i _ => n - (RowKit.intOf i).toNat)
 case atStart => exact ⟨0, Nat.zero_le _, rfl, Below.refl _ _⟩
 case round =>
  obtain ⟨e, he, rfl, hb⟩ := hrel
  have HBr := Lib.hid hb
  have HBW := Lib.hid (bt HBA.out hb)
  clear hb
  by_cases hel : e < n
  case neg =>
   obtain rfl : e = n := by omega
   go_wp2
   go_ret
   exact ⟨rfl, HBW.out⟩
  have hei : (e : Int) < (n : Int) := by omega
  obtain ⟨_, _, bx, ox, p3, p4⟩ := (HRA.out.below HBr.out).parts
  obtain rfl := p3 (by omega)
  obtain ⟨xe, ⟨x0, x1, x2, x3⟩, hxq⟩ := p4 e hel
  have HXE := Lib.hid (show RatR wr (.agg #[.bool xe.n1, .slice xe.a1 xe.k1 xe.c1, .bool xe.n2, .slice xe.a2 xe.k2 xe.c2]) (if e = 0 then (1 : Rat) else x e) from hxq)
  have HHr := Lib.hid (HHA.out.below HBr.out)
  have HEr := Lib.hid (HEA.out.below HBr.out)
  have HGr := Lib.hid (blk_next HGA.out HBr.out)
  have Yx0 := Lib.hid x0
  have Yx1 := Lib.hid x1
  have Yx2 := Lib.hid x2
  have Yx3 := Lib.hid x3
  clear hxq p3 p4
  obtain ⟨sg, hsg⟩ : ∃ sg, (if e = 0 then (1 : Rat) else x e).num.sign = sg := ⟨_, rfl⟩
  have HCE := Lib.hid (show s e = true → 0 < sg ∧ M e = 3 from fun h => by rw [← hsg]; exact HCTL.out e hel h)
  have HNE := Lib.hid (show ¬ 0 < sg → M e = 0 from fun h => HNON.out e hel (by rw [hsg]; omega))
  have HSG := Lib.hid hsg
  clear hsg
  have HYR := Lib.hid (HSA.out.below HBr.out)
  have r3d : decide ((e : Int) < 0) = false := decide_eq_false (by omega)
  have r4 : ¬ (n : Int) ≤ (e : Int) := by omega
  have r4d : decide ((n : Int) ≤ (e : Int)) = false := decide_eq_false r4
  have r5d : decide (n ≤ e) = false := decide_eq_false (by omega)
  obtain ⟨cq, hcq⟩ : ∃ cq, cmpQ ((if e = 0 then (1 : Rat) else x e) + (if e = 0 then (0 : Rat) else y e)) 1 = cq := ⟨_, rfl⟩
  have hcp : ¬ 0 < cq := by have h := HSUM.out e hel; rw [hcq] at h; omega
  have hcd : decide (0 < cq) = false := decide_eq_false hcp
  have HCQ := Lib.hid hcq
  clear hcq
  cases hse : s e
  ·by_cases hsp : 0 < sg
   ·have hspd : decide (0 < sg) = true := decide_eq_true hsp
    obtain ⟨m, hm⟩ : ∃ m, M e = m := ⟨_, rfl⟩
    go_wp2_with fail
    refine (ratsign_any HXE.out).mono ?_
    rintro en wb ⟨rfl, hbb⟩
    rw [HSG.out]
    have HBB := Lib.hid (bt HBr.out hbb)
    have HWB := Lib.hid hbb
    have HHb := Lib.hid (HHr.out.below hbb)
    have HEb := Lib.hid (HEr.out.below hbb)
    have HGb := Lib.hid (blk_next HGr.out hbb)
    clear hbb x0 x1 x2 x3
    go_wp2_with (refine wpList_load_row rfl 49 (.tmp 8) rfl w2.heap.size rfl 49 (grp (.slice uga n ugc)) (0, 0) _ HGb.out Tryz.underlying49 rfl (by kernel_rfl) ?_)
    refine (cur_any HEb.out HHb.out HW.out HV.out HD.out hel).mono ?_
    rintro en wc ⟨fr, tt, rfl, hbc⟩
    rw [show mOf n k H jt e day = m from by rw [← hm, HMM.out]]
    have HBC := Lib.hid (bt HBB.out hbc)
    have HWC := Lib.hid hbc
    clear hbc
    go_wp2_with fail
    obtain ⟨wd, hW, hs, hb, b0⟩ := alloc1 wc (.cells #[.int .i64 fr, .int .i64 tt, .int .i64 m] 60)
    rw [← hW]
    have HBD := Lib.hid (bt HBC.out hb)
    obtain ⟨⟨_, _, u2⟩, _⟩ := cells3 b0
    have HWD := Lib.hid (show Below wr.heap.size wr wd from bt (bt HWB.out HWC.out) hb)
    have HXD := Lib.hid (HXE.out.below HWD.out)
    have u0 := keepc HBD.out (HCA.out.cell hel)
    rw [hse] at u0
    have u1 := keepc HBD.out (HMA.out.cell hel)
    rw [hm] at u1
    have x0 := keepc HWD.out Yx0.out
    have x1 := keepc HWD.out Yx1.out
    have x2 := keepc HWD.out Yx2.out
    have x3 := keepc HWD.out Yx3.out
    obtain ⟨_, _, bY, oY, p5, p6⟩ := (HYR.out.below HWD.out).parts
    obtain rfl := p5 (by omega)
    obtain ⟨ye, ⟨y0, y1, y2, y3⟩, hyq⟩ := p6 e hel
    have HYD := Lib.hid (show RatR wd (.agg #[.bool ye.n1, .slice ye.a1 ye.k1 ye.c1, .bool ye.n2, .slice ye.a2 ye.k2 ye.c2]) (if e = 0 then (0 : Rat) else y e) from hyq)
    obtain ⟨⟨q0, q1, q2, q3⟩, _⟩ := res4_facts (blk_next HOA.out HBD.out)
    have HQD := Lib.hid (show RatR wd (.agg #[.bool n1, .slice a1 k1 c1, .bool n2, .slice a2 k2 c2]) 1 from RatR.below HQA.out HBD.out)
    clear hW hs hb b0 p5 p6 hyq
    go_wp2_with fail
    have Yu0 := Lib.hid u0
    have Yu1 := Lib.hid u1
    have Yu2 := Lib.hid u2
    have Yx0 := Lib.hid x0
    have Yx1 := Lib.hid x1
    have Yx2 := Lib.hid x2
    have Yx3 := Lib.hid x3
    have Yy0 := Lib.hid y0
    have Yy1 := Lib.hid y1
    have Yy2 := Lib.hid y2
    have Yy3 := Lib.hid y3
    have Yq0 := Lib.hid q0
    have Yq1 := Lib.hid q1
    have Yq2 := Lib.hid q2
    have Yq3 := Lib.hid q3
    clear u0 u1 u2 x0 x1 x2 x3 y0 y1 y2 y3 q0 q1 q2 q3
    have HLS := Lib.hid (fun (w' : World) (hb : Below wd.heap.size wd w') => (⟨keepc hb Yu0.out, keepc hb Yu1.out, keepc hb Yu2.out, keepc hb Yx0.out, keepc hb Yx1.out, keepc hb Yx2.out, keepc hb Yx3.out, keepc hb Yy0.out, keepc hb Yy1.out, keepc hb Yy2.out, keepc hb Yy3.out, keepc hb Yq0.out, keepc hb Yq1.out, keepc hb Yq2.out, keepc hb Yq3.out⟩ : w'.cell? ⟨Bc, e, none⟩ = some (.bool false) ∧ w'.cell? ⟨Bm, e, none⟩ = some (.int .i64 m) ∧ w'.cell? ⟨wc.heap.size, 2, none⟩ = some (.int .i64 m) ∧ w'.cell? ⟨bx, ox + e * 4, none⟩ = some (.bool xe.n1) ∧ w'.cell? ⟨bx, ox + e * 4 + 1, none⟩ = some (.slice xe.a1 xe.k1 xe.c1) ∧ w'.cell? ⟨bx, ox + e * 4 + 2, none⟩ = some (.bool xe.n2) ∧ w'.cell? ⟨bx, ox + e * 4 + 3, none⟩ = some (.slice xe.a2 xe.k2 xe.c2) ∧ w'.cell? ⟨bY, oY + e * 4, none⟩ = some (.bool ye.n1) ∧ w'.cell? ⟨bY, oY + e * 4 + 1, none⟩ = some (.slice ye.a1 ye.k1 ye.c1) ∧ w'.cell? ⟨bY, oY + e * 4 + 2, none⟩ = some (.bool ye.n2) ∧ w'.cell? ⟨bY, oY + e * 4 + 3, none⟩ = some (.slice ye.a2 ye.k2 ye.c2) ∧ w'.cell? ⟨w9.heap.size, 0, none⟩ = some (.bool n1) ∧ w'.cell? ⟨w9.heap.size, 1, none⟩ = some (.slice a1 k1 c1) ∧ w'.cell? ⟨w9.heap.size, 2, none⟩ = some (.bool n2) ∧ w'.cell? ⟨w9.heap.size, 3, none⟩ = some (.slice a2 k2 c2)))
    have HDR := Lib.hid (Below.drew (Below.refl wd.heap.size wd))
    refine wp_region_held_drew (S := fun w' => w'.cell? ⟨Bc, e, none⟩ = some (.bool false) ∧ w'.cell? ⟨Bm, e, none⟩ = some (.int .i64 m) ∧ w'.cell? ⟨wc.heap.size, 2, none⟩ = some (.int .i64 m) ∧ w'.cell? ⟨bx, ox + e * 4, none⟩ = some (.bool xe.n1) ∧ w'.cell? ⟨bx, ox + e * 4 + 1, none⟩ = some (.slice xe.a1 xe.k1 xe.c1) ∧ w'.cell? ⟨bx, ox + e * 4 + 2, none⟩ = some (.bool xe.n2) ∧ w'.cell? ⟨bx, ox + e * 4 + 3, none⟩ = some (.slice xe.a2 xe.k2 xe.c2) ∧ w'.cell? ⟨bY, oY + e * 4, none⟩ = some (.bool ye.n1) ∧ w'.cell? ⟨bY, oY + e * 4 + 1, none⟩ = some (.slice ye.a1 ye.k1 ye.c1) ∧ w'.cell? ⟨bY, oY + e * 4 + 2, none⟩ = some (.bool ye.n2) ∧ w'.cell? ⟨bY, oY + e * 4 + 3, none⟩ = some (.slice ye.a2 ye.k2 ye.c2) ∧ w'.cell? ⟨w9.heap.size, 0, none⟩ = some (.bool n1) ∧ w'.cell? ⟨w9.heap.size, 1, none⟩ = some (.slice a1 k1 c1) ∧ w'.cell? ⟨w9.heap.size, 2, none⟩ = some (.bool n2) ∧ w'.cell? ⟨w9.heap.size, 3, none⟩ = some (.slice a2 k2 c2)) (by kernel_rfl) ?_ (fun hHeld => ?_)
    ·exact HLS.out _ HDR.out
    (try dsimp only at hHeld)
    refine wpAnyH_take (i := 0) (oi := (⟨some 148, .move (.tmp 13), 41, "top26.go:43", #[], none⟩ : Oper)) (v := ?y1_1_v) rfl (by kernel_rfl) (by kernel_rfl) (by kernel_rfl) (fun _ _ _ h => h) (Or.inl ⟨by rfl, ?y1_1_h⟩) hHeld ?y1_1_r
    case y1_1_h => (intro w hSw; (try dsimp only at hSw); go_simp; all_goals with_reducible rfl)
    (try simp only [Act.put, List.setIfInBounds_toArray, List.set_cons_zero, List.set_cons_succ])
    refine wpAnyH_take (i := 1) (oi := (⟨some 149, .move (.tmp 19), 3, "top26.go:43", #[], none⟩ : Oper)) (v := ?y1_2_v) rfl (by kernel_rfl) (by kernel_rfl) (by kernel_rfl) (fun _ _ _ h => h) (Or.inl ⟨by rfl, ?y1_2_h⟩) hHeld ?y1_2_r
    case y1_2_h => (intro w hSw; (try dsimp only at hSw); go_simp; all_goals with_reducible rfl)
    (try simp only [Act.put, List.setIfInBounds_toArray, List.set_cons_zero, List.set_cons_succ])
    refine wpAnyH_take (i := 2) (oi := (⟨some 150, .indexAddr 41 (.tmp 148) (.tmp 149), 0, "top26.go:43", #[⟨0, .data⟩, ⟨1, .data⟩], none⟩ : Oper)) (v := ?y1_3_v) rfl (by kernel_rfl) (by kernel_rfl) (by kernel_rfl) (fun _ _ _ h => h) (Or.inl ⟨by rfl, ?y1_3_h⟩) hHeld ?y1_3_r
    case y1_3_h => (intro w hSw; (try dsimp only at hSw); go_simp; all_goals with_reducible rfl)
    (try simp only [Act.put, List.setIfInBounds_toArray, List.set_cons_zero, List.set_cons_succ])
    refine wpAnyH_take (i := 3) (oi := (⟨some 151, .load 4 (.tmp 150), 4, "top26.go:43", #[⟨2, .data⟩], none⟩ : Oper)) (v := ?y1_4_v) rfl (by kernel_rfl) (by kernel_rfl) (by kernel_rfl) (fun _ _ _ h => h) (Or.inl ⟨by rfl, ?y1_4_h⟩) hHeld ?y1_4_r
    case y1_4_h => (intro w hSw; (try dsimp only at hSw); go_simp; all_goals with_reducible rfl)
    (try simp only [Act.put, List.setIfInBounds_toArray, List.set_cons_zero, List.set_cons_succ])
    refine wpAnyH_take (i := 4) (oi := (⟨some 152, .move (.tmp 151), 4, "top26.go:43", #[⟨3, .data⟩], none⟩ : Oper)) (v := ?y1_5_v) rfl (by kernel_rfl) (by kernel_rfl) (by kernel_rfl) (fun _ _ _ h => h) (Or.inl ⟨by rfl, ?y1_5_h⟩) hHeld ?y1_5_r
    case y1_5_h => (intro w hSw; (try dsimp only at hSw); go_simp; all_goals with_reducible rfl)
    (try simp only [Act.put, List.setIfInBounds_toArray, List.set_cons_zero, List.set_cons_succ])
    refine wpAnyH_take (i := 5) (oi := (⟨some 153, .move (.tmp 20), 4, "top26.go:43", #[⟨4, .guard⟩], some (4, true)⟩ : Oper)) (v := undef) rfl (by kernel_rfl) (by kernel_rfl) (by kernel_rfl) (fun _ _ _ h => h) (Or.inr ⟨by rfl, rfl⟩) hHeld ?_
    (try simp only [Act.put, List.setIfInBounds_toArray, List.set_cons_zero, List.set_cons_succ])
    refine wpAnyH_take (i := 6) (oi := (⟨some 154, .unOp .not 4 (.tmp 153), 4, "top26.go:43", #[⟨5, .data⟩, ⟨4, .guard⟩], some (4, true)⟩ : Oper)) (v := undef) rfl (by kernel_rfl) (by kernel_rfl) (by kernel_rfl) (fun _ _ _ h => h) (Or.inr ⟨by rfl, rfl⟩) hHeld ?_
    (try simp only [Act.put, List.setIfInBounds_toArray, List.set_cons_zero, List.set_cons_succ])
    refine wpAnyH_take (i := 7) (oi := (⟨some 155, .move (.tmp 154), 4, "top26.go:43", #[⟨6, .data⟩, ⟨4, .chain⟩, ⟨4, .guard⟩], some (4, true)⟩ : Oper)) (v := undef) rfl (by kernel_rfl) (by kernel_rfl) (by kernel_rfl) (fun _ _ _ h => h) (Or.inr ⟨by rfl, rfl⟩) hHeld ?_
    (try simp only [Act.put, List.setIfInBounds_toArray, List.set_cons_zero, List.set_cons_succ])
    refine wpAnyH_take (i := 8) (oi := (⟨some 156, .move (.tmp 15), 53, "top26.go:43", #[⟨7, .guard⟩], some (7, false)⟩ : Oper)) (v := undef) rfl (by kernel_rfl) (by kernel_rfl) (by kernel_rfl) (fun _ _ _ h => h) (Or.inr ⟨by rfl, rfl⟩) hHeld ?_
    (try simp only [Act.put, List.setIfInBounds_toArray, List.set_cons_zero, List.set_cons_succ])
    refine wpAnyH_take (i := 9) (oi := (⟨some 157, .move (.tmp 19), 3, "top26.go:43", #[⟨7, .guard⟩], some (7, false)⟩ : Oper)) (v := undef) rfl (by kernel_rfl) (by kernel_rfl) (by kernel_rfl) (fun _ _ _ h => h) (Or.inr ⟨by rfl, rfl⟩) hHeld ?_
    (try simp only [Act.put, List.setIfInBounds_toArray, List.set_cons_zero, List.set_cons_succ])
    refine wpAnyH_take (i := 10) (oi := (⟨some 158, .indexAddr 53 (.tmp 156) (.tmp 157), 0, "top26.go:43", #[⟨8, .data⟩, ⟨9, .data⟩, ⟨7, .guard⟩], some (7, false)⟩ : Oper)) (v := undef) rfl (by kernel_rfl) (by kernel_rfl) (by kernel_rfl) (fun _ _ _ h => h) (Or.inr ⟨by rfl, rfl⟩) hHeld ?_
    (try simp only [Act.put, List.setIfInBounds_toArray, List.set_cons_zero, List.set_cons_succ])
    refine wpAnyH_take (i := 11) (oi := (⟨some 159, .load 3 (.tmp 158), 3, "top26.go:43", #[⟨10, .data⟩, ⟨7, .guard⟩], some (7, false)⟩ : Oper)) (v := undef) rfl (by kernel_rfl) (by kernel_rfl) (by kernel_rfl) (fun _ _ _ h => h) (Or.inr ⟨by rfl, rfl⟩) hHeld ?_
    (try simp only [Act.put, List.setIfInBounds_toArray, List.set_cons_zero, List.set_cons_succ])
    refine wpAnyH_take (i := 12) (oi := (⟨some 160, .binOp .neq 3 (.tmp 159) (.const (.int .i64 3)) 3, 4, "top26.go:43", #[⟨11, .data⟩, ⟨7, .guard⟩], some (7, false)⟩ : Oper)) (v := undef) rfl (by kernel_rfl) (by kernel_rfl) (by kernel_rfl) (fun _ _ _ h => h) (Or.inr ⟨by rfl, rfl⟩) hHeld ?_
    (try simp only [Act.put, List.setIfInBounds_toArray, List.set_cons_zero, List.set_cons_succ])
    refine wpAnyH_take (i := 13) (oi := (⟨some 161, .pick (.tmp 155) (.const (.bool true)) (.tmp 160), 4, "top26.go:43", #[⟨7, .data⟩, ⟨12, .data⟩, ⟨4, .guard⟩], some (4, true)⟩ : Oper)) (v := undef) rfl (by kernel_rfl) (by kernel_rfl) (by kernel_rfl) (fun _ _ _ h => h) (Or.inr ⟨by rfl, rfl⟩) hHeld ?_
    (try simp only [Act.put, List.setIfInBounds_toArray, List.set_cons_zero, List.set_cons_succ])
    refine wpAnyH_take (i := 14) (oi := (⟨some 162, .pick (.tmp 152) (.tmp 161) (.const (.bool false)), 4, "top26.go:43", #[⟨4, .data⟩, ⟨13, .data⟩], none⟩ : Oper)) (v := ?y1_15_v) rfl (by kernel_rfl) (by kernel_rfl) (by kernel_rfl) (fun _ _ _ h => h) (Or.inl ⟨by rfl, ?y1_15_h⟩) hHeld ?y1_15_r
    case y1_15_h => (intro w hSw; (try dsimp only at hSw); go_simp; all_goals with_reducible rfl)
    (try simp only [Act.put, List.setIfInBounds_toArray, List.set_cons_zero, List.set_cons_succ])
    refine wpAnyH_take (i := 15) (oi := (⟨some 163, .move (.tmp 162), 4, "top26.go:43", #[⟨14, .data⟩, ⟨7, .chain⟩], none⟩ : Oper)) (v := ?y1_16_v) rfl (by kernel_rfl) (by kernel_rfl) (by kernel_rfl) (fun _ _ _ h => h) (Or.inl ⟨by rfl, ?y1_16_h⟩) hHeld ?y1_16_r
    case y1_16_h => (intro w hSw; (try dsimp only at hSw); go_simp; all_goals with_reducible rfl)
    (try simp only [Act.put, List.setIfInBounds_toArray, List.set_cons_zero, List.set_cons_succ])
    refine wpAnyH_take (i := 16) (oi := (⟨some 164, .move (.tmp 20), 4, "top26.go:43", #[⟨15, .guard⟩], some (15, false)⟩ : Oper)) (v := ?y1_17_v) rfl (by kernel_rfl) (by kernel_rfl) (by kernel_rfl) (fun _ _ _ h => h) (Or.inl ⟨by rfl, ?y1_17_h⟩) hHeld ?y1_17_r
    case y1_17_h => (intro w hSw; (try dsimp only at hSw); go_simp; all_goals with_reducible rfl)
    (try simp only [Act.put, List.setIfInBounds_toArray, List.set_cons_zero, List.set_cons_succ])
    refine wpAnyH_take (i := 17) (oi := (⟨some 165, .unOp .not 4 (.tmp 164), 4, "top26.go:43", #[⟨16, .data⟩, ⟨15, .guard⟩], some (15, false)⟩ : Oper)) (v := ?y1_18_v) rfl (by kernel_rfl) (by kernel_rfl) (by kernel_rfl) (fun _ _ _ h => h) (Or.inl ⟨by rfl, ?y1_18_h⟩) hHeld ?y1_18_r
    case y1_18_h => (intro w hSw; (try dsimp only at hSw); go_simp; all_goals with_reducible rfl)
    (try simp only [Act.put, List.setIfInBounds_toArray, List.set_cons_zero, List.set_cons_succ])
    refine wpAnyH_take (i := 18) (oi := (⟨some 166, .move (.tmp 165), 4, "top26.go:43", #[⟨17, .data⟩, ⟨15, .chain⟩, ⟨15, .guard⟩], some (15, false)⟩ : Oper)) (v := ?y1_19_v) rfl (by kernel_rfl) (by kernel_rfl) (by kernel_rfl) (fun _ _ _ h => h) (Or.inl ⟨by rfl, ?y1_19_h⟩) hHeld ?y1_19_r
    case y1_19_h => (intro w hSw; (try dsimp only at hSw); go_simp; all_goals with_reducible rfl)
    (try simp only [Act.put, List.setIfInBounds_toArray, List.set_cons_zero, List.set_cons_succ])
    refine wpAnyH_take (i := 19) (oi := (⟨some 167, .move (.tmp 15), 53, "top26.go:43", #[⟨18, .guard⟩], some (18, true)⟩ : Oper)) (v := undef) rfl (by kernel_rfl) (by kernel_rfl) (by kernel_rfl) (fun _ _ _ h => h) (Or.inr ⟨by rfl, rfl⟩) hHeld ?_
    (try simp only [Act.put, List.setIfInBounds_toArray, List.set_cons_zero, List.set_cons_succ])
    refine wpAnyH_take (i := 20) (oi := (⟨some 168, .move (.tmp 19), 3, "top26.go:43", #[⟨18, .guard⟩], some (18, true)⟩ : Oper)) (v := undef) rfl (by kernel_rfl) (by kernel_rfl) (by kernel_rfl) (fun _ _ _ h => h) (Or.inr ⟨by rfl, rfl⟩) hHeld ?_
    (try simp only [Act.put, List.setIfInBounds_toArray, List.set_cons_zero, List.set_cons_succ])
    refine wpAnyH_take (i := 21) (oi := (⟨some 169, .indexAddr 53 (.tmp 167) (.tmp 168), 0, "top26.go:43", #[⟨19, .data⟩, ⟨20, .data⟩, ⟨18, .guard⟩], some (18, true)⟩ : Oper)) (v := undef) rfl (by kernel_rfl) (by kernel_rfl) (by kernel_rfl) (fun _ _ _ h => h) (Or.inr ⟨by rfl, rfl⟩) hHeld ?_
    (try simp only [Act.put, List.setIfInBounds_toArray, List.set_cons_zero, List.set_cons_succ])
    refine wpAnyH_take (i := 22) (oi := (⟨some 170, .load 3 (.tmp 169), 3, "top26.go:43", #[⟨21, .data⟩, ⟨18, .guard⟩], some (18, true)⟩ : Oper)) (v := undef) rfl (by kernel_rfl) (by kernel_rfl) (by kernel_rfl) (fun _ _ _ h => h) (Or.inr ⟨by rfl, rfl⟩) hHeld ?_
    (try simp only [Act.put, List.setIfInBounds_toArray, List.set_cons_zero, List.set_cons_succ])
    refine wpAnyH_take (i := 23) (oi := (⟨some 171, .binOp .neq 3 (.tmp 170) (.const (.int .i64 0)) 3, 4, "top26.go:43", #[⟨22, .data⟩, ⟨18, .guard⟩], some (18, true)⟩ : Oper)) (v := undef) rfl (by kernel_rfl) (by kernel_rfl) (by kernel_rfl) (fun _ _ _ h => h) (Or.inr ⟨by rfl, rfl⟩) hHeld ?_
    (try simp only [Act.put, List.setIfInBounds_toArray, List.set_cons_zero, List.set_cons_succ])
    refine wpAnyH_take (i := 24) (oi := (⟨some 172, .pick (.tmp 166) (.tmp 171) (.const (.bool false)), 4, "top26.go:43", #[⟨18, .data⟩, ⟨23, .data⟩, ⟨15, .guard⟩], some (15, false)⟩ : Oper)) (v := ?y1_25_v) rfl (by kernel_rfl) (by kernel_rfl) (by kernel_rfl) (fun _ _ _ h => h) (Or.inl ⟨by rfl, ?y1_25_h⟩) hHeld ?y1_25_r
    case y1_25_h => (intro w hSw; (try dsimp only at hSw); go_simp; all_goals with_reducible rfl)
    (try simp only [Act.put, List.setIfInBounds_toArray, List.set_cons_zero, List.set_cons_succ])
    refine wpAnyH_take (i := 25) (oi := (⟨some 173, .pick (.tmp 163) (.const (.bool true)) (.tmp 172), 4, "top26.go:43", #[⟨15, .data⟩, ⟨24, .data⟩], none⟩ : Oper)) (v := ?y1_26_v) rfl (by kernel_rfl) (by kernel_rfl) (by kernel_rfl) (fun _ _ _ h => h) (Or.inl ⟨by rfl, ?y1_26_h⟩) hHeld ?y1_26_r
    case y1_26_h => (intro w hSw; (try dsimp only at hSw); go_simp; all_goals with_reducible rfl)
    (try simp only [Act.put, List.setIfInBounds_toArray, List.set_cons_zero, List.set_cons_succ])
    refine wpAnyH_take (i := 26) (oi := (⟨some 174, .move (.tmp 173), 4, "top26.go:43", #[⟨25, .data⟩, ⟨18, .chain⟩], none⟩ : Oper)) (v := ?y1_27_v) rfl (by kernel_rfl) (by kernel_rfl) (by kernel_rfl) (fun _ _ _ h => h) (Or.inl ⟨by rfl, ?y1_27_h⟩) hHeld ?y1_27_r
    case y1_27_h => (intro w hSw; (try dsimp only at hSw); go_simp; all_goals with_reducible rfl)
    (try simp only [Act.put, List.setIfInBounds_toArray, List.set_cons_zero, List.set_cons_succ])
    refine wpAnyH_take (i := 27) (oi := (⟨some 175, .move (.tmp 22), 27, "top26.go:43", #[⟨26, .guard⟩], some (26, false)⟩ : Oper)) (v := ?y1_28_v) rfl (by kernel_rfl) (by kernel_rfl) (by kernel_rfl) (fun _ _ _ h => h) (Or.inl ⟨by rfl, ?y1_28_h⟩) hHeld ?y1_28_r
    case y1_28_h => (intro w hSw; (try dsimp only at hSw); go_simp; all_goals with_reducible rfl)
    (try simp only [Act.put, List.setIfInBounds_toArray, List.set_cons_zero, List.set_cons_succ])
    refine wpAnyH_take (i := 28) (oi := (⟨some 176, .binOp .neq 27 (.tmp 175) (.const (.int .i64 0)) 27, 4, "top26.go:43", #[⟨27, .data⟩, ⟨26, .guard⟩], some (26, false)⟩ : Oper)) (v := ?y1_29_v) rfl (by kernel_rfl) (by kernel_rfl) (by kernel_rfl) (fun _ _ _ h => h) (Or.inl ⟨by rfl, ?y1_29_h⟩) hHeld ?y1_29_r
    case y1_29_h => (intro w hSw; (try dsimp only at hSw); go_simp; all_goals with_reducible rfl)
    (try simp only [Act.put, List.setIfInBounds_toArray, List.set_cons_zero, List.set_cons_succ])
    refine wpAnyH_take (i := 29) (oi := (⟨some 177, .pick (.tmp 174) (.const (.bool true)) (.tmp 176), 4, "top26.go:43", #[⟨26, .data⟩, ⟨28, .data⟩], none⟩ : Oper)) (v := ?y1_30_v) rfl (by kernel_rfl) (by kernel_rfl) (by kernel_rfl) (fun _ _ _ h => h) (Or.inl ⟨by rfl, ?y1_30_h⟩) hHeld ?y1_30_r
    case y1_30_h => (intro w hSw; (try dsimp only at hSw); go_simp; all_goals with_reducible rfl)
    (try simp only [Act.put, List.setIfInBounds_toArray, List.set_cons_zero, List.set_cons_succ])
    refine wpAnyH_take (i := 30) (oi := (⟨some 178, .move (.tmp 177), 4, "top26.go:43", #[⟨29, .data⟩, ⟨26, .chain⟩], none⟩ : Oper)) (v := ?y1_31_v) rfl (by kernel_rfl) (by kernel_rfl) (by kernel_rfl) (fun _ _ _ h => h) (Or.inl ⟨by rfl, ?y1_31_h⟩) hHeld ?y1_31_r
    case y1_31_h => (intro w hSw; (try dsimp only at hSw); go_simp; all_goals with_reducible rfl)
    (try simp only [Act.put, List.setIfInBounds_toArray, List.set_cons_zero, List.set_cons_succ])
    refine wpAnyH_take (i := 31) (oi := (⟨some 179, .fieldAddr 60 (.tmp 21) 2, 0, "top26.go:43", #[⟨30, .guard⟩], some (30, false)⟩ : Oper)) (v := ?y1_32_v) rfl (by kernel_rfl) (by kernel_rfl) (by kernel_rfl) (fun _ _ _ h => h) (Or.inl ⟨by rfl, ?y1_32_h⟩) hHeld ?y1_32_r
    case y1_32_h => (intro w hSw; (try dsimp only at hSw); go_simp; all_goals with_reducible rfl)
    (try simp only [Act.put, List.setIfInBounds_toArray, List.set_cons_zero, List.set_cons_succ])
    refine wpAnyH_take (i := 32) (oi := (⟨some 180, .load 3 (.tmp 179), 3, "top26.go:43", #[⟨31, .data⟩, ⟨30, .guard⟩], some (30, false)⟩ : Oper)) (v := ?y1_33_v) rfl (by kernel_rfl) (by kernel_rfl) (by kernel_rfl) (fun _ _ _ h => h) (Or.inl ⟨by rfl, ?y1_33_h⟩) hHeld ?y1_33_r
    case y1_33_h => (intro w hSw; (try dsimp only at hSw); go_simp; all_goals with_reducible rfl)
    (try simp only [Act.put, List.setIfInBounds_toArray, List.set_cons_zero, List.set_cons_succ])
    refine wpAnyH_take (i := 33) (oi := (⟨some 181, .move (.tmp 15), 53, "top26.go:43", #[⟨30, .guard⟩], some (30, false)⟩ : Oper)) (v := ?y1_34_v) rfl (by kernel_rfl) (by kernel_rfl) (by kernel_rfl) (fun _ _ _ h => h) (Or.inl ⟨by rfl, ?y1_34_h⟩) hHeld ?y1_34_r
    case y1_34_h => (intro w hSw; (try dsimp only at hSw); go_simp; all_goals with_reducible rfl)
    (try simp only [Act.put, List.setIfInBounds_toArray, List.set_cons_zero, List.set_cons_succ])
    refine wpAnyH_take (i := 34) (oi := (⟨some 182, .move (.tmp 19), 3, "top26.go:43", #[⟨30, .guard⟩], some (30, false)⟩ : Oper)) (v := ?y1_35_v) rfl (by kernel_rfl) (by kernel_rfl) (by kernel_rfl) (fun _ _ _ h => h) (Or.inl ⟨by rfl, ?y1_35_h⟩) hHeld ?y1_35_r
    case y1_35_h => (intro w hSw; (try dsimp only at hSw); go_simp; all_goals with_reducible rfl)
    (try simp only [Act.put, List.setIfInBounds_toArray, List.set_cons_zero, List.set_cons_succ])
    refine wpAnyH_take (i := 35) (oi := (⟨some 183, .indexAddr 53 (.tmp 181) (.tmp 182), 0, "top26.go:43", #[⟨33, .data⟩, ⟨34, .data⟩, ⟨30, .guard⟩], some (30, false)⟩ : Oper)) (v := ?y1_36_v) rfl (by kernel_rfl) (by kernel_rfl) (by kernel_rfl) (fun _ _ _ h => h) (Or.inl ⟨by rfl, ?y1_36_h⟩) hHeld ?y1_36_r
    case y1_36_h => (intro w hSw; (try dsimp only at hSw); go_simp; all_goals with_reducible rfl)
    (try simp only [Act.put, List.setIfInBounds_toArray, List.set_cons_zero, List.set_cons_succ])
    refine wpAnyH_take (i := 36) (oi := (⟨some 184, .load 3 (.tmp 183), 3, "top26.go:43", #[⟨35, .data⟩, ⟨30, .guard⟩], some (30, false)⟩ : Oper)) (v := ?y1_37_v) rfl (by kernel_rfl) (by kernel_rfl) (by kernel_rfl) (fun _ _ _ h => h) (Or.inl ⟨by rfl, ?y1_37_h⟩) hHeld ?y1_37_r
    case y1_37_h => (intro w hSw; (try dsimp only at hSw); go_simp; all_goals with_reducible rfl)
    (try simp only [Act.put, List.setIfInBounds_toArray, List.set_cons_zero, List.set_cons_succ])
    refine wpAnyH_take (i := 37) (oi := (⟨some 185, .binOp .neq 3 (.tmp 180) (.tmp 184) 3, 4, "top26.go:43", #[⟨32, .data⟩, ⟨36, .data⟩, ⟨30, .guard⟩], some (30, false)⟩ : Oper)) (v := ?y1_38_v) rfl (by kernel_rfl) (by kernel_rfl) (by kernel_rfl) (fun _ _ _ h => h) (Or.inl ⟨by rfl, ?y1_38_h⟩) hHeld ?y1_38_r
    case y1_38_h => (intro w hSw; (try dsimp only at hSw); go_simp; all_goals with_reducible rfl)
    (try simp only [Act.put, List.setIfInBounds_toArray, List.set_cons_zero, List.set_cons_succ])
    refine wpAnyH_take (i := 38) (oi := (⟨some 186, .pick (.tmp 178) (.const (.bool true)) (.tmp 185), 4, "top26.go:43", #[⟨30, .data⟩, ⟨37, .data⟩], none⟩ : Oper)) (v := ?y1_39_v) rfl (by kernel_rfl) (by kernel_rfl) (by kernel_rfl) (fun _ _ _ h => h) (Or.inl ⟨by rfl, ?y1_39_h⟩) hHeld ?y1_39_r
    case y1_39_h => (intro w hSw; (try dsimp only at hSw); go_simp; all_goals with_reducible rfl)
    (try simp only [Act.put, List.setIfInBounds_toArray, List.set_cons_zero, List.set_cons_succ])
    refine wpAnyH_take (i := 39) (oi := (⟨some 187, .move (.tmp 186), 4, "top26.go:43", #[⟨38, .data⟩, ⟨30, .chain⟩], none⟩ : Oper)) (v := ?y1_40_v) rfl (by kernel_rfl) (by kernel_rfl) (by kernel_rfl) (fun _ _ _ h => h) (Or.inl ⟨by rfl, ?y1_40_h⟩) hHeld ?y1_40_r
    case y1_40_h => (intro w hSw; (try dsimp only at hSw); go_simp; all_goals with_reducible rfl)
    (try simp only [Act.put, List.setIfInBounds_toArray, List.set_cons_zero, List.set_cons_succ])
    refine wpAnyH_take (i := 40) (oi := (⟨some 188, .move (.tmp 9), 26, "top26.go:43", #[⟨39, .guard⟩], some (39, false)⟩ : Oper)) (v := ?y1_41_v) rfl (by kernel_rfl) (by kernel_rfl) (by kernel_rfl) (fun _ _ _ h => h) (Or.inl ⟨by rfl, ?y1_41_h⟩) hHeld ?y1_41_r
    case y1_41_h => (intro w hSw; (try dsimp only at hSw); go_simp; all_goals with_reducible rfl)
    (try simp only [Act.put, List.setIfInBounds_toArray, List.set_cons_zero, List.set_cons_succ])
    refine wpAnyH_take (i := 41) (oi := (⟨some 189, .move (.tmp 19), 3, "top26.go:43", #[⟨39, .guard⟩], some (39, false)⟩ : Oper)) (v := ?y1_42_v) rfl (by kernel_rfl) (by kernel_rfl) (by kernel_rfl) (fun _ _ _ h => h) (Or.inl ⟨by rfl, ?y1_42_h⟩) hHeld ?y1_42_r
    case y1_42_h => (intro w hSw; (try dsimp only at hSw); go_simp; all_goals with_reducible rfl)
    (try simp only [Act.put, List.setIfInBounds_toArray, List.set_cons_zero, List.set_cons_succ])
    refine wpAnyH_take (i := 42) (oi := (⟨some 190, .indexAddr 26 (.tmp 188) (.tmp 189), 0, "top26.go:43", #[⟨40, .data⟩, ⟨41, .data⟩, ⟨39, .guard⟩], some (39, false)⟩ : Oper)) (v := ?y1_43_v) rfl (by kernel_rfl) (by kernel_rfl) (by kernel_rfl) (fun _ _ _ h => h) (Or.inl ⟨by rfl, ?y1_43_h⟩) hHeld ?y1_43_r
    case y1_43_h => (intro w hSw; (try dsimp only at hSw); go_simp; all_goals with_reducible rfl)
    (try simp only [Act.put, List.setIfInBounds_toArray, List.set_cons_zero, List.set_cons_succ])
    refine wpAnyH_take (i := 43) (oi := (⟨some 191, .load 37 (.tmp 190), 37, "top26.go:43", #[⟨42, .data⟩, ⟨39, .guard⟩], some (39, false)⟩ : Oper)) (v := ?y1_44_v) rfl (by kernel_rfl) (by kernel_rfl) (by kernel_rfl) (fun _ _ _ h => h) (Or.inl ⟨by rfl, ?y1_44_h⟩) hHeld ?y1_44_r
    case y1_44_h => (intro w hSw; (try dsimp only at hSw); go_simp; all_goals with_reducible rfl)
    (try simp only [Act.put, List.setIfInBounds_toArray, List.set_cons_zero, List.set_cons_succ])
    refine wpAnyH_take (i := 44) (oi := (⟨some 192, .move (.tmp 11), 26, "top26.go:43", #[⟨39, .guard⟩], some (39, false)⟩ : Oper)) (v := ?y1_45_v) rfl (by kernel_rfl) (by kernel_rfl) (by kernel_rfl) (fun _ _ _ h => h) (Or.inl ⟨by rfl, ?y1_45_h⟩) hHeld ?y1_45_r
    case y1_45_h => (intro w hSw; (try dsimp only at hSw); go_simp; all_goals with_reducible rfl)
    (try simp only [Act.put, List.setIfInBounds_toArray, List.set_cons_zero, List.set_cons_succ])
    refine wpAnyH_take (i := 45) (oi := (⟨some 193, .move (.tmp 19), 3, "top26.go:43", #[⟨39, .guard⟩], some (39, false)⟩ : Oper)) (v := ?y1_46_v) rfl (by kernel_rfl) (by kernel_rfl) (by kernel_rfl) (fun _ _ _ h => h) (Or.inl ⟨by rfl, ?y1_46_h⟩) hHeld ?y1_46_r
    case y1_46_h => (intro w hSw; (try dsimp only at hSw); go_simp; all_goals with_reducible rfl)
    (try simp only [Act.put, List.setIfInBounds_toArray, List.set_cons_zero, List.set_cons_succ])
    refine wpAnyH_take (i := 46) (oi := (⟨some 194, .indexAddr 26 (.tmp 192) (.tmp 193), 0, "top26.go:43", #[⟨44, .data⟩, ⟨45, .data⟩, ⟨39, .guard⟩], some (39, false)⟩ : Oper)) (v := ?y1_47_v) rfl (by kernel_rfl) (by kernel_rfl) (by kernel_rfl) (fun _ _ _ h => h) (Or.inl ⟨by rfl, ?y1_47_h⟩) hHeld ?y1_47_r
    case y1_47_h => (intro w hSw; (try dsimp only at hSw); go_simp; all_goals with_reducible rfl)
    (try simp only [Act.put, List.setIfInBounds_toArray, List.set_cons_zero, List.set_cons_succ])
    refine wpAnyH_take (i := 47) (oi := (⟨some 195, .load 37 (.tmp 194), 37, "top26.go:43", #[⟨46, .data⟩, ⟨39, .guard⟩], some (39, false)⟩ : Oper)) (v := ?y1_48_v) rfl (by kernel_rfl) (by kernel_rfl) (by kernel_rfl) (fun _ _ _ h => h) (Or.inl ⟨by rfl, ?y1_48_h⟩) hHeld ?y1_48_r
    case y1_48_h => (intro w hSw; (try dsimp only at hSw); go_simp; all_goals with_reducible rfl)
    (try simp only [Act.put, List.setIfInBounds_toArray, List.set_cons_zero, List.set_cons_succ])
    refine wpAnyH_take (i := 49) (oi := (⟨some 197, .load 37 (.tmp 17), 37, "top26.go:43", #[⟨39, .guard⟩], some (39, false)⟩ : Oper)) (v := ?y1_49_v) rfl (by kernel_rfl) (by kernel_rfl) (by kernel_rfl) (fun _ _ _ h => h) (Or.inl ⟨by rfl, ?y1_49_h⟩) hHeld ?y1_49_r
    case y1_49_h => (intro w hSw; (try dsimp only at hSw); go_simp; all_goals with_reducible rfl)
    (try simp only [Act.put, List.setIfInBounds_toArray, List.set_cons_zero, List.set_cons_succ])
    refine wpAnyH_ready (rs := [48]) (by kernel_rfl) (by simp) ?_
    refine AllReadyH.cons (o := (⟨some 196, .call { callee := .value (.func 28), args := #[.tmp 191, .tmp 195], argTypes := #[37, 37] }, 37, "top26.go:43", #[⟨43, .data⟩, ⟨47, .data⟩, ⟨39, .chain⟩, ⟨39, .guard⟩], some (39, false)⟩ : Oper)) rfl (fun K hK => ?_) AllReadyH.nil
    go_simp
    (go_at_call 28; (with_reducible refine (add_r (N := 50000) (RatR.below HXD.out HDR.out) (RatR.below HYD.out HDR.out) (HGX.out e hel) (HGY.out e hel) (by decide)).mono ?_); rintro en u1 ⟨m1, b1, j1, d1, m2, b2, j2, d2, rfl, hx, hb⟩; have HV2 := Lib.hid hx; have HZ48 := Lib.hid (bt HDR.out hb); clear hx hb)
    first | refine hK.out _ _ ?_ (fun hHeld => ?_) | (go_wp2_with fail; refine hK.out _ _ ?_ (fun hHeld => ?_))
    ·exact HLS.out _ HZ48.out
    clear hK K
    (try dsimp only at hHeld)
    (try simp only [Act.put, List.setIfInBounds_toArray, List.set_cons_zero, List.set_cons_succ])
    refine wpAnyH_ready (rs := [50]) (by kernel_rfl) (by simp) ?_
    refine AllReadyH.cons (o := (⟨some 198, .call { callee := .value (.func 20), args := #[.tmp 196, .tmp 197], argTypes := #[37, 37] }, 3, "top26.go:43", #[⟨48, .data⟩, ⟨49, .data⟩, ⟨48, .chain⟩, ⟨39, .guard⟩], some (39, false)⟩ : Oper)) rfl (fun K hK => ?_) AllReadyH.nil
    go_simp
    (go_at_call 20; (with_reducible refine (cmp_r (N := 100001) HV2.out (RatR.below HQD.out HZ48.out) (Rg.add (HGX.out e hel) (HGY.out e hel)) (rg_oneO (by omega)) (by decide)).mono ?_); rintro en u2 ⟨rfl, hb⟩; rw [HCQ.out]; have HZ50 := Lib.hid (bt HZ48.out hb); clear hb)
    first | refine hK.out _ _ ?_ (fun hHeld => ?_) | (go_wp2_with fail; refine hK.out _ _ ?_ (fun hHeld => ?_))
    ·exact HLS.out _ HZ50.out
    clear hK K
    (try dsimp only at hHeld)
    (try simp only [Act.put, List.setIfInBounds_toArray, List.set_cons_zero, List.set_cons_succ])
    refine wpAnyH_take (i := 51) (oi := (⟨some 199, .binOp .gtr 3 (.tmp 198) (.const (.int .i64 0)) 3, 4, "top26.go:43", #[⟨50, .data⟩, ⟨39, .guard⟩], some (39, false)⟩ : Oper)) (v := ?y1_50_v) rfl (by kernel_rfl) (by kernel_rfl) (by kernel_rfl) (fun _ _ _ h => h) (Or.inl ⟨by rfl, ?y1_50_h⟩) hHeld ?y1_50_r
    case y1_50_h => (intro w hSw; (try dsimp only at hSw); go_simp; all_goals with_reducible rfl)
    (try simp only [Act.put, List.setIfInBounds_toArray, List.set_cons_zero, List.set_cons_succ])
    refine wpAnyH_take (i := 52) (oi := (⟨some 200, .pick (.tmp 187) (.const (.bool true)) (.tmp 199), 4, "top26.go:43", #[⟨39, .data⟩, ⟨51, .data⟩], none⟩ : Oper)) (v := ?y1_51_v) rfl (by kernel_rfl) (by kernel_rfl) (by kernel_rfl) (fun _ _ _ h => h) (Or.inl ⟨by rfl, ?y1_51_h⟩) hHeld ?y1_51_r
    case y1_51_h => (intro w hSw; (try dsimp only at hSw); go_simp; all_goals with_reducible rfl)
    (try simp only [Act.put, List.setIfInBounds_toArray, List.set_cons_zero, List.set_cons_succ])
    refine wpAnyH_done (by kernel_rfl) ?_ _
    have HBE := Lib.hid (bt HBD.out HZ50.out)
    clear HLS
    go_wp2
    go_roundw
    case rel => exact ⟨e + 1, by omega, by go_num, HBE.out⟩
    case measure => (simp [RowKit.intOf]; omega)
   ·have hspd : decide (0 < sg) = false := decide_eq_false hsp
    have hm : M e = 0 := HNE.out hsp
    go_wp2_with fail
    refine (ratsign_any HXE.out).mono ?_
    rintro en wb ⟨rfl, hbb⟩
    rw [HSG.out]
    have HBB := Lib.hid (bt HBr.out hbb)
    have HWB := Lib.hid hbb
    have HHb := Lib.hid (HHr.out.below hbb)
    have HEb := Lib.hid (HEr.out.below hbb)
    have HGb := Lib.hid (blk_next HGr.out hbb)
    clear hbb x0 x1 x2 x3
    go_wp2_with (refine wpList_load_row rfl 49 (.tmp 8) rfl w2.heap.size rfl 49 (grp (.slice uga n ugc)) (0, 0) _ HGb.out Tryz.underlying49 rfl (by kernel_rfl) ?_)
    refine (cur_any HEb.out HHb.out HW.out HV.out HD.out hel).mono ?_
    rintro en wc ⟨fr, tt, rfl, hbc⟩
    rw [show mOf n k H jt e day = 0 from by rw [← hm, HMM.out]]
    have HBC := Lib.hid (bt HBB.out hbc)
    have HWC := Lib.hid hbc
    clear hbc
    go_wp2_with fail
    obtain ⟨wd, hW, hs, hb, b0⟩ := alloc1 wc (.cells #[.int .i64 fr, .int .i64 tt, .int .i64 0] 60)
    rw [← hW]
    have HBD := Lib.hid (bt HBC.out hb)
    obtain ⟨⟨_, _, u2⟩, _⟩ := cells3 b0
    have HWD := Lib.hid (show Below wr.heap.size wr wd from bt (bt HWB.out HWC.out) hb)
    have HXD := Lib.hid (HXE.out.below HWD.out)
    have u0 := keepc HBD.out (HCA.out.cell hel)
    rw [hse] at u0
    have u1 := keepc HBD.out (HMA.out.cell hel)
    rw [hm] at u1
    have x0 := keepc HWD.out Yx0.out
    have x1 := keepc HWD.out Yx1.out
    have x2 := keepc HWD.out Yx2.out
    have x3 := keepc HWD.out Yx3.out
    obtain ⟨_, _, bY, oY, p5, p6⟩ := (HYR.out.below HWD.out).parts
    obtain rfl := p5 (by omega)
    obtain ⟨ye, ⟨y0, y1, y2, y3⟩, hyq⟩ := p6 e hel
    have HYD := Lib.hid (show RatR wd (.agg #[.bool ye.n1, .slice ye.a1 ye.k1 ye.c1, .bool ye.n2, .slice ye.a2 ye.k2 ye.c2]) (if e = 0 then (0 : Rat) else y e) from hyq)
    obtain ⟨⟨q0, q1, q2, q3⟩, _⟩ := res4_facts (blk_next HOA.out HBD.out)
    have HQD := Lib.hid (show RatR wd (.agg #[.bool n1, .slice a1 k1 c1, .bool n2, .slice a2 k2 c2]) 1 from RatR.below HQA.out HBD.out)
    clear hW hs hb b0 p5 p6 hyq
    go_wp2_with fail
    have Yu0 := Lib.hid u0
    have Yu1 := Lib.hid u1
    have Yu2 := Lib.hid u2
    have Yx0 := Lib.hid x0
    have Yx1 := Lib.hid x1
    have Yx2 := Lib.hid x2
    have Yx3 := Lib.hid x3
    have Yy0 := Lib.hid y0
    have Yy1 := Lib.hid y1
    have Yy2 := Lib.hid y2
    have Yy3 := Lib.hid y3
    have Yq0 := Lib.hid q0
    have Yq1 := Lib.hid q1
    have Yq2 := Lib.hid q2
    have Yq3 := Lib.hid q3
    clear u0 u1 u2 x0 x1 x2 x3 y0 y1 y2 y3 q0 q1 q2 q3
    have HLS := Lib.hid (fun (w' : World) (hb : Below wd.heap.size wd w') => (⟨keepc hb Yu0.out, keepc hb Yu1.out, keepc hb Yu2.out, keepc hb Yx0.out, keepc hb Yx1.out, keepc hb Yx2.out, keepc hb Yx3.out, keepc hb Yy0.out, keepc hb Yy1.out, keepc hb Yy2.out, keepc hb Yy3.out, keepc hb Yq0.out, keepc hb Yq1.out, keepc hb Yq2.out, keepc hb Yq3.out⟩ : w'.cell? ⟨Bc, e, none⟩ = some (.bool false) ∧ w'.cell? ⟨Bm, e, none⟩ = some (.int .i64 0) ∧ w'.cell? ⟨wc.heap.size, 2, none⟩ = some (.int .i64 0) ∧ w'.cell? ⟨bx, ox + e * 4, none⟩ = some (.bool xe.n1) ∧ w'.cell? ⟨bx, ox + e * 4 + 1, none⟩ = some (.slice xe.a1 xe.k1 xe.c1) ∧ w'.cell? ⟨bx, ox + e * 4 + 2, none⟩ = some (.bool xe.n2) ∧ w'.cell? ⟨bx, ox + e * 4 + 3, none⟩ = some (.slice xe.a2 xe.k2 xe.c2) ∧ w'.cell? ⟨bY, oY + e * 4, none⟩ = some (.bool ye.n1) ∧ w'.cell? ⟨bY, oY + e * 4 + 1, none⟩ = some (.slice ye.a1 ye.k1 ye.c1) ∧ w'.cell? ⟨bY, oY + e * 4 + 2, none⟩ = some (.bool ye.n2) ∧ w'.cell? ⟨bY, oY + e * 4 + 3, none⟩ = some (.slice ye.a2 ye.k2 ye.c2) ∧ w'.cell? ⟨w9.heap.size, 0, none⟩ = some (.bool n1) ∧ w'.cell? ⟨w9.heap.size, 1, none⟩ = some (.slice a1 k1 c1) ∧ w'.cell? ⟨w9.heap.size, 2, none⟩ = some (.bool n2) ∧ w'.cell? ⟨w9.heap.size, 3, none⟩ = some (.slice a2 k2 c2)))
    have HDR := Lib.hid (Below.drew (Below.refl wd.heap.size wd))
    refine wp_region_held_drew (S := fun w' => w'.cell? ⟨Bc, e, none⟩ = some (.bool false) ∧ w'.cell? ⟨Bm, e, none⟩ = some (.int .i64 0) ∧ w'.cell? ⟨wc.heap.size, 2, none⟩ = some (.int .i64 0) ∧ w'.cell? ⟨bx, ox + e * 4, none⟩ = some (.bool xe.n1) ∧ w'.cell? ⟨bx, ox + e * 4 + 1, none⟩ = some (.slice xe.a1 xe.k1 xe.c1) ∧ w'.cell? ⟨bx, ox + e * 4 + 2, none⟩ = some (.bool xe.n2) ∧ w'.cell? ⟨bx, ox + e * 4 + 3, none⟩ = some (.slice xe.a2 xe.k2 xe.c2) ∧ w'.cell? ⟨bY, oY + e * 4, none⟩ = some (.bool ye.n1) ∧ w'.cell? ⟨bY, oY + e * 4 + 1, none⟩ = some (.slice ye.a1 ye.k1 ye.c1) ∧ w'.cell? ⟨bY, oY + e * 4 + 2, none⟩ = some (.bool ye.n2) ∧ w'.cell? ⟨bY, oY + e * 4 + 3, none⟩ = some (.slice ye.a2 ye.k2 ye.c2) ∧ w'.cell? ⟨w9.heap.size, 0, none⟩ = some (.bool n1) ∧ w'.cell? ⟨w9.heap.size, 1, none⟩ = some (.slice a1 k1 c1) ∧ w'.cell? ⟨w9.heap.size, 2, none⟩ = some (.bool n2) ∧ w'.cell? ⟨w9.heap.size, 3, none⟩ = some (.slice a2 k2 c2)) (by kernel_rfl) ?_ (fun hHeld => ?_)
    ·exact HLS.out _ HDR.out
    (try dsimp only at hHeld)
    refine wpAnyH_take (i := 0) (oi := (⟨some 148, .move (.tmp 13), 41, "top26.go:43", #[], none⟩ : Oper)) (v := ?y2_1_v) rfl (by kernel_rfl) (by kernel_rfl) (by kernel_rfl) (fun _ _ _ h => h) (Or.inl ⟨by rfl, ?y2_1_h⟩) hHeld ?y2_1_r
    case y2_1_h => (intro w hSw; (try dsimp only at hSw); go_simp; all_goals with_reducible rfl)
    (try simp only [Act.put, List.setIfInBounds_toArray, List.set_cons_zero, List.set_cons_succ])
    refine wpAnyH_take (i := 1) (oi := (⟨some 149, .move (.tmp 19), 3, "top26.go:43", #[], none⟩ : Oper)) (v := ?y2_2_v) rfl (by kernel_rfl) (by kernel_rfl) (by kernel_rfl) (fun _ _ _ h => h) (Or.inl ⟨by rfl, ?y2_2_h⟩) hHeld ?y2_2_r
    case y2_2_h => (intro w hSw; (try dsimp only at hSw); go_simp; all_goals with_reducible rfl)
    (try simp only [Act.put, List.setIfInBounds_toArray, List.set_cons_zero, List.set_cons_succ])
    refine wpAnyH_take (i := 2) (oi := (⟨some 150, .indexAddr 41 (.tmp 148) (.tmp 149), 0, "top26.go:43", #[⟨0, .data⟩, ⟨1, .data⟩], none⟩ : Oper)) (v := ?y2_3_v) rfl (by kernel_rfl) (by kernel_rfl) (by kernel_rfl) (fun _ _ _ h => h) (Or.inl ⟨by rfl, ?y2_3_h⟩) hHeld ?y2_3_r
    case y2_3_h => (intro w hSw; (try dsimp only at hSw); go_simp; all_goals with_reducible rfl)
    (try simp only [Act.put, List.setIfInBounds_toArray, List.set_cons_zero, List.set_cons_succ])
    refine wpAnyH_take (i := 3) (oi := (⟨some 151, .load 4 (.tmp 150), 4, "top26.go:43", #[⟨2, .data⟩], none⟩ : Oper)) (v := ?y2_4_v) rfl (by kernel_rfl) (by kernel_rfl) (by kernel_rfl) (fun _ _ _ h => h) (Or.inl ⟨by rfl, ?y2_4_h⟩) hHeld ?y2_4_r
    case y2_4_h => (intro w hSw; (try dsimp only at hSw); go_simp; all_goals with_reducible rfl)
    (try simp only [Act.put, List.setIfInBounds_toArray, List.set_cons_zero, List.set_cons_succ])
    refine wpAnyH_take (i := 4) (oi := (⟨some 152, .move (.tmp 151), 4, "top26.go:43", #[⟨3, .data⟩], none⟩ : Oper)) (v := ?y2_5_v) rfl (by kernel_rfl) (by kernel_rfl) (by kernel_rfl) (fun _ _ _ h => h) (Or.inl ⟨by rfl, ?y2_5_h⟩) hHeld ?y2_5_r
    case y2_5_h => (intro w hSw; (try dsimp only at hSw); go_simp; all_goals with_reducible rfl)
    (try simp only [Act.put, List.setIfInBounds_toArray, List.set_cons_zero, List.set_cons_succ])
    refine wpAnyH_take (i := 5) (oi := (⟨some 153, .move (.tmp 20), 4, "top26.go:43", #[⟨4, .guard⟩], some (4, true)⟩ : Oper)) (v := undef) rfl (by kernel_rfl) (by kernel_rfl) (by kernel_rfl) (fun _ _ _ h => h) (Or.inr ⟨by rfl, rfl⟩) hHeld ?_
    (try simp only [Act.put, List.setIfInBounds_toArray, List.set_cons_zero, List.set_cons_succ])
    refine wpAnyH_take (i := 6) (oi := (⟨some 154, .unOp .not 4 (.tmp 153), 4, "top26.go:43", #[⟨5, .data⟩, ⟨4, .guard⟩], some (4, true)⟩ : Oper)) (v := undef) rfl (by kernel_rfl) (by kernel_rfl) (by kernel_rfl) (fun _ _ _ h => h) (Or.inr ⟨by rfl, rfl⟩) hHeld ?_
    (try simp only [Act.put, List.setIfInBounds_toArray, List.set_cons_zero, List.set_cons_succ])
    refine wpAnyH_take (i := 7) (oi := (⟨some 155, .move (.tmp 154), 4, "top26.go:43", #[⟨6, .data⟩, ⟨4, .chain⟩, ⟨4, .guard⟩], some (4, true)⟩ : Oper)) (v := undef) rfl (by kernel_rfl) (by kernel_rfl) (by kernel_rfl) (fun _ _ _ h => h) (Or.inr ⟨by rfl, rfl⟩) hHeld ?_
    (try simp only [Act.put, List.setIfInBounds_toArray, List.set_cons_zero, List.set_cons_succ])
    refine wpAnyH_take (i := 8) (oi := (⟨some 156, .move (.tmp 15), 53, "top26.go:43", #[⟨7, .guard⟩], some (7, false)⟩ : Oper)) (v := undef) rfl (by kernel_rfl) (by kernel_rfl) (by kernel_rfl) (fun _ _ _ h => h) (Or.inr ⟨by rfl, rfl⟩) hHeld ?_
    (try simp only [Act.put, List.setIfInBounds_toArray, List.set_cons_zero, List.set_cons_succ])
    refine wpAnyH_take (i := 9) (oi := (⟨some 157, .move (.tmp 19), 3, "top26.go:43", #[⟨7, .guard⟩], some (7, false)⟩ : Oper)) (v := undef) rfl (by kernel_rfl) (by kernel_rfl) (by kernel_rfl) (fun _ _ _ h => h) (Or.inr ⟨by rfl, rfl⟩) hHeld ?_
    (try simp only [Act.put, List.setIfInBounds_toArray, List.set_cons_zero, List.set_cons_succ])
    refine wpAnyH_take (i := 10) (oi := (⟨some 158, .indexAddr 53 (.tmp 156) (.tmp 157), 0, "top26.go:43", #[⟨8, .data⟩, ⟨9, .data⟩, ⟨7, .guard⟩], some (7, false)⟩ : Oper)) (v := undef) rfl (by kernel_rfl) (by kernel_rfl) (by kernel_rfl) (fun _ _ _ h => h) (Or.inr ⟨by rfl, rfl⟩) hHeld ?_
    (try simp only [Act.put, List.setIfInBounds_toArray, List.set_cons_zero, List.set_cons_succ])
    refine wpAnyH_take (i := 11) (oi := (⟨some 159, .load 3 (.tmp 158), 3, "top26.go:43", #[⟨10, .data⟩, ⟨7, .guard⟩], some (7, false)⟩ : Oper)) (v := undef) rfl (by kernel_rfl) (by kernel_rfl) (by kernel_rfl) (fun _ _ _ h => h) (Or.inr ⟨by rfl, rfl⟩) hHeld ?_
    (try simp only [Act.put, List.setIfInBounds_toArray, List.set_cons_zero, List.set_cons_succ])
    refine wpAnyH_take (i := 12) (oi := (⟨some 160, .binOp .neq 3 (.tmp 159) (.const (.int .i64 3)) 3, 4, "top26.go:43", #[⟨11, .data⟩, ⟨7, .guard⟩], some (7, false)⟩ : Oper)) (v := undef) rfl (by kernel_rfl) (by kernel_rfl) (by kernel_rfl) (fun _ _ _ h => h) (Or.inr ⟨by rfl, rfl⟩) hHeld ?_
    (try simp only [Act.put, List.setIfInBounds_toArray, List.set_cons_zero, List.set_cons_succ])
    refine wpAnyH_take (i := 13) (oi := (⟨some 161, .pick (.tmp 155) (.const (.bool true)) (.tmp 160), 4, "top26.go:43", #[⟨7, .data⟩, ⟨12, .data⟩, ⟨4, .guard⟩], some (4, true)⟩ : Oper)) (v := undef) rfl (by kernel_rfl) (by kernel_rfl) (by kernel_rfl) (fun _ _ _ h => h) (Or.inr ⟨by rfl, rfl⟩) hHeld ?_
    (try simp only [Act.put, List.setIfInBounds_toArray, List.set_cons_zero, List.set_cons_succ])
    refine wpAnyH_take (i := 14) (oi := (⟨some 162, .pick (.tmp 152) (.tmp 161) (.const (.bool false)), 4, "top26.go:43", #[⟨4, .data⟩, ⟨13, .data⟩], none⟩ : Oper)) (v := ?y2_15_v) rfl (by kernel_rfl) (by kernel_rfl) (by kernel_rfl) (fun _ _ _ h => h) (Or.inl ⟨by rfl, ?y2_15_h⟩) hHeld ?y2_15_r
    case y2_15_h => (intro w hSw; (try dsimp only at hSw); go_simp; all_goals with_reducible rfl)
    (try simp only [Act.put, List.setIfInBounds_toArray, List.set_cons_zero, List.set_cons_succ])
    refine wpAnyH_take (i := 15) (oi := (⟨some 163, .move (.tmp 162), 4, "top26.go:43", #[⟨14, .data⟩, ⟨7, .chain⟩], none⟩ : Oper)) (v := ?y2_16_v) rfl (by kernel_rfl) (by kernel_rfl) (by kernel_rfl) (fun _ _ _ h => h) (Or.inl ⟨by rfl, ?y2_16_h⟩) hHeld ?y2_16_r
    case y2_16_h => (intro w hSw; (try dsimp only at hSw); go_simp; all_goals with_reducible rfl)
    (try simp only [Act.put, List.setIfInBounds_toArray, List.set_cons_zero, List.set_cons_succ])
    refine wpAnyH_take (i := 16) (oi := (⟨some 164, .move (.tmp 20), 4, "top26.go:43", #[⟨15, .guard⟩], some (15, false)⟩ : Oper)) (v := ?y2_17_v) rfl (by kernel_rfl) (by kernel_rfl) (by kernel_rfl) (fun _ _ _ h => h) (Or.inl ⟨by rfl, ?y2_17_h⟩) hHeld ?y2_17_r
    case y2_17_h => (intro w hSw; (try dsimp only at hSw); go_simp; all_goals with_reducible rfl)
    (try simp only [Act.put, List.setIfInBounds_toArray, List.set_cons_zero, List.set_cons_succ])
    refine wpAnyH_take (i := 17) (oi := (⟨some 165, .unOp .not 4 (.tmp 164), 4, "top26.go:43", #[⟨16, .data⟩, ⟨15, .guard⟩], some (15, false)⟩ : Oper)) (v := ?y2_18_v) rfl (by kernel_rfl) (by kernel_rfl) (by kernel_rfl) (fun _ _ _ h => h) (Or.inl ⟨by rfl, ?y2_18_h⟩) hHeld ?y2_18_r
    case y2_18_h => (intro w hSw; (try dsimp only at hSw); go_simp; all_goals with_reducible rfl)
    (try simp only [Act.put, List.setIfInBounds_toArray, List.set_cons_zero, List.set_cons_succ])
    refine wpAnyH_take (i := 18) (oi := (⟨some 166, .move (.tmp 165), 4, "top26.go:43", #[⟨17, .data⟩, ⟨15, .chain⟩, ⟨15, .guard⟩], some (15, false)⟩ : Oper)) (v := ?y2_19_v) rfl (by kernel_rfl) (by kernel_rfl) (by kernel_rfl) (fun _ _ _ h => h) (Or.inl ⟨by rfl, ?y2_19_h⟩) hHeld ?y2_19_r
    case y2_19_h => (intro w hSw; (try dsimp only at hSw); go_simp; all_goals with_reducible rfl)
    (try simp only [Act.put, List.setIfInBounds_toArray, List.set_cons_zero, List.set_cons_succ])
    refine wpAnyH_take (i := 19) (oi := (⟨some 167, .move (.tmp 15), 53, "top26.go:43", #[⟨18, .guard⟩], some (18, true)⟩ : Oper)) (v := ?y2_20_v) rfl (by kernel_rfl) (by kernel_rfl) (by kernel_rfl) (fun _ _ _ h => h) (Or.inl ⟨by rfl, ?y2_20_h⟩) hHeld ?y2_20_r
    case y2_20_h => (intro w hSw; (try dsimp only at hSw); go_simp; all_goals with_reducible rfl)
    (try simp only [Act.put, List.setIfInBounds_toArray, List.set_cons_zero, List.set_cons_succ])
    refine wpAnyH_take (i := 20) (oi := (⟨some 168, .move (.tmp 19), 3, "top26.go:43", #[⟨18, .guard⟩], some (18, true)⟩ : Oper)) (v := ?y2_21_v) rfl (by kernel_rfl) (by kernel_rfl) (by kernel_rfl) (fun _ _ _ h => h) (Or.inl ⟨by rfl, ?y2_21_h⟩) hHeld ?y2_21_r
    case y2_21_h => (intro w hSw; (try dsimp only at hSw); go_simp; all_goals with_reducible rfl)
    (try simp only [Act.put, List.setIfInBounds_toArray, List.set_cons_zero, List.set_cons_succ])
    refine wpAnyH_take (i := 21) (oi := (⟨some 169, .indexAddr 53 (.tmp 167) (.tmp 168), 0, "top26.go:43", #[⟨19, .data⟩, ⟨20, .data⟩, ⟨18, .guard⟩], some (18, true)⟩ : Oper)) (v := ?y2_22_v) rfl (by kernel_rfl) (by kernel_rfl) (by kernel_rfl) (fun _ _ _ h => h) (Or.inl ⟨by rfl, ?y2_22_h⟩) hHeld ?y2_22_r
    case y2_22_h => (intro w hSw; (try dsimp only at hSw); go_simp; all_goals with_reducible rfl)
    (try simp only [Act.put, List.setIfInBounds_toArray, List.set_cons_zero, List.set_cons_succ])
    refine wpAnyH_take (i := 22) (oi := (⟨some 170, .load 3 (.tmp 169), 3, "top26.go:43", #[⟨21, .data⟩, ⟨18, .guard⟩], some (18, true)⟩ : Oper)) (v := ?y2_23_v) rfl (by kernel_rfl) (by kernel_rfl) (by kernel_rfl) (fun _ _ _ h => h) (Or.inl ⟨by rfl, ?y2_23_h⟩) hHeld ?y2_23_r
    case y2_23_h => (intro w hSw; (try dsimp only at hSw); go_simp; all_goals with_reducible rfl)
    (try simp only [Act.put, List.setIfInBounds_toArray, List.set_cons_zero, List.set_cons_succ])
    refine wpAnyH_take (i := 23) (oi := (⟨some 171, .binOp .neq 3 (.tmp 170) (.const (.int .i64 0)) 3, 4, "top26.go:43", #[⟨22, .data⟩, ⟨18, .guard⟩], some (18, true)⟩ : Oper)) (v := ?y2_24_v) rfl (by kernel_rfl) (by kernel_rfl) (by kernel_rfl) (fun _ _ _ h => h) (Or.inl ⟨by rfl, ?y2_24_h⟩) hHeld ?y2_24_r
    case y2_24_h => (intro w hSw; (try dsimp only at hSw); go_simp; all_goals with_reducible rfl)
    (try simp only [Act.put, List.setIfInBounds_toArray, List.set_cons_zero, List.set_cons_succ])
    refine wpAnyH_take (i := 24) (oi := (⟨some 172, .pick (.tmp 166) (.tmp 171) (.const (.bool false)), 4, "top26.go:43", #[⟨18, .data⟩, ⟨23, .data⟩, ⟨15, .guard⟩], some (15, false)⟩ : Oper)) (v := ?y2_25_v) rfl (by kernel_rfl) (by kernel_rfl) (by kernel_rfl) (fun _ _ _ h => h) (Or.inl ⟨by rfl, ?y2_25_h⟩) hHeld ?y2_25_r
    case y2_25_h => (intro w hSw; (try dsimp only at hSw); go_simp; all_goals with_reducible rfl)
    (try simp only [Act.put, List.setIfInBounds_toArray, List.set_cons_zero, List.set_cons_succ])
    refine wpAnyH_take (i := 25) (oi := (⟨some 173, .pick (.tmp 163) (.const (.bool true)) (.tmp 172), 4, "top26.go:43", #[⟨15, .data⟩, ⟨24, .data⟩], none⟩ : Oper)) (v := ?y2_26_v) rfl (by kernel_rfl) (by kernel_rfl) (by kernel_rfl) (fun _ _ _ h => h) (Or.inl ⟨by rfl, ?y2_26_h⟩) hHeld ?y2_26_r
    case y2_26_h => (intro w hSw; (try dsimp only at hSw); go_simp; all_goals with_reducible rfl)
    (try simp only [Act.put, List.setIfInBounds_toArray, List.set_cons_zero, List.set_cons_succ])
    refine wpAnyH_take (i := 26) (oi := (⟨some 174, .move (.tmp 173), 4, "top26.go:43", #[⟨25, .data⟩, ⟨18, .chain⟩], none⟩ : Oper)) (v := ?y2_27_v) rfl (by kernel_rfl) (by kernel_rfl) (by kernel_rfl) (fun _ _ _ h => h) (Or.inl ⟨by rfl, ?y2_27_h⟩) hHeld ?y2_27_r
    case y2_27_h => (intro w hSw; (try dsimp only at hSw); go_simp; all_goals with_reducible rfl)
    (try simp only [Act.put, List.setIfInBounds_toArray, List.set_cons_zero, List.set_cons_succ])
    refine wpAnyH_take (i := 27) (oi := (⟨some 175, .move (.tmp 22), 27, "top26.go:43", #[⟨26, .guard⟩], some (26, false)⟩ : Oper)) (v := ?y2_28_v) rfl (by kernel_rfl) (by kernel_rfl) (by kernel_rfl) (fun _ _ _ h => h) (Or.inl ⟨by rfl, ?y2_28_h⟩) hHeld ?y2_28_r
    case y2_28_h => (intro w hSw; (try dsimp only at hSw); go_simp; all_goals with_reducible rfl)
    (try simp only [Act.put, List.setIfInBounds_toArray, List.set_cons_zero, List.set_cons_succ])
    refine wpAnyH_take (i := 28) (oi := (⟨some 176, .binOp .neq 27 (.tmp 175) (.const (.int .i64 0)) 27, 4, "top26.go:43", #[⟨27, .data⟩, ⟨26, .guard⟩], some (26, false)⟩ : Oper)) (v := ?y2_29_v) rfl (by kernel_rfl) (by kernel_rfl) (by kernel_rfl) (fun _ _ _ h => h) (Or.inl ⟨by rfl, ?y2_29_h⟩) hHeld ?y2_29_r
    case y2_29_h => (intro w hSw; (try dsimp only at hSw); go_simp; all_goals with_reducible rfl)
    (try simp only [Act.put, List.setIfInBounds_toArray, List.set_cons_zero, List.set_cons_succ])
    refine wpAnyH_take (i := 29) (oi := (⟨some 177, .pick (.tmp 174) (.const (.bool true)) (.tmp 176), 4, "top26.go:43", #[⟨26, .data⟩, ⟨28, .data⟩], none⟩ : Oper)) (v := ?y2_30_v) rfl (by kernel_rfl) (by kernel_rfl) (by kernel_rfl) (fun _ _ _ h => h) (Or.inl ⟨by rfl, ?y2_30_h⟩) hHeld ?y2_30_r
    case y2_30_h => (intro w hSw; (try dsimp only at hSw); go_simp; all_goals with_reducible rfl)
    (try simp only [Act.put, List.setIfInBounds_toArray, List.set_cons_zero, List.set_cons_succ])
    refine wpAnyH_take (i := 30) (oi := (⟨some 178, .move (.tmp 177), 4, "top26.go:43", #[⟨29, .data⟩, ⟨26, .chain⟩], none⟩ : Oper)) (v := ?y2_31_v) rfl (by kernel_rfl) (by kernel_rfl) (by kernel_rfl) (fun _ _ _ h => h) (Or.inl ⟨by rfl, ?y2_31_h⟩) hHeld ?y2_31_r
    case y2_31_h => (intro w hSw; (try dsimp only at hSw); go_simp; all_goals with_reducible rfl)
    (try simp only [Act.put, List.setIfInBounds_toArray, List.set_cons_zero, List.set_cons_succ])
    refine wpAnyH_take (i := 31) (oi := (⟨some 179, .fieldAddr 60 (.tmp 21) 2, 0, "top26.go:43", #[⟨30, .guard⟩], some (30, false)⟩ : Oper)) (v := ?y2_32_v) rfl (by kernel_rfl) (by kernel_rfl) (by kernel_rfl) (fun _ _ _ h => h) (Or.inl ⟨by rfl, ?y2_32_h⟩) hHeld ?y2_32_r
    case y2_32_h => (intro w hSw; (try dsimp only at hSw); go_simp; all_goals with_reducible rfl)
    (try simp only [Act.put, List.setIfInBounds_toArray, List.set_cons_zero, List.set_cons_succ])
    refine wpAnyH_take (i := 32) (oi := (⟨some 180, .load 3 (.tmp 179), 3, "top26.go:43", #[⟨31, .data⟩, ⟨30, .guard⟩], some (30, false)⟩ : Oper)) (v := ?y2_33_v) rfl (by kernel_rfl) (by kernel_rfl) (by kernel_rfl) (fun _ _ _ h => h) (Or.inl ⟨by rfl, ?y2_33_h⟩) hHeld ?y2_33_r
    case y2_33_h => (intro w hSw; (try dsimp only at hSw); go_simp; all_goals with_reducible rfl)
    (try simp only [Act.put, List.setIfInBounds_toArray, List.set_cons_zero, List.set_cons_succ])
    refine wpAnyH_take (i := 33) (oi := (⟨some 181, .move (.tmp 15), 53, "top26.go:43", #[⟨30, .guard⟩], some (30, false)⟩ : Oper)) (v := ?y2_34_v) rfl (by kernel_rfl) (by kernel_rfl) (by kernel_rfl) (fun _ _ _ h => h) (Or.inl ⟨by rfl, ?y2_34_h⟩) hHeld ?y2_34_r
    case y2_34_h => (intro w hSw; (try dsimp only at hSw); go_simp; all_goals with_reducible rfl)
    (try simp only [Act.put, List.setIfInBounds_toArray, List.set_cons_zero, List.set_cons_succ])
    refine wpAnyH_take (i := 34) (oi := (⟨some 182, .move (.tmp 19), 3, "top26.go:43", #[⟨30, .guard⟩], some (30, false)⟩ : Oper)) (v := ?y2_35_v) rfl (by kernel_rfl) (by kernel_rfl) (by kernel_rfl) (fun _ _ _ h => h) (Or.inl ⟨by rfl, ?y2_35_h⟩) hHeld ?y2_35_r
    case y2_35_h => (intro w hSw; (try dsimp only at hSw); go_simp; all_goals with_reducible rfl)
    (try simp only [Act.put, List.setIfInBounds_toArray, List.set_cons_zero, List.set_cons_succ])
    refine wpAnyH_take (i := 35) (oi := (⟨some 183, .indexAddr 53 (.tmp 181) (.tmp 182), 0, "top26.go:43", #[⟨33, .data⟩, ⟨34, .data⟩, ⟨30, .guard⟩], some (30, false)⟩ : Oper)) (v := ?y2_36_v) rfl (by kernel_rfl) (by kernel_rfl) (by kernel_rfl) (fun _ _ _ h => h) (Or.inl ⟨by rfl, ?y2_36_h⟩) hHeld ?y2_36_r
    case y2_36_h => (intro w hSw; (try dsimp only at hSw); go_simp; all_goals with_reducible rfl)
    (try simp only [Act.put, List.setIfInBounds_toArray, List.set_cons_zero, List.set_cons_succ])
    refine wpAnyH_take (i := 36) (oi := (⟨some 184, .load 3 (.tmp 183), 3, "top26.go:43", #[⟨35, .data⟩, ⟨30, .guard⟩], some (30, false)⟩ : Oper)) (v := ?y2_37_v) rfl (by kernel_rfl) (by kernel_rfl) (by kernel_rfl) (fun _ _ _ h => h) (Or.inl ⟨by rfl, ?y2_37_h⟩) hHeld ?y2_37_r
    case y2_37_h => (intro w hSw; (try dsimp only at hSw); go_simp; all_goals with_reducible rfl)
    (try simp only [Act.put, List.setIfInBounds_toArray, List.set_cons_zero, List.set_cons_succ])
    refine wpAnyH_take (i := 37) (oi := (⟨some 185, .binOp .neq 3 (.tmp 180) (.tmp 184) 3, 4, "top26.go:43", #[⟨32, .data⟩, ⟨36, .data⟩, ⟨30, .guard⟩], some (30, false)⟩ : Oper)) (v := ?y2_38_v) rfl (by kernel_rfl) (by kernel_rfl) (by kernel_rfl) (fun _ _ _ h => h) (Or.inl ⟨by rfl, ?y2_38_h⟩) hHeld ?y2_38_r
    case y2_38_h => (intro w hSw; (try dsimp only at hSw); go_simp; all_goals with_reducible rfl)
    (try simp only [Act.put, List.setIfInBounds_toArray, List.set_cons_zero, List.set_cons_succ])
    refine wpAnyH_take (i := 38) (oi := (⟨some 186, .pick (.tmp 178) (.const (.bool true)) (.tmp 185), 4, "top26.go:43", #[⟨30, .data⟩, ⟨37, .data⟩], none⟩ : Oper)) (v := ?y2_39_v) rfl (by kernel_rfl) (by kernel_rfl) (by kernel_rfl) (fun _ _ _ h => h) (Or.inl ⟨by rfl, ?y2_39_h⟩) hHeld ?y2_39_r
    case y2_39_h => (intro w hSw; (try dsimp only at hSw); go_simp; all_goals with_reducible rfl)
    (try simp only [Act.put, List.setIfInBounds_toArray, List.set_cons_zero, List.set_cons_succ])
    refine wpAnyH_take (i := 39) (oi := (⟨some 187, .move (.tmp 186), 4, "top26.go:43", #[⟨38, .data⟩, ⟨30, .chain⟩], none⟩ : Oper)) (v := ?y2_40_v) rfl (by kernel_rfl) (by kernel_rfl) (by kernel_rfl) (fun _ _ _ h => h) (Or.inl ⟨by rfl, ?y2_40_h⟩) hHeld ?y2_40_r
    case y2_40_h => (intro w hSw; (try dsimp only at hSw); go_simp; all_goals with_reducible rfl)
    (try simp only [Act.put, List.setIfInBounds_toArray, List.set_cons_zero, List.set_cons_succ])
    refine wpAnyH_take (i := 40) (oi := (⟨some 188, .move (.tmp 9), 26, "top26.go:43", #[⟨39, .guard⟩], some (39, false)⟩ : Oper)) (v := ?y2_41_v) rfl (by kernel_rfl) (by kernel_rfl) (by kernel_rfl) (fun _ _ _ h => h) (Or.inl ⟨by rfl, ?y2_41_h⟩) hHeld ?y2_41_r
    case y2_41_h => (intro w hSw; (try dsimp only at hSw); go_simp; all_goals with_reducible rfl)
    (try simp only [Act.put, List.setIfInBounds_toArray, List.set_cons_zero, List.set_cons_succ])
    refine wpAnyH_take (i := 41) (oi := (⟨some 189, .move (.tmp 19), 3, "top26.go:43", #[⟨39, .guard⟩], some (39, false)⟩ : Oper)) (v := ?y2_42_v) rfl (by kernel_rfl) (by kernel_rfl) (by kernel_rfl) (fun _ _ _ h => h) (Or.inl ⟨by rfl, ?y2_42_h⟩) hHeld ?y2_42_r
    case y2_42_h => (intro w hSw; (try dsimp only at hSw); go_simp; all_goals with_reducible rfl)
    (try simp only [Act.put, List.setIfInBounds_toArray, List.set_cons_zero, List.set_cons_succ])
    refine wpAnyH_take (i := 42) (oi := (⟨some 190, .indexAddr 26 (.tmp 188) (.tmp 189), 0, "top26.go:43", #[⟨40, .data⟩, ⟨41, .data⟩, ⟨39, .guard⟩], some (39, false)⟩ : Oper)) (v := ?y2_43_v) rfl (by kernel_rfl) (by kernel_rfl) (by kernel_rfl) (fun _ _ _ h => h) (Or.inl ⟨by rfl, ?y2_43_h⟩) hHeld ?y2_43_r
    case y2_43_h => (intro w hSw; (try dsimp only at hSw); go_simp; all_goals with_reducible rfl)
    (try simp only [Act.put, List.setIfInBounds_toArray, List.set_cons_zero, List.set_cons_succ])
    refine wpAnyH_take (i := 43) (oi := (⟨some 191, .load 37 (.tmp 190), 37, "top26.go:43", #[⟨42, .data⟩, ⟨39, .guard⟩], some (39, false)⟩ : Oper)) (v := ?y2_44_v) rfl (by kernel_rfl) (by kernel_rfl) (by kernel_rfl) (fun _ _ _ h => h) (Or.inl ⟨by rfl, ?y2_44_h⟩) hHeld ?y2_44_r
    case y2_44_h => (intro w hSw; (try dsimp only at hSw); go_simp; all_goals with_reducible rfl)
    (try simp only [Act.put, List.setIfInBounds_toArray, List.set_cons_zero, List.set_cons_succ])
    refine wpAnyH_take (i := 44) (oi := (⟨some 192, .move (.tmp 11), 26, "top26.go:43", #[⟨39, .guard⟩], some (39, false)⟩ : Oper)) (v := ?y2_45_v) rfl (by kernel_rfl) (by kernel_rfl) (by kernel_rfl) (fun _ _ _ h => h) (Or.inl ⟨by rfl, ?y2_45_h⟩) hHeld ?y2_45_r
    case y2_45_h => (intro w hSw; (try dsimp only at hSw); go_simp; all_goals with_reducible rfl)
    (try simp only [Act.put, List.setIfInBounds_toArray, List.set_cons_zero, List.set_cons_succ])
    refine wpAnyH_take (i := 45) (oi := (⟨some 193, .move (.tmp 19), 3, "top26.go:43", #[⟨39, .guard⟩], some (39, false)⟩ : Oper)) (v := ?y2_46_v) rfl (by kernel_rfl) (by kernel_rfl) (by kernel_rfl) (fun _ _ _ h => h) (Or.inl ⟨by rfl, ?y2_46_h⟩) hHeld ?y2_46_r
    case y2_46_h => (intro w hSw; (try dsimp only at hSw); go_simp; all_goals with_reducible rfl)
    (try simp only [Act.put, List.setIfInBounds_toArray, List.set_cons_zero, List.set_cons_succ])
    refine wpAnyH_take (i := 46) (oi := (⟨some 194, .indexAddr 26 (.tmp 192) (.tmp 193), 0, "top26.go:43", #[⟨44, .data⟩, ⟨45, .data⟩, ⟨39, .guard⟩], some (39, false)⟩ : Oper)) (v := ?y2_47_v) rfl (by kernel_rfl) (by kernel_rfl) (by kernel_rfl) (fun _ _ _ h => h) (Or.inl ⟨by rfl, ?y2_47_h⟩) hHeld ?y2_47_r
    case y2_47_h => (intro w hSw; (try dsimp only at hSw); go_simp; all_goals with_reducible rfl)
    (try simp only [Act.put, List.setIfInBounds_toArray, List.set_cons_zero, List.set_cons_succ])
    refine wpAnyH_take (i := 47) (oi := (⟨some 195, .load 37 (.tmp 194), 37, "top26.go:43", #[⟨46, .data⟩, ⟨39, .guard⟩], some (39, false)⟩ : Oper)) (v := ?y2_48_v) rfl (by kernel_rfl) (by kernel_rfl) (by kernel_rfl) (fun _ _ _ h => h) (Or.inl ⟨by rfl, ?y2_48_h⟩) hHeld ?y2_48_r
    case y2_48_h => (intro w hSw; (try dsimp only at hSw); go_simp; all_goals with_reducible rfl)
    (try simp only [Act.put, List.setIfInBounds_toArray, List.set_cons_zero, List.set_cons_succ])
    refine wpAnyH_take (i := 49) (oi := (⟨some 197, .load 37 (.tmp 17), 37, "top26.go:43", #[⟨39, .guard⟩], some (39, false)⟩ : Oper)) (v := ?y2_49_v) rfl (by kernel_rfl) (by kernel_rfl) (by kernel_rfl) (fun _ _ _ h => h) (Or.inl ⟨by rfl, ?y2_49_h⟩) hHeld ?y2_49_r
    case y2_49_h => (intro w hSw; (try dsimp only at hSw); go_simp; all_goals with_reducible rfl)
    (try simp only [Act.put, List.setIfInBounds_toArray, List.set_cons_zero, List.set_cons_succ])
    refine wpAnyH_ready (rs := [48]) (by kernel_rfl) (by simp) ?_
    refine AllReadyH.cons (o := (⟨some 196, .call { callee := .value (.func 28), args := #[.tmp 191, .tmp 195], argTypes := #[37, 37] }, 37, "top26.go:43", #[⟨43, .data⟩, ⟨47, .data⟩, ⟨39, .chain⟩, ⟨39, .guard⟩], some (39, false)⟩ : Oper)) rfl (fun K hK => ?_) AllReadyH.nil
    go_simp
    (go_at_call 28; (with_reducible refine (add_r (N := 50000) (RatR.below HXD.out HDR.out) (RatR.below HYD.out HDR.out) (HGX.out e hel) (HGY.out e hel) (by decide)).mono ?_); rintro en u1 ⟨m1, b1, j1, d1, m2, b2, j2, d2, rfl, hx, hb⟩; have HV2 := Lib.hid hx; have HZ48 := Lib.hid (bt HDR.out hb); clear hx hb)
    first | refine hK.out _ _ ?_ (fun hHeld => ?_) | (go_wp2_with fail; refine hK.out _ _ ?_ (fun hHeld => ?_))
    ·exact HLS.out _ HZ48.out
    clear hK K
    (try dsimp only at hHeld)
    (try simp only [Act.put, List.setIfInBounds_toArray, List.set_cons_zero, List.set_cons_succ])
    refine wpAnyH_ready (rs := [50]) (by kernel_rfl) (by simp) ?_
    refine AllReadyH.cons (o := (⟨some 198, .call { callee := .value (.func 20), args := #[.tmp 196, .tmp 197], argTypes := #[37, 37] }, 3, "top26.go:43", #[⟨48, .data⟩, ⟨49, .data⟩, ⟨48, .chain⟩, ⟨39, .guard⟩], some (39, false)⟩ : Oper)) rfl (fun K hK => ?_) AllReadyH.nil
    go_simp
    (go_at_call 20; (with_reducible refine (cmp_r (N := 100001) HV2.out (RatR.below HQD.out HZ48.out) (Rg.add (HGX.out e hel) (HGY.out e hel)) (rg_oneO (by omega)) (by decide)).mono ?_); rintro en u2 ⟨rfl, hb⟩; rw [HCQ.out]; have HZ50 := Lib.hid (bt HZ48.out hb); clear hb)
    first | refine hK.out _ _ ?_ (fun hHeld => ?_) | (go_wp2_with fail; refine hK.out _ _ ?_ (fun hHeld => ?_))
    ·exact HLS.out _ HZ50.out
    clear hK K
    (try dsimp only at hHeld)
    (try simp only [Act.put, List.setIfInBounds_toArray, List.set_cons_zero, List.set_cons_succ])
    refine wpAnyH_take (i := 51) (oi := (⟨some 199, .binOp .gtr 3 (.tmp 198) (.const (.int .i64 0)) 3, 4, "top26.go:43", #[⟨50, .data⟩, ⟨39, .guard⟩], some (39, false)⟩ : Oper)) (v := ?y2_50_v) rfl (by kernel_rfl) (by kernel_rfl) (by kernel_rfl) (fun _ _ _ h => h) (Or.inl ⟨by rfl, ?y2_50_h⟩) hHeld ?y2_50_r
    case y2_50_h => (intro w hSw; (try dsimp only at hSw); go_simp; all_goals with_reducible rfl)
    (try simp only [Act.put, List.setIfInBounds_toArray, List.set_cons_zero, List.set_cons_succ])
    refine wpAnyH_take (i := 52) (oi := (⟨some 200, .pick (.tmp 187) (.const (.bool true)) (.tmp 199), 4, "top26.go:43", #[⟨39, .data⟩, ⟨51, .data⟩], none⟩ : Oper)) (v := ?y2_51_v) rfl (by kernel_rfl) (by kernel_rfl) (by kernel_rfl) (fun _ _ _ h => h) (Or.inl ⟨by rfl, ?y2_51_h⟩) hHeld ?y2_51_r
    case y2_51_h => (intro w hSw; (try dsimp only at hSw); go_simp; all_goals with_reducible rfl)
    (try simp only [Act.put, List.setIfInBounds_toArray, List.set_cons_zero, List.set_cons_succ])
    refine wpAnyH_done (by kernel_rfl) ?_ _
    have HBE := Lib.hid (bt HBD.out HZ50.out)
    clear HLS
    go_wp2
    go_roundw
    case rel => exact ⟨e + 1, by omega, by go_num, HBE.out⟩
    case measure => (simp [RowKit.intOf]; omega)
  ·obtain ⟨hsp, hm⟩ := HCE.out hse
   have hspd : decide (0 < sg) = true := decide_eq_true hsp
   go_wp2_with fail
   refine (ratsign_any HXE.out).mono ?_
   rintro en wb ⟨rfl, hbb⟩
   rw [HSG.out]
   have HBB := Lib.hid (bt HBr.out hbb)
   have HWB := Lib.hid hbb
   have HHb := Lib.hid (HHr.out.below hbb)
   have HEb := Lib.hid (HEr.out.below hbb)
   have HGb := Lib.hid (blk_next HGr.out hbb)
   clear hbb x0 x1 x2 x3
   go_wp2_with (refine wpList_load_row rfl 49 (.tmp 8) rfl w2.heap.size rfl 49 (grp (.slice uga n ugc)) (0, 0) _ HGb.out Tryz.underlying49 rfl (by kernel_rfl) ?_)
   refine (cur_any HEb.out HHb.out HW.out HV.out HD.out hel).mono ?_
   rintro en wc ⟨fr, tt, rfl, hbc⟩
   rw [show mOf n k H jt e day = 3 from by rw [← hm, HMM.out]]
   have HBC := Lib.hid (bt HBB.out hbc)
   have HWC := Lib.hid hbc
   clear hbc
   go_wp2_with fail
   obtain ⟨wd, hW, hs, hb, b0⟩ := alloc1 wc (.cells #[.int .i64 fr, .int .i64 tt, .int .i64 3] 60)
   rw [← hW]
   have HBD := Lib.hid (bt HBC.out hb)
   obtain ⟨⟨_, _, u2⟩, _⟩ := cells3 b0
   have HWD := Lib.hid (show Below wr.heap.size wr wd from bt (bt HWB.out HWC.out) hb)
   have HXD := Lib.hid (HXE.out.below HWD.out)
   have u0 := keepc HBD.out (HCA.out.cell hel)
   rw [hse] at u0
   have u1 := keepc HBD.out (HMA.out.cell hel)
   rw [hm] at u1
   have x0 := keepc HWD.out Yx0.out
   have x1 := keepc HWD.out Yx1.out
   have x2 := keepc HWD.out Yx2.out
   have x3 := keepc HWD.out Yx3.out
   obtain ⟨_, _, bY, oY, p5, p6⟩ := (HYR.out.below HWD.out).parts
   obtain rfl := p5 (by omega)
   obtain ⟨ye, ⟨y0, y1, y2, y3⟩, hyq⟩ := p6 e hel
   have HYD := Lib.hid (show RatR wd (.agg #[.bool ye.n1, .slice ye.a1 ye.k1 ye.c1, .bool ye.n2, .slice ye.a2 ye.k2 ye.c2]) (if e = 0 then (0 : Rat) else y e) from hyq)
   obtain ⟨⟨q0, q1, q2, q3⟩, _⟩ := res4_facts (blk_next HOA.out HBD.out)
   have HQD := Lib.hid (show RatR wd (.agg #[.bool n1, .slice a1 k1 c1, .bool n2, .slice a2 k2 c2]) 1 from RatR.below HQA.out HBD.out)
   clear hW hs hb b0 p5 p6 hyq
   go_wp2_with fail
   have Yu0 := Lib.hid u0
   have Yu1 := Lib.hid u1
   have Yu2 := Lib.hid u2
   have Yx0 := Lib.hid x0
   have Yx1 := Lib.hid x1
   have Yx2 := Lib.hid x2
   have Yx3 := Lib.hid x3
   have Yy0 := Lib.hid y0
   have Yy1 := Lib.hid y1
   have Yy2 := Lib.hid y2
   have Yy3 := Lib.hid y3
   have Yq0 := Lib.hid q0
   have Yq1 := Lib.hid q1
   have Yq2 := Lib.hid q2
   have Yq3 := Lib.hid q3
   clear u0 u1 u2 x0 x1 x2 x3 y0 y1 y2 y3 q0 q1 q2 q3
   have HLS := Lib.hid (fun (w' : World) (hb : Below wd.heap.size wd w') => (⟨keepc hb Yu0.out, keepc hb Yu1.out, keepc hb Yu2.out, keepc hb Yx0.out, keepc hb Yx1.out, keepc hb Yx2.out, keepc hb Yx3.out, keepc hb Yy0.out, keepc hb Yy1.out, keepc hb Yy2.out, keepc hb Yy3.out, keepc hb Yq0.out, keepc hb Yq1.out, keepc hb Yq2.out, keepc hb Yq3.out⟩ : w'.cell? ⟨Bc, e, none⟩ = some (.bool true) ∧ w'.cell? ⟨Bm, e, none⟩ = some (.int .i64 3) ∧ w'.cell? ⟨wc.heap.size, 2, none⟩ = some (.int .i64 3) ∧ w'.cell? ⟨bx, ox + e * 4, none⟩ = some (.bool xe.n1) ∧ w'.cell? ⟨bx, ox + e * 4 + 1, none⟩ = some (.slice xe.a1 xe.k1 xe.c1) ∧ w'.cell? ⟨bx, ox + e * 4 + 2, none⟩ = some (.bool xe.n2) ∧ w'.cell? ⟨bx, ox + e * 4 + 3, none⟩ = some (.slice xe.a2 xe.k2 xe.c2) ∧ w'.cell? ⟨bY, oY + e * 4, none⟩ = some (.bool ye.n1) ∧ w'.cell? ⟨bY, oY + e * 4 + 1, none⟩ = some (.slice ye.a1 ye.k1 ye.c1) ∧ w'.cell? ⟨bY, oY + e * 4 + 2, none⟩ = some (.bool ye.n2) ∧ w'.cell? ⟨bY, oY + e * 4 + 3, none⟩ = some (.slice ye.a2 ye.k2 ye.c2) ∧ w'.cell? ⟨w9.heap.size, 0, none⟩ = some (.bool n1) ∧ w'.cell? ⟨w9.heap.size, 1, none⟩ = some (.slice a1 k1 c1) ∧ w'.cell? ⟨w9.heap.size, 2, none⟩ = some (.bool n2) ∧ w'.cell? ⟨w9.heap.size, 3, none⟩ = some (.slice a2 k2 c2)))
   have HDR := Lib.hid (Below.drew (Below.refl wd.heap.size wd))
   refine wp_region_held_drew (S := fun w' => w'.cell? ⟨Bc, e, none⟩ = some (.bool true) ∧ w'.cell? ⟨Bm, e, none⟩ = some (.int .i64 3) ∧ w'.cell? ⟨wc.heap.size, 2, none⟩ = some (.int .i64 3) ∧ w'.cell? ⟨bx, ox + e * 4, none⟩ = some (.bool xe.n1) ∧ w'.cell? ⟨bx, ox + e * 4 + 1, none⟩ = some (.slice xe.a1 xe.k1 xe.c1) ∧ w'.cell? ⟨bx, ox + e * 4 + 2, none⟩ = some (.bool xe.n2) ∧ w'.cell? ⟨bx, ox + e * 4 + 3, none⟩ = some (.slice xe.a2 xe.k2 xe.c2) ∧ w'.cell? ⟨bY, oY + e * 4, none⟩ = some (.bool ye.n1) ∧ w'.cell? ⟨bY, oY + e * 4 + 1, none⟩ = some (.slice ye.a1 ye.k1 ye.c1) ∧ w'.cell? ⟨bY, oY + e * 4 + 2, none⟩ = some (.bool ye.n2) ∧ w'.cell? ⟨bY, oY + e * 4 + 3, none⟩ = some (.slice ye.a2 ye.k2 ye.c2) ∧ w'.cell? ⟨w9.heap.size, 0, none⟩ = some (.bool n1) ∧ w'.cell? ⟨w9.heap.size, 1, none⟩ = some (.slice a1 k1 c1) ∧ w'.cell? ⟨w9.heap.size, 2, none⟩ = some (.bool n2) ∧ w'.cell? ⟨w9.heap.size, 3, none⟩ = some (.slice a2 k2 c2)) (by kernel_rfl) ?_ (fun hHeld => ?_)
   ·exact HLS.out _ HDR.out
   (try dsimp only at hHeld)
   refine wpAnyH_take (i := 0) (oi := (⟨some 148, .move (.tmp 13), 41, "top26.go:43", #[], none⟩ : Oper)) (v := ?y3_1_v) rfl (by kernel_rfl) (by kernel_rfl) (by kernel_rfl) (fun _ _ _ h => h) (Or.inl ⟨by rfl, ?y3_1_h⟩) hHeld ?y3_1_r
   case y3_1_h => (intro w hSw; (try dsimp only at hSw); go_simp; all_goals with_reducible rfl)
   (try simp only [Act.put, List.setIfInBounds_toArray, List.set_cons_zero, List.set_cons_succ])
   refine wpAnyH_take (i := 1) (oi := (⟨some 149, .move (.tmp 19), 3, "top26.go:43", #[], none⟩ : Oper)) (v := ?y3_2_v) rfl (by kernel_rfl) (by kernel_rfl) (by kernel_rfl) (fun _ _ _ h => h) (Or.inl ⟨by rfl, ?y3_2_h⟩) hHeld ?y3_2_r
   case y3_2_h => (intro w hSw; (try dsimp only at hSw); go_simp; all_goals with_reducible rfl)
   (try simp only [Act.put, List.setIfInBounds_toArray, List.set_cons_zero, List.set_cons_succ])
   refine wpAnyH_take (i := 2) (oi := (⟨some 150, .indexAddr 41 (.tmp 148) (.tmp 149), 0, "top26.go:43", #[⟨0, .data⟩, ⟨1, .data⟩], none⟩ : Oper)) (v := ?y3_3_v) rfl (by kernel_rfl) (by kernel_rfl) (by kernel_rfl) (fun _ _ _ h => h) (Or.inl ⟨by rfl, ?y3_3_h⟩) hHeld ?y3_3_r
   case y3_3_h => (intro w hSw; (try dsimp only at hSw); go_simp; all_goals with_reducible rfl)
   (try simp only [Act.put, List.setIfInBounds_toArray, List.set_cons_zero, List.set_cons_succ])
   refine wpAnyH_take (i := 3) (oi := (⟨some 151, .load 4 (.tmp 150), 4, "top26.go:43", #[⟨2, .data⟩], none⟩ : Oper)) (v := ?y3_4_v) rfl (by kernel_rfl) (by kernel_rfl) (by kernel_rfl) (fun _ _ _ h => h) (Or.inl ⟨by rfl, ?y3_4_h⟩) hHeld ?y3_4_r
   case y3_4_h => (intro w hSw; (try dsimp only at hSw); go_simp; all_goals with_reducible rfl)
   (try simp only [Act.put, List.setIfInBounds_toArray, List.set_cons_zero, List.set_cons_succ])
   refine wpAnyH_take (i := 4) (oi := (⟨some 152, .move (.tmp 151), 4, "top26.go:43", #[⟨3, .data⟩], none⟩ : Oper)) (v := ?y3_5_v) rfl (by kernel_rfl) (by kernel_rfl) (by kernel_rfl) (fun _ _ _ h => h) (Or.inl ⟨by rfl, ?y3_5_h⟩) hHeld ?y3_5_r
   case y3_5_h => (intro w hSw; (try dsimp only at hSw); go_simp; all_goals with_reducible rfl)
   (try simp only [Act.put, List.setIfInBounds_toArray, List.set_cons_zero, List.set_cons_succ])
   refine wpAnyH_take (i := 5) (oi := (⟨some 153, .move (.tmp 20), 4, "top26.go:43", #[⟨4, .guard⟩], some (4, true)⟩ : Oper)) (v := ?y3_6_v) rfl (by kernel_rfl) (by kernel_rfl) (by kernel_rfl) (fun _ _ _ h => h) (Or.inl ⟨by rfl, ?y3_6_h⟩) hHeld ?y3_6_r
   case y3_6_h => (intro w hSw; (try dsimp only at hSw); go_simp; all_goals with_reducible rfl)
   (try simp only [Act.put, List.setIfInBounds_toArray, List.set_cons_zero, List.set_cons_succ])
   refine wpAnyH_take (i := 6) (oi := (⟨some 154, .unOp .not 4 (.tmp 153), 4, "top26.go:43", #[⟨5, .data⟩, ⟨4, .guard⟩], some (4, true)⟩ : Oper)) (v := ?y3_7_v) rfl (by kernel_rfl) (by kernel_rfl) (by kernel_rfl) (fun _ _ _ h => h) (Or.inl ⟨by rfl, ?y3_7_h⟩) hHeld ?y3_7_r
   case y3_7_h => (intro w hSw; (try dsimp only at hSw); go_simp; all_goals with_reducible rfl)
   (try simp only [Act.put, List.setIfInBounds_toArray, List.set_cons_zero, List.set_cons_succ])
   refine wpAnyH_take (i := 7) (oi := (⟨some 155, .move (.tmp 154), 4, "top26.go:43", #[⟨6, .data⟩, ⟨4, .chain⟩, ⟨4, .guard⟩], some (4, true)⟩ : Oper)) (v := ?y3_8_v) rfl (by kernel_rfl) (by kernel_rfl) (by kernel_rfl) (fun _ _ _ h => h) (Or.inl ⟨by rfl, ?y3_8_h⟩) hHeld ?y3_8_r
   case y3_8_h => (intro w hSw; (try dsimp only at hSw); go_simp; all_goals with_reducible rfl)
   (try simp only [Act.put, List.setIfInBounds_toArray, List.set_cons_zero, List.set_cons_succ])
   refine wpAnyH_take (i := 8) (oi := (⟨some 156, .move (.tmp 15), 53, "top26.go:43", #[⟨7, .guard⟩], some (7, false)⟩ : Oper)) (v := ?y3_9_v) rfl (by kernel_rfl) (by kernel_rfl) (by kernel_rfl) (fun _ _ _ h => h) (Or.inl ⟨by rfl, ?y3_9_h⟩) hHeld ?y3_9_r
   case y3_9_h => (intro w hSw; (try dsimp only at hSw); go_simp; all_goals with_reducible rfl)
   (try simp only [Act.put, List.setIfInBounds_toArray, List.set_cons_zero, List.set_cons_succ])
   refine wpAnyH_take (i := 9) (oi := (⟨some 157, .move (.tmp 19), 3, "top26.go:43", #[⟨7, .guard⟩], some (7, false)⟩ : Oper)) (v := ?y3_10_v) rfl (by kernel_rfl) (by kernel_rfl) (by kernel_rfl) (fun _ _ _ h => h) (Or.inl ⟨by rfl, ?y3_10_h⟩) hHeld ?y3_10_r
   case y3_10_h => (intro w hSw; (try dsimp only at hSw); go_simp; all_goals with_reducible rfl)
   (try simp only [Act.put, List.setIfInBounds_toArray, List.set_cons_zero, List.set_cons_succ])
   refine wpAnyH_take (i := 10) (oi := (⟨some 158, .indexAddr 53 (.tmp 156) (.tmp 157), 0, "top26.go:43", #[⟨8, .data⟩, ⟨9, .data⟩, ⟨7, .guard⟩], some (7, false)⟩ : Oper)) (v := ?y3_11_v) rfl (by kernel_rfl) (by kernel_rfl) (by kernel_rfl) (fun _ _ _ h => h) (Or.inl ⟨by rfl, ?y3_11_h⟩) hHeld ?y3_11_r
   case y3_11_h => (intro w hSw; (try dsimp only at hSw); go_simp; all_goals with_reducible rfl)
   (try simp only [Act.put, List.setIfInBounds_toArray, List.set_cons_zero, List.set_cons_succ])
   refine wpAnyH_take (i := 11) (oi := (⟨some 159, .load 3 (.tmp 158), 3, "top26.go:43", #[⟨10, .data⟩, ⟨7, .guard⟩], some (7, false)⟩ : Oper)) (v := ?y3_12_v) rfl (by kernel_rfl) (by kernel_rfl) (by kernel_rfl) (fun _ _ _ h => h) (Or.inl ⟨by rfl, ?y3_12_h⟩) hHeld ?y3_12_r
   case y3_12_h => (intro w hSw; (try dsimp only at hSw); go_simp; all_goals with_reducible rfl)
   (try simp only [Act.put, List.setIfInBounds_toArray, List.set_cons_zero, List.set_cons_succ])
   refine wpAnyH_take (i := 12) (oi := (⟨some 160, .binOp .neq 3 (.tmp 159) (.const (.int .i64 3)) 3, 4, "top26.go:43", #[⟨11, .data⟩, ⟨7, .guard⟩], some (7, false)⟩ : Oper)) (v := ?y3_13_v) rfl (by kernel_rfl) (by kernel_rfl) (by kernel_rfl) (fun _ _ _ h => h) (Or.inl ⟨by rfl, ?y3_13_h⟩) hHeld ?y3_13_r
   case y3_13_h => (intro w hSw; (try dsimp only at hSw); go_simp; all_goals with_reducible rfl)
   (try simp only [Act.put, List.setIfInBounds_toArray, List.set_cons_zero, List.set_cons_succ])
   refine wpAnyH_take (i := 13) (oi := (⟨some 161, .pick (.tmp 155) (.const (.bool true)) (.tmp 160), 4, "top26.go:43", #[⟨7, .data⟩, ⟨12, .data⟩, ⟨4, .guard⟩], some (4, true)⟩ : Oper)) (v := ?y3_14_v) rfl (by kernel_rfl) (by kernel_rfl) (by kernel_rfl) (fun _ _ _ h => h) (Or.inl ⟨by rfl, ?y3_14_h⟩) hHeld ?y3_14_r
   case y3_14_h => (intro w hSw; (try dsimp only at hSw); go_simp; all_goals with_reducible rfl)
   (try simp only [Act.put, List.setIfInBounds_toArray, List.set_cons_zero, List.set_cons_succ])
   refine wpAnyH_take (i := 14) (oi := (⟨some 162, .pick (.tmp 152) (.tmp 161) (.const (.bool false)), 4, "top26.go:43", #[⟨4, .data⟩, ⟨13, .data⟩], none⟩ : Oper)) (v := ?y3_15_v) rfl (by kernel_rfl) (by kernel_rfl) (by kernel_rfl) (fun _ _ _ h => h) (Or.inl ⟨by rfl, ?y3_15_h⟩) hHeld ?y3_15_r
   case y3_15_h => (intro w hSw; (try dsimp only at hSw); go_simp; all_goals with_reducible rfl)
   (try simp only [Act.put, List.setIfInBounds_toArray, List.set_cons_zero, List.set_cons_succ])
   refine wpAnyH_take (i := 15) (oi := (⟨some 163, .move (.tmp 162), 4, "top26.go:43", #[⟨14, .data⟩, ⟨7, .chain⟩], none⟩ : Oper)) (v := ?y3_16_v) rfl (by kernel_rfl) (by kernel_rfl) (by kernel_rfl) (fun _ _ _ h => h) (Or.inl ⟨by rfl, ?y3_16_h⟩) hHeld ?y3_16_r
   case y3_16_h => (intro w hSw; (try dsimp only at hSw); go_simp; all_goals with_reducible rfl)
   (try simp only [Act.put, List.setIfInBounds_toArray, List.set_cons_zero, List.set_cons_succ])
   refine wpAnyH_take (i := 16) (oi := (⟨some 164, .move (.tmp 20), 4, "top26.go:43", #[⟨15, .guard⟩], some (15, false)⟩ : Oper)) (v := ?y3_17_v) rfl (by kernel_rfl) (by kernel_rfl) (by kernel_rfl) (fun _ _ _ h => h) (Or.inl ⟨by rfl, ?y3_17_h⟩) hHeld ?y3_17_r
   case y3_17_h => (intro w hSw; (try dsimp only at hSw); go_simp; all_goals with_reducible rfl)
   (try simp only [Act.put, List.setIfInBounds_toArray, List.set_cons_zero, List.set_cons_succ])
   refine wpAnyH_take (i := 17) (oi := (⟨some 165, .unOp .not 4 (.tmp 164), 4, "top26.go:43", #[⟨16, .data⟩, ⟨15, .guard⟩], some (15, false)⟩ : Oper)) (v := ?y3_18_v) rfl (by kernel_rfl) (by kernel_rfl) (by kernel_rfl) (fun _ _ _ h => h) (Or.inl ⟨by rfl, ?y3_18_h⟩) hHeld ?y3_18_r
   case y3_18_h => (intro w hSw; (try dsimp only at hSw); go_simp; all_goals with_reducible rfl)
   (try simp only [Act.put, List.setIfInBounds_toArray, List.set_cons_zero, List.set_cons_succ])
   refine wpAnyH_take (i := 18) (oi := (⟨some 166, .move (.tmp 165), 4, "top26.go:43", #[⟨17, .data⟩, ⟨15, .chain⟩, ⟨15, .guard⟩], some (15, false)⟩ : Oper)) (v := ?y3_19_v) rfl (by kernel_rfl) (by kernel_rfl) (by kernel_rfl) (fun _ _ _ h => h) (Or.inl ⟨by rfl, ?y3_19_h⟩) hHeld ?y3_19_r
   case y3_19_h => (intro w hSw; (try dsimp only at hSw); go_simp; all_goals with_reducible rfl)
   (try simp only [Act.put, List.setIfInBounds_toArray, List.set_cons_zero, List.set_cons_succ])
   refine wpAnyH_take (i := 19) (oi := (⟨some 167, .move (.tmp 15), 53, "top26.go:43", #[⟨18, .guard⟩], some (18, true)⟩ : Oper)) (v := undef) rfl (by kernel_rfl) (by kernel_rfl) (by kernel_rfl) (fun _ _ _ h => h) (Or.inr ⟨by rfl, rfl⟩) hHeld ?_
   (try simp only [Act.put, List.setIfInBounds_toArray, List.set_cons_zero, List.set_cons_succ])
   refine wpAnyH_take (i := 20) (oi := (⟨some 168, .move (.tmp 19), 3, "top26.go:43", #[⟨18, .guard⟩], some (18, true)⟩ : Oper)) (v := undef) rfl (by kernel_rfl) (by kernel_rfl) (by kernel_rfl) (fun _ _ _ h => h) (Or.inr ⟨by rfl, rfl⟩) hHeld ?_
   (try simp only [Act.put, List.setIfInBounds_toArray, List.set_cons_zero, List.set_cons_succ])
   refine wpAnyH_take (i := 21) (oi := (⟨some 169, .indexAddr 53 (.tmp 167) (.tmp 168), 0, "top26.go:43", #[⟨19, .data⟩, ⟨20, .data⟩, ⟨18, .guard⟩], some (18, true)⟩ : Oper)) (v := undef) rfl (by kernel_rfl) (by kernel_rfl) (by kernel_rfl) (fun _ _ _ h => h) (Or.inr ⟨by rfl, rfl⟩) hHeld ?_
   (try simp only [Act.put, List.setIfInBounds_toArray, List.set_cons_zero, List.set_cons_succ])
   refine wpAnyH_take (i := 22) (oi := (⟨some 170, .load 3 (.tmp 169), 3, "top26.go:43", #[⟨21, .data⟩, ⟨18, .guard⟩], some (18, true)⟩ : Oper)) (v := undef) rfl (by kernel_rfl) (by kernel_rfl) (by kernel_rfl) (fun _ _ _ h => h) (Or.inr ⟨by rfl, rfl⟩) hHeld ?_
   (try simp only [Act.put, List.setIfInBounds_toArray, List.set_cons_zero, List.set_cons_succ])
   refine wpAnyH_take (i := 23) (oi := (⟨some 171, .binOp .neq 3 (.tmp 170) (.const (.int .i64 0)) 3, 4, "top26.go:43", #[⟨22, .data⟩, ⟨18, .guard⟩], some (18, true)⟩ : Oper)) (v := undef) rfl (by kernel_rfl) (by kernel_rfl) (by kernel_rfl) (fun _ _ _ h => h) (Or.inr ⟨by rfl, rfl⟩) hHeld ?_
   (try simp only [Act.put, List.setIfInBounds_toArray, List.set_cons_zero, List.set_cons_succ])
   refine wpAnyH_take (i := 24) (oi := (⟨some 172, .pick (.tmp 166) (.tmp 171) (.const (.bool false)), 4, "top26.go:43", #[⟨18, .data⟩, ⟨23, .data⟩, ⟨15, .guard⟩], some (15, false)⟩ : Oper)) (v := ?y3_25_v) rfl (by kernel_rfl) (by kernel_rfl) (by kernel_rfl) (fun _ _ _ h => h) (Or.inl ⟨by rfl, ?y3_25_h⟩) hHeld ?y3_25_r
   case y3_25_h => (intro w hSw; (try dsimp only at hSw); go_simp; all_goals with_reducible rfl)
   (try simp only [Act.put, List.setIfInBounds_toArray, List.set_cons_zero, List.set_cons_succ])
   refine wpAnyH_take (i := 25) (oi := (⟨some 173, .pick (.tmp 163) (.const (.bool true)) (.tmp 172), 4, "top26.go:43", #[⟨15, .data⟩, ⟨24, .data⟩], none⟩ : Oper)) (v := ?y3_26_v) rfl (by kernel_rfl) (by kernel_rfl) (by kernel_rfl) (fun _ _ _ h => h) (Or.inl ⟨by rfl, ?y3_26_h⟩) hHeld ?y3_26_r
   case y3_26_h => (intro w hSw; (try dsimp only at hSw); go_simp; all_goals with_reducible rfl)
   (try simp only [Act.put, List.setIfInBounds_toArray, List.set_cons_zero, List.set_cons_succ])
   refine wpAnyH_take (i := 26) (oi := (⟨some 174, .move (.tmp 173), 4, "top26.go:43", #[⟨25, .data⟩, ⟨18, .chain⟩], none⟩ : Oper)) (v := ?y3_27_v) rfl (by kernel_rfl) (by kernel_rfl) (by kernel_rfl) (fun _ _ _ h => h) (Or.inl ⟨by rfl, ?y3_27_h⟩) hHeld ?y3_27_r
   case y3_27_h => (intro w hSw; (try dsimp only at hSw); go_simp; all_goals with_reducible rfl)
   (try simp only [Act.put, List.setIfInBounds_toArray, List.set_cons_zero, List.set_cons_succ])
   refine wpAnyH_take (i := 27) (oi := (⟨some 175, .move (.tmp 22), 27, "top26.go:43", #[⟨26, .guard⟩], some (26, false)⟩ : Oper)) (v := ?y3_28_v) rfl (by kernel_rfl) (by kernel_rfl) (by kernel_rfl) (fun _ _ _ h => h) (Or.inl ⟨by rfl, ?y3_28_h⟩) hHeld ?y3_28_r
   case y3_28_h => (intro w hSw; (try dsimp only at hSw); go_simp; all_goals with_reducible rfl)
   (try simp only [Act.put, List.setIfInBounds_toArray, List.set_cons_zero, List.set_cons_succ])
   refine wpAnyH_take (i := 28) (oi := (⟨some 176, .binOp .neq 27 (.tmp 175) (.const (.int .i64 0)) 27, 4, "top26.go:43", #[⟨27, .data⟩, ⟨26, .guard⟩], some (26, false)⟩ : Oper)) (v := ?y3_29_v) rfl (by kernel_rfl) (by kernel_rfl) (by kernel_rfl) (fun _ _ _ h => h) (Or.inl ⟨by rfl, ?y3_29_h⟩) hHeld ?y3_29_r
   case y3_29_h => (intro w hSw; (try dsimp only at hSw); go_simp; all_goals with_reducible rfl)
   (try simp only [Act.put, List.setIfInBounds_toArray, List.set_cons_zero, List.set_cons_succ])
   refine wpAnyH_take (i := 29) (oi := (⟨some 177, .pick (.tmp 174) (.const (.bool true)) (.tmp 176), 4, "top26.go:43", #[⟨26, .data⟩, ⟨28, .data⟩], none⟩ : Oper)) (v := ?y3_30_v) rfl (by kernel_rfl) (by kernel_rfl) (by kernel_rfl) (fun _ _ _ h => h) (Or.inl ⟨by rfl, ?y3_30_h⟩) hHeld ?y3_30_r
   case y3_30_h => (intro w hSw; (try dsimp only at hSw); go_simp; all_goals with_reducible rfl)
   (try simp only [Act.put, List.setIfInBounds_toArray, List.set_cons_zero, List.set_cons_succ])
   refine wpAnyH_take (i := 30) (oi := (⟨some 178, .move (.tmp 177), 4, "top26.go:43", #[⟨29, .data⟩, ⟨26, .chain⟩], none⟩ : Oper)) (v := ?y3_31_v) rfl (by kernel_rfl) (by kernel_rfl) (by kernel_rfl) (fun _ _ _ h => h) (Or.inl ⟨by rfl, ?y3_31_h⟩) hHeld ?y3_31_r
   case y3_31_h => (intro w hSw; (try dsimp only at hSw); go_simp; all_goals with_reducible rfl)
   (try simp only [Act.put, List.setIfInBounds_toArray, List.set_cons_zero, List.set_cons_succ])
   refine wpAnyH_take (i := 31) (oi := (⟨some 179, .fieldAddr 60 (.tmp 21) 2, 0, "top26.go:43", #[⟨30, .guard⟩], some (30, false)⟩ : Oper)) (v := ?y3_32_v) rfl (by kernel_rfl) (by kernel_rfl) (by kernel_rfl) (fun _ _ _ h => h) (Or.inl ⟨by rfl, ?y3_32_h⟩) hHeld ?y3_32_r
   case y3_32_h => (intro w hSw; (try dsimp only at hSw); go_simp; all_goals with_reducible rfl)
   (try simp only [Act.put, List.setIfInBounds_toArray, List.set_cons_zero, List.set_cons_succ])
   refine wpAnyH_take (i := 32) (oi := (⟨some 180, .load 3 (.tmp 179), 3, "top26.go:43", #[⟨31, .data⟩, ⟨30, .guard⟩], some (30, false)⟩ : Oper)) (v := ?y3_33_v) rfl (by kernel_rfl) (by kernel_rfl) (by kernel_rfl) (fun _ _ _ h => h) (Or.inl ⟨by rfl, ?y3_33_h⟩) hHeld ?y3_33_r
   case y3_33_h => (intro w hSw; (try dsimp only at hSw); go_simp; all_goals with_reducible rfl)
   (try simp only [Act.put, List.setIfInBounds_toArray, List.set_cons_zero, List.set_cons_succ])
   refine wpAnyH_take (i := 33) (oi := (⟨some 181, .move (.tmp 15), 53, "top26.go:43", #[⟨30, .guard⟩], some (30, false)⟩ : Oper)) (v := ?y3_34_v) rfl (by kernel_rfl) (by kernel_rfl) (by kernel_rfl) (fun _ _ _ h => h) (Or.inl ⟨by rfl, ?y3_34_h⟩) hHeld ?y3_34_r
   case y3_34_h => (intro w hSw; (try dsimp only at hSw); go_simp; all_goals with_reducible rfl)
   (try simp only [Act.put, List.setIfInBounds_toArray, List.set_cons_zero, List.set_cons_succ])
   refine wpAnyH_take (i := 34) (oi := (⟨some 182, .move (.tmp 19), 3, "top26.go:43", #[⟨30, .guard⟩], some (30, false)⟩ : Oper)) (v := ?y3_35_v) rfl (by kernel_rfl) (by kernel_rfl) (by kernel_rfl) (fun _ _ _ h => h) (Or.inl ⟨by rfl, ?y3_35_h⟩) hHeld ?y3_35_r
   case y3_35_h => (intro w hSw; (try dsimp only at hSw); go_simp; all_goals with_reducible rfl)
   (try simp only [Act.put, List.setIfInBounds_toArray, List.set_cons_zero, List.set_cons_succ])
   refine wpAnyH_take (i := 35) (oi := (⟨some 183, .indexAddr 53 (.tmp 181) (.tmp 182), 0, "top26.go:43", #[⟨33, .data⟩, ⟨34, .data⟩, ⟨30, .guard⟩], some (30, false)⟩ : Oper)) (v := ?y3_36_v) rfl (by kernel_rfl) (by kernel_rfl) (by kernel_rfl) (fun _ _ _ h => h) (Or.inl ⟨by rfl, ?y3_36_h⟩) hHeld ?y3_36_r
   case y3_36_h => (intro w hSw; (try dsimp only at hSw); go_simp; all_goals with_reducible rfl)
   (try simp only [Act.put, List.setIfInBounds_toArray, List.set_cons_zero, List.set_cons_succ])
   refine wpAnyH_take (i := 36) (oi := (⟨some 184, .load 3 (.tmp 183), 3, "top26.go:43", #[⟨35, .data⟩, ⟨30, .guard⟩], some (30, false)⟩ : Oper)) (v := ?y3_37_v) rfl (by kernel_rfl) (by kernel_rfl) (by kernel_rfl) (fun _ _ _ h => h) (Or.inl ⟨by rfl, ?y3_37_h⟩) hHeld ?y3_37_r
   case y3_37_h => (intro w hSw; (try dsimp only at hSw); go_simp; all_goals with_reducible rfl)
   (try simp only [Act.put, List.setIfInBounds_toArray, List.set_cons_zero, List.set_cons_succ])
   refine wpAnyH_take (i := 37) (oi := (⟨some 185, .binOp .neq 3 (.tmp 180) (.tmp 184) 3, 4, "top26.go:43", #[⟨32, .data⟩, ⟨36, .data⟩, ⟨30, .guard⟩], some (30, false)⟩ : Oper)) (v := ?y3_38_v) rfl (by kernel_rfl) (by kernel_rfl) (by kernel_rfl) (fun _ _ _ h => h) (Or.inl ⟨by rfl, ?y3_38_h⟩) hHeld ?y3_38_r
   case y3_38_h => (intro w hSw; (try dsimp only at hSw); go_simp; all_goals with_reducible rfl)
   (try simp only [Act.put, List.setIfInBounds_toArray, List.set_cons_zero, List.set_cons_succ])
   refine wpAnyH_take (i := 38) (oi := (⟨some 186, .pick (.tmp 178) (.const (.bool true)) (.tmp 185), 4, "top26.go:43", #[⟨30, .data⟩, ⟨37, .data⟩], none⟩ : Oper)) (v := ?y3_39_v) rfl (by kernel_rfl) (by kernel_rfl) (by kernel_rfl) (fun _ _ _ h => h) (Or.inl ⟨by rfl, ?y3_39_h⟩) hHeld ?y3_39_r
   case y3_39_h => (intro w hSw; (try dsimp only at hSw); go_simp; all_goals with_reducible rfl)
   (try simp only [Act.put, List.setIfInBounds_toArray, List.set_cons_zero, List.set_cons_succ])
   refine wpAnyH_take (i := 39) (oi := (⟨some 187, .move (.tmp 186), 4, "top26.go:43", #[⟨38, .data⟩, ⟨30, .chain⟩], none⟩ : Oper)) (v := ?y3_40_v) rfl (by kernel_rfl) (by kernel_rfl) (by kernel_rfl) (fun _ _ _ h => h) (Or.inl ⟨by rfl, ?y3_40_h⟩) hHeld ?y3_40_r
   case y3_40_h => (intro w hSw; (try dsimp only at hSw); go_simp; all_goals with_reducible rfl)
   (try simp only [Act.put, List.setIfInBounds_toArray, List.set_cons_zero, List.set_cons_succ])
   refine wpAnyH_take (i := 40) (oi := (⟨some 188, .move (.tmp 9), 26, "top26.go:43", #[⟨39, .guard⟩], some (39, false)⟩ : Oper)) (v := ?y3_41_v) rfl (by kernel_rfl) (by kernel_rfl) (by kernel_rfl) (fun _ _ _ h => h) (Or.inl ⟨by rfl, ?y3_41_h⟩) hHeld ?y3_41_r
   case y3_41_h => (intro w hSw; (try dsimp only at hSw); go_simp; all_goals with_reducible rfl)
   (try simp only [Act.put, List.setIfInBounds_toArray, List.set_cons_zero, List.set_cons_succ])
   refine wpAnyH_take (i := 41) (oi := (⟨some 189, .move (.tmp 19), 3, "top26.go:43", #[⟨39, .guard⟩], some (39, false)⟩ : Oper)) (v := ?y3_42_v) rfl (by kernel_rfl) (by kernel_rfl) (by kernel_rfl) (fun _ _ _ h => h) (Or.inl ⟨by rfl, ?y3_42_h⟩) hHeld ?y3_42_r
   case y3_42_h => (intro w hSw; (try dsimp only at hSw); go_simp; all_goals with_reducible rfl)
   (try simp only [Act.put, List.setIfInBounds_toArray, List.set_cons_zero, List.set_cons_succ])
   refine wpAnyH_take (i := 42) (oi := (⟨some 190, .indexAddr 26 (.tmp 188) (.tmp 189), 0, "top26.go:43", #[⟨40, .data⟩, ⟨41, .data⟩, ⟨39, .guard⟩], some (39, false)⟩ : Oper)) (v := ?y3_43_v) rfl (by kernel_rfl) (by kernel_rfl) (by kernel_rfl) (fun _ _ _ h => h) (Or.inl ⟨by rfl, ?y3_43_h⟩) hHeld ?y3_43_r
   case y3_43_h => (intro w hSw; (try dsimp only at hSw); go_simp; all_goals with_reducible rfl)
   (try simp only [Act.put, List.setIfInBounds_toArray, List.set_cons_zero, List.set_cons_succ])
   refine wpAnyH_take (i := 43) (oi := (⟨some 191, .load 37 (.tmp 190), 37, "top26.go:43", #[⟨42, .data⟩, ⟨39, .guard⟩], some (39, false)⟩ : Oper)) (v := ?y3_44_v) rfl (by kernel_rfl) (by kernel_rfl) (by kernel_rfl) (fun _ _ _ h => h) (Or.inl ⟨by rfl, ?y3_44_h⟩) hHeld ?y3_44_r
   case y3_44_h => (intro w hSw; (try dsimp only at hSw); go_simp; all_goals with_reducible rfl)
   (try simp only [Act.put, List.setIfInBounds_toArray, List.set_cons_zero, List.set_cons_succ])
   refine wpAnyH_take (i := 44) (oi := (⟨some 192, .move (.tmp 11), 26, "top26.go:43", #[⟨39, .guard⟩], some (39, false)⟩ : Oper)) (v := ?y3_45_v) rfl (by kernel_rfl) (by kernel_rfl) (by kernel_rfl) (fun _ _ _ h => h) (Or.inl ⟨by rfl, ?y3_45_h⟩) hHeld ?y3_45_r
   case y3_45_h => (intro w hSw; (try dsimp only at hSw); go_simp; all_goals with_reducible rfl)
   (try simp only [Act.put, List.setIfInBounds_toArray, List.set_cons_zero, List.set_cons_succ])
   refine wpAnyH_take (i := 45) (oi := (⟨some 193, .move (.tmp 19), 3, "top26.go:43", #[⟨39, .guard⟩], some (39, false)⟩ : Oper)) (v := ?y3_46_v) rfl (by kernel_rfl) (by kernel_rfl) (by kernel_rfl) (fun _ _ _ h => h) (Or.inl ⟨by rfl, ?y3_46_h⟩) hHeld ?y3_46_r
   case y3_46_h => (intro w hSw; (try dsimp only at hSw); go_simp; all_goals with_reducible rfl)
   (try simp only [Act.put, List.setIfInBounds_toArray, List.set_cons_zero, List.set_cons_succ])
   refine wpAnyH_take (i := 46) (oi := (⟨some 194, .indexAddr 26 (.tmp 192) (.tmp 193), 0, "top26.go:43", #[⟨44, .data⟩, ⟨45, .data⟩, ⟨39, .guard⟩], some (39, false)⟩ : Oper)) (v := ?y3_47_v) rfl (by kernel_rfl) (by kernel_rfl) (by kernel_rfl) (fun _ _ _ h => h) (Or.inl ⟨by rfl, ?y3_47_h⟩) hHeld ?y3_47_r
   case y3_47_h => (intro w hSw; (try dsimp only at hSw); go_simp; all_goals with_reducible rfl)
   (try simp only [Act.put, List.setIfInBounds_toArray, List.set_cons_zero, List.set_cons_succ])
   refine wpAnyH_take (i := 47) (oi := (⟨some 195, .load 37 (.tmp 194), 37, "top26.go:43", #[⟨46, .data⟩, ⟨39, .guard⟩], some (39, false)⟩ : Oper)) (v := ?y3_48_v) rfl (by kernel_rfl) (by kernel_rfl) (by kernel_rfl) (fun _ _ _ h => h) (Or.inl ⟨by rfl, ?y3_48_h⟩) hHeld ?y3_48_r
   case y3_48_h => (intro w hSw; (try dsimp only at hSw); go_simp; all_goals with_reducible rfl)
   (try simp only [Act.put, List.setIfInBounds_toArray, List.set_cons_zero, List.set_cons_succ])
   refine wpAnyH_take (i := 49) (oi := (⟨some 197, .load 37 (.tmp 17), 37, "top26.go:43", #[⟨39, .guard⟩], some (39, false)⟩ : Oper)) (v := ?y3_49_v) rfl (by kernel_rfl) (by kernel_rfl) (by kernel_rfl) (fun _ _ _ h => h) (Or.inl ⟨by rfl, ?y3_49_h⟩) hHeld ?y3_49_r
   case y3_49_h => (intro w hSw; (try dsimp only at hSw); go_simp; all_goals with_reducible rfl)
   (try simp only [Act.put, List.setIfInBounds_toArray, List.set_cons_zero, List.set_cons_succ])
   refine wpAnyH_ready (rs := [48]) (by kernel_rfl) (by simp) ?_
   refine AllReadyH.cons (o := (⟨some 196, .call { callee := .value (.func 28), args := #[.tmp 191, .tmp 195], argTypes := #[37, 37] }, 37, "top26.go:43", #[⟨43, .data⟩, ⟨47, .data⟩, ⟨39, .chain⟩, ⟨39, .guard⟩], some (39, false)⟩ : Oper)) rfl (fun K hK => ?_) AllReadyH.nil
   go_simp
   (go_at_call 28; (with_reducible refine (add_r (N := 50000) (RatR.below HXD.out HDR.out) (RatR.below HYD.out HDR.out) (HGX.out e hel) (HGY.out e hel) (by decide)).mono ?_); rintro en u1 ⟨m1, b1, j1, d1, m2, b2, j2, d2, rfl, hx, hb⟩; have HV2 := Lib.hid hx; have HZ48 := Lib.hid (bt HDR.out hb); clear hx hb)
   first | refine hK.out _ _ ?_ (fun hHeld => ?_) | (go_wp2_with fail; refine hK.out _ _ ?_ (fun hHeld => ?_))
   ·exact HLS.out _ HZ48.out
   clear hK K
   (try dsimp only at hHeld)
   (try simp only [Act.put, List.setIfInBounds_toArray, List.set_cons_zero, List.set_cons_succ])
   refine wpAnyH_ready (rs := [50]) (by kernel_rfl) (by simp) ?_
   refine AllReadyH.cons (o := (⟨some 198, .call { callee := .value (.func 20), args := #[.tmp 196, .tmp 197], argTypes := #[37, 37] }, 3, "top26.go:43", #[⟨48, .data⟩, ⟨49, .data⟩, ⟨48, .chain⟩, ⟨39, .guard⟩], some (39, false)⟩ : Oper)) rfl (fun K hK => ?_) AllReadyH.nil
   go_simp
   (go_at_call 20; (with_reducible refine (cmp_r (N := 100001) HV2.out (RatR.below HQD.out HZ48.out) (Rg.add (HGX.out e hel) (HGY.out e hel)) (rg_oneO (by omega)) (by decide)).mono ?_); rintro en u2 ⟨rfl, hb⟩; rw [HCQ.out]; have HZ50 := Lib.hid (bt HZ48.out hb); clear hb)
   first | refine hK.out _ _ ?_ (fun hHeld => ?_) | (go_wp2_with fail; refine hK.out _ _ ?_ (fun hHeld => ?_))
   ·exact HLS.out _ HZ50.out
   clear hK K
   (try dsimp only at hHeld)
   (try simp only [Act.put, List.setIfInBounds_toArray, List.set_cons_zero, List.set_cons_succ])
   refine wpAnyH_take (i := 51) (oi := (⟨some 199, .binOp .gtr 3 (.tmp 198) (.const (.int .i64 0)) 3, 4, "top26.go:43", #[⟨50, .data⟩, ⟨39, .guard⟩], some (39, false)⟩ : Oper)) (v := ?y3_50_v) rfl (by kernel_rfl) (by kernel_rfl) (by kernel_rfl) (fun _ _ _ h => h) (Or.inl ⟨by rfl, ?y3_50_h⟩) hHeld ?y3_50_r
   case y3_50_h => (intro w hSw; (try dsimp only at hSw); go_simp; all_goals with_reducible rfl)
   (try simp only [Act.put, List.setIfInBounds_toArray, List.set_cons_zero, List.set_cons_succ])
   refine wpAnyH_take (i := 52) (oi := (⟨some 200, .pick (.tmp 187) (.const (.bool true)) (.tmp 199), 4, "top26.go:43", #[⟨39, .data⟩, ⟨51, .data⟩], none⟩ : Oper)) (v := ?y3_51_v) rfl (by kernel_rfl) (by kernel_rfl) (by kernel_rfl) (fun _ _ _ h => h) (Or.inl ⟨by rfl, ?y3_51_h⟩) hHeld ?y3_51_r
   case y3_51_h => (intro w hSw; (try dsimp only at hSw); go_simp; all_goals with_reducible rfl)
   (try simp only [Act.put, List.setIfInBounds_toArray, List.set_cons_zero, List.set_cons_succ])
   refine wpAnyH_done (by kernel_rfl) ?_ _
   have HBE := Lib.hid (bt HBD.out HZ50.out)
   clear HLS
   go_wp2
   go_roundw
   case rel => exact ⟨e + 1, by omega, by go_num, HBE.out⟩
   case measure => (simp [RowKit.intOf]; omega)
end Go.Proofs.YteionhenpehogaaGreatDoor
