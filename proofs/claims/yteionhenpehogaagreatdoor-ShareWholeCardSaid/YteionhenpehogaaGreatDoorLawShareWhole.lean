import Derived.Test.YteionhenpehogaaGreatDoorPlainWC
import Derived.Test.YteionhenpehogaaGreatDoorRHold
import Derived.Test.YteionhenpehogaaGreatDoorRChn
import Derived.BigRegion
import Derived.Deep.RegionWith
namespace Go.Proofs.YteionhenpehogaaGreatDoor
open Go.RowKit Tally
theorem rg_unitW {N : Nat} (h : 1 ≤ N) : Rg N (1 : Rat) := Rg.of (fw_mono (show Fw 1 1 by constructor <;> decide) h)
theorem dirW_shares {N : Nat} {Z : Nat → Nat → Int} (h : Sh N Z) : Shares N Z (fun e => dirE N Z e + dirO N Z e) :=
 ⟨fun i k hi hk => (h.range i k hi hk).1, fun e h1 he => Int.add_nonneg ((dirE_shares h).dpos e h1 he) ((dirO_shares h).dpos e h1 he), fun e h1 he => by
  show _ + (dirE N Z e + dirO N Z e) ≤ 10000
  rw [dirE_pos h1, dirO_pos h1]
  have h2 := isum_split (f := fun i => Z i e) h.one
  omega⟩
theorem dirW_full {N : Nat} {Z : Nat → Nat → Int} (h : Sh N Z) : ∀ e, 1 ≤ e → e < N → isum N (fun h => if h = 0 then 0 else Z h e) + (dirE N Z e + dirO N Z e) = 10000 := fun e h1 he => by
 rw [dirE_pos h1, dirO_pos h1]
 have h2 := isum_split (f := fun i => Z i e) h.one
 omega
theorem inner_sum {N : Nat} {Z : Nat → Nat → Int} (h : Sh N Z) : ∀ c, c < N → Graph.Plain.sumTo (fun r => inner Z r c) N ≤ 10000 := fun c hc => by
 refine Int.le_trans ?_ (h.sum c hc)
 rw [gsum_isum]
 refine isum_le fun k hk => ?_
 unfold inner
 by_cases q : k = 0 ∨ c = 0
 ·rw [if_pos q]; exact (h.range k c hk hc).1
 ·rw [if_neg q]; exact Int.le_refl _
theorem whole_val {N : Nat} {Z : Nat → Nat → Int} {o p g r : Nat → Bool} {x y : Nat → Rat} (h : Sh N Z) (ho : Graph.Plain.IsReach N (inner Z) (direct N (dirE N Z)) o) (hp : Graph.Plain.IsReach N (inner Z) (direct N (dirO N Z)) p) (hx : Sol N Z (dirE N Z) o x) (hy : Sol N Z (dirO N Z) p y)
  (hg : Graph.Plain.Great N (inner Z) g) (hr : Graph.Plain.IsReach N (inner Z) (fun a => g a = true) r) {e : Nat} (he : e < N) :
  cmpQ ((if e = 0 then 1 else x e) + (if e = 0 then 0 else y e)) 1 = if r e = true then -1 else 0 := by
 by_cases q : e = 0
 ·subst q
  rw [if_pos rfl, if_pos rfl, whole_zero hg hr he]
  decide +kernel
 ·rw [if_neg q, if_neg q]
  have hs := dirW_shares h
  have hR := reach_add (dirE_shares h) (dirO_shares h) ho hp
  have hS := Sol.add (dirE_shares h) (dirO_shares h) ho hp hx hy
  have k1 := whole_nonneg hs hR hS (dirW_full h) e he
  have k2 := whole_iff hs hR hS (dirW_full h) hg hr (show 1 ≤ e by omega) he
  by_cases z : r e = true
  ·rw [if_pos z]
   have k3 := k2.2 z
   have : cmpQ (x e + y e) 1 < 0 := cmpQ_neg.2 (by grind)
   rcases cmpQ_three (x e + y e) 1 with h | h | h
   ·exact h
   ·omega
   ·omega
  ·rw [if_neg z]
   have k3 : ¬ 0 < 1 - (x e + y e) := fun w => z (k2.1 w)
   exact cmpQ_zero.2 (by grind)
set_option maxHeartbeats 8000000 in
set_option maxRecDepth 100000 in
theorem lawWhole_any {w : World} {v : Value} {k : Nat} {n day : Int} {H : Hds} (h : HoldIn w v k H) (ht : Tab w) :
  Calls Tryz.prog 12 #[.int .i64 n, v, .int .i64 day] w fun e w' => e = .returned (.bool true) ∧ Below w.heap.size w w' := by
 obtain ⟨⟨a, c, rfl, hkc⟩, hh, hw⟩ := h
 have HH := Lib.hid hh
 have HW := Lib.hid hw
 have HT := Lib.hid ht
 clear hh hw ht
 go_enter Tryz.func12, Tryz.ntmps12
 go_wp2_with fail
 refine (sawake_any HT.out).mono ?_
 rintro en w1 ⟨rfl, hb⟩
 have HB1 := Lib.hid hb
 clear hb
 go_wp2_with fail
 refine sfew_any.mono ?_
 rintro en w1' ⟨rfl, rfl⟩
 by_cases hf : n ≤ 8 ∧ k ≤ 30
 case neg =>
  rw [decide_eq_false hf]
  go_wp2
  go_ret
  exact ⟨rfl, HB1.out⟩
 rw [decide_eq_true hf]
 have HHR := Lib.hid ((HH.out hf.2).below HB1.out)
 clear HH
 by_cases hv : H.valid n k
 case neg =>
  have HV := Lib.hid hv
  clear hv
  go_wp2_with fail
  refine (eff_no1 HHR.out HW.out HV.out).mono ?_
  rintro en w2 ⟨rfl, hb2⟩
  have HB2 := Lib.hid (bt HB1.out hb2)
  have HH2 := Lib.hid (HHR.out.below hb2)
  clear hb2
  go_wp2_with fail
  refine (out_no1 HH2.out HW.out HV.out).mono ?_
  rintro en w3 ⟨rfl, hb3⟩
  have HB3 := Lib.hid (bt HB2.out hb3)
  have HH3 := Lib.hid (HH2.out.below hb3)
  clear hb3
  go_wp2_with fail
  refine (rmatrix_no1 HH3.out HV.out).mono ?_
  rintro en w4 ⟨rfl, hb4⟩
  have HB4 := Lib.hid (bt HB3.out hb4)
  clear hb4
  go_wp2
  go_ret
  exact ⟨rfl, HB4.out⟩
 by_cases hd : goodDate day
 case neg =>
  have HV := Lib.hid hv
  have HD := Lib.hid hd
  clear hv hd
  go_wp2_with fail
  refine (eff_no2 HHR.out HW.out HV.out HD.out).mono ?_
  rintro en w2 ⟨rfl, hb2⟩
  have HB2 := Lib.hid (bt HB1.out hb2)
  have HH2 := Lib.hid (HHR.out.below hb2)
  clear hb2
  go_wp2_with fail
  refine (out_no2 HH2.out HW.out HV.out HD.out).mono ?_
  rintro en w3 ⟨rfl, hb3⟩
  have HB3 := Lib.hid (bt HB2.out hb3)
  have HH3 := Lib.hid (HH2.out.below hb3)
  clear hb3
  go_wp2_with fail
  refine (rmatrix_no2 HH3.out HV.out HD.out).mono ?_
  rintro en w4 ⟨rfl, hb4⟩
  have HB4 := Lib.hid (bt HB3.out hb4)
  clear hb4
  go_wp2
  go_ret
  exact ⟨rfl, HB4.out⟩
 obtain ⟨N, rfl⟩ : ∃ N : Nat, n = N := ⟨n.toNat, by have := hv.1; omega⟩
 have hN1 : 1 ≤ N := by have := hv.1; omega
 have hN2 : N ≤ 12 := by have := hv.2.1; omega
 have HV := Lib.hid hv
 have HD := Lib.hid hd
 clear hv hd
 go_wp2_with fail
 refine (eff_yes HHR.out HW.out HV.out HD.out).mono ?_
 rintro en w2 ⟨ax, cx, o, x, rfl, ho, hx, hg, hr, hb2⟩
 have HB2 := Lib.hid (bt HB1.out hb2)
 have HH2 := Lib.hid (HHR.out.below hb2)
 have HO := Lib.hid ho
 have HX := Lib.hid hx
 have HG := Lib.hid hg
 have HR := Lib.hid hr
 clear ho hx hg hr hb2 HB1 HHR
 go_wp2_with fail
 refine (out_yes HH2.out HW.out HV.out HD.out).mono ?_
 rintro en w3 ⟨ay, cy, p, y, rfl, ho, hx, hg, hr, hb3⟩
 have HB3 := Lib.hid (bt HB2.out hb3)
 have HH3 := Lib.hid (HH2.out.below hb3)
 have HR3 := Lib.hid (HR.out.below hb3)
 have HP := Lib.hid ho
 have HY := Lib.hid hx
 have HGY := Lib.hid hg
 have HS := Lib.hid hr
 clear ho hx hg hr hb3 HB2 HH2 HR
 go_wp2_with fail
 refine (rmatrix_yes HH3.out HV.out HD.out).mono ?_
 rintro en w4 ⟨am, cm, V, rfl, hm0, hb4⟩
 have hm := hm0.matz
 have HM := Lib.hid hm
 have HB4 := Lib.hid (bt HB3.out hb4)
 have HR4 := Lib.hid (HR3.out.below hb4)
 have HS4 := Lib.hid (HS.out.below hb4)
 have HSS := Lib.hid (at_shares (day := day) HV.out)
 clear hm hm0 hb4 HB3 HR3 HS HH3
 obtain ⟨Z, hZ⟩ : ∃ Z : Nat → Nat → Int, Z = fun h e => H.at (h : Nat) (e : Nat) day k := ⟨_, rfl⟩
 rw [← hZ] at HM HSS HO HX HP HY
 clear hZ
 go_wp2_with fail
 refine (rwholly_any HM.out hN1 hN2 HSS.out.range (inner_sum HSS.out)).mono ?_
 rintro en w5 ⟨gw, cw, gg, r, rfl, hrr, hgt, hre, hb5⟩
 have HRR := Lib.hid hrr
 have HVAL := Lib.hid (fun (e : Nat) (he : e < N) => whole_val HSS.out HO.out HP.out HX.out HY.out hgt hre he)
 have HB5 := Lib.hid (bt HB4.out hb5)
 have HR5 := Lib.hid (HR4.out.below hb5)
 have HS5 := Lib.hid (HS4.out.below hb5)
 clear hrr hgt hre hb5 HB4 HR4 HS4
 go_wp2_with fail
 refine (of_r (n := 1) (d := 1) (by decide) (by decide) (by decide) (by decide) (by decide)).mono ?_
 rintro en w6 ⟨n1, a1, k1, c1, n2, a2, k2, c2, rfl, hq, hb6⟩
 have HQ := Lib.hid (show RatN w6 ⟨n1, a1, k1, c1, n2, a2, k2, c2⟩ 1 from hq)
 have HB6 := Lib.hid (bt HB5.out hb6)
 have HR6 := Lib.hid (HR5.out.below hb6)
 have HS6 := Lib.hid (HS5.out.below hb6)
 have HRR6 := Lib.hid (HRR.out.below hb6)
 clear hq hb6 HB5 HR5 HS5 HRR
 go_wp2_with fail
 obtain ⟨w7, hW, hs, hb, b0⟩ := alloc1 w6 (.cells #[.bool n1, .slice a1 k1 c1, .bool n2, .slice a2 k2 c2] 37)
 rw [← hW]
 have HQ7 := Lib.hid (show RatN w7 ⟨n1, a1, k1, c1, n2, a2, k2, c2⟩ 1 from RatR.below HQ.out hb)
 have HO7 := Lib.hid b0
 have HB7 := Lib.hid (bt HB6.out hb)
 have HR7 := Lib.hid (HR6.out.below hb)
 have HS7 := Lib.hid (HS6.out.below hb)
 have HRR7 := Lib.hid (HRR6.out.below hb)
 have HGX := Lib.hid (show ∀ e, e < N → Rg 50000 (if e = 0 then (1 : Rat) else x e) from fun e he => by
  by_cases z : e = 0
  ·rw [if_pos z]; exact Rg.of (fw_mono (show Fw 1 1 by constructor <;> decide) (by omega))
  ·rw [if_neg z]; exact HG.out e he)
 have HGZ := Lib.hid (show ∀ e, e < N → Rg 50000 (if e = 0 then (0 : Rat) else y e) from fun e he => by
  by_cases z : e = 0
  ·rw [if_pos z]; exact Rg.of (fw_zero 49999)
  ·rw [if_neg z]; exact HGY.out e he)
 obtain ⟨_, bw, ow, _, te, _, _, t5, t6⟩ := HRR7.out
 injection te with te1 _ te2
 subst te1
 subst te2
 obtain ⟨rfl, rfl⟩ : gw = bw ∧ 0 = ow := by
  have := t5 (by omega)
  injection this with this
  injection this with q1 q2
  exact ⟨q1, q2⟩
 have HWC := Lib.hid (show ∀ i, i < N → w7.cell? ⟨gw, i, none⟩ = some (.bool (r i)) from fun i hi => by have := t6 i hi; rwa [Nat.zero_add] at this)
 clear hW hs hb b0 t5 t6 HQ HB6 HR6 HS6 HRR6 HRR7 HG HGY
 go_wp2_with fail
 go_loopw [16] (fun i wr => ∃ e : Nat, e ≤ N ∧ i = .int .i64 e ∧ Below w7.heap.size w7 wr) (fun i _ => N - (RowKit.intOf i).toNat)
 case atStart => exact ⟨0, Nat.zero_le _, rfl, Below.refl _ _⟩
 case round =>
  obtain ⟨e, he, rfl, hb⟩ := hrel
  have HBr := Lib.hid hb
  clear hb
  by_cases hel : e < N
  case neg =>
   obtain rfl : e = N := by omega
   have HBE := Lib.hid (bt HB7.out HBr.out)
   go_wp2
   go_ret
   exact ⟨rfl, HBE.out⟩
  have hei : (e : Int) < (N : Int) := by omega
  obtain ⟨_, _, bx, ox, p3, p4⟩ := (HR7.out.below HBr.out).parts
  obtain rfl := p3 (by omega)
  obtain ⟨xe, ⟨x0, x1, x2, x3⟩, hxq⟩ := p4 e hel
  obtain ⟨_, _, bY, oY, p5, p6⟩ := (HS7.out.below HBr.out).parts
  obtain rfl := p5 (by omega)
  obtain ⟨ye, ⟨y0, y1, y2, y3⟩, hyq⟩ := p6 e hel
  obtain ⟨⟨q0, q1, q2, q3⟩, _⟩ := res4_facts (blk_next HO7.out HBr.out)
  have HXE := Lib.hid (show RatR wr (.agg #[.bool xe.n1, .slice xe.a1 xe.k1 xe.c1, .bool xe.n2, .slice xe.a2 xe.k2 xe.c2]) (if e = 0 then (1 : Rat) else x e) from hxq)
  have HYE := Lib.hid (show RatR wr (.agg #[.bool ye.n1, .slice ye.a1 ye.k1 ye.c1, .bool ye.n2, .slice ye.a2 ye.k2 ye.c2]) (if e = 0 then (0 : Rat) else y e) from hyq)
  have HQE := Lib.hid (show RatR wr (.agg #[.bool n1, .slice a1 k1 c1, .bool n2, .slice a2 k2 c2]) 1 from RatR.below HQ7.out HBr.out)
  have wz0 := keepc HBr.out (HWC.out e hel)
  have Yx0 := Lib.hid x0
  have Yx1 := Lib.hid x1
  have Yx2 := Lib.hid x2
  have Yx3 := Lib.hid x3
  have Yy0 := Lib.hid y0
  have Yy1 := Lib.hid y1
  have Yy2 := Lib.hid y2
  have Yy3 := Lib.hid y3
  have Yq0 := Lib.hid q0
  have Yq1 := Lib.hid q1
  have Yq2 := Lib.hid q2
  have Yq3 := Lib.hid q3
  clear x0 x1 x2 x3 y0 y1 y2 y3 q0 q1 q2 q3 hxq hyq p3 p4 p5 p6 wz0
  cases hre : r e
  ·skip
   have HVE := Lib.hid (show cmpQ ((if e = 0 then 1 else x e) + (if e = 0 then 0 else y e)) 1 = 0 from by rw [HVAL.out e hel, hre]; rfl)
   go_wp2_with fail
   have HLS := Lib.hid (fun (w' : World) (hb : Below wr.heap.size wr w') => (⟨keepc hb Yx0.out, keepc hb Yx1.out, keepc hb Yx2.out, keepc hb Yx3.out, keepc hb Yy0.out, keepc hb Yy1.out, keepc hb Yy2.out, keepc hb Yy3.out, keepc hb Yq0.out, keepc hb Yq1.out, keepc hb Yq2.out, keepc hb Yq3.out⟩ : w'.cell? ⟨bx, ox + e * 4, none⟩ = some (.bool xe.n1) ∧ w'.cell? ⟨bx, ox + e * 4 + 1, none⟩ = some (.slice xe.a1 xe.k1 xe.c1) ∧ w'.cell? ⟨bx, ox + e * 4 + 2, none⟩ = some (.bool xe.n2) ∧ w'.cell? ⟨bx, ox + e * 4 + 3, none⟩ = some (.slice xe.a2 xe.k2 xe.c2) ∧ w'.cell? ⟨bY, oY + e * 4, none⟩ = some (.bool ye.n1) ∧ w'.cell? ⟨bY, oY + e * 4 + 1, none⟩ = some (.slice ye.a1 ye.k1 ye.c1) ∧ w'.cell? ⟨bY, oY + e * 4 + 2, none⟩ = some (.bool ye.n2) ∧ w'.cell? ⟨bY, oY + e * 4 + 3, none⟩ = some (.slice ye.a2 ye.k2 ye.c2) ∧ w'.cell? ⟨w6.heap.size, 0, none⟩ = some (.bool n1) ∧ w'.cell? ⟨w6.heap.size, 1, none⟩ = some (.slice a1 k1 c1) ∧ w'.cell? ⟨w6.heap.size, 2, none⟩ = some (.bool n2) ∧ w'.cell? ⟨w6.heap.size, 3, none⟩ = some (.slice a2 k2 c2)))
   have HDR := Lib.hid (Below.drew (Below.refl wr.heap.size wr))
   refine wp_region_held_drew (S := fun w' => w'.cell? ⟨bx, ox + e * 4, none⟩ = some (.bool xe.n1) ∧ w'.cell? ⟨bx, ox + e * 4 + 1, none⟩ = some (.slice xe.a1 xe.k1 xe.c1) ∧ w'.cell? ⟨bx, ox + e * 4 + 2, none⟩ = some (.bool xe.n2) ∧ w'.cell? ⟨bx, ox + e * 4 + 3, none⟩ = some (.slice xe.a2 xe.k2 xe.c2) ∧ w'.cell? ⟨bY, oY + e * 4, none⟩ = some (.bool ye.n1) ∧ w'.cell? ⟨bY, oY + e * 4 + 1, none⟩ = some (.slice ye.a1 ye.k1 ye.c1) ∧ w'.cell? ⟨bY, oY + e * 4 + 2, none⟩ = some (.bool ye.n2) ∧ w'.cell? ⟨bY, oY + e * 4 + 3, none⟩ = some (.slice ye.a2 ye.k2 ye.c2) ∧ w'.cell? ⟨w6.heap.size, 0, none⟩ = some (.bool n1) ∧ w'.cell? ⟨w6.heap.size, 1, none⟩ = some (.slice a1 k1 c1) ∧ w'.cell? ⟨w6.heap.size, 2, none⟩ = some (.bool n2) ∧ w'.cell? ⟨w6.heap.size, 3, none⟩ = some (.slice a2 k2 c2)) (by kernel_rfl) ?_ (fun hHeld => ?_)
   ·exact HLS.out _ HDR.out
   (try dsimp only at hHeld)
   refine wpAnyH_take (i := 0) (oi := (⟨some 84, .move (.tmp 7), 26, "law.go:161", #[], none⟩ : Oper)) (v := ?y1_1_v) rfl (by kernel_rfl) (by kernel_rfl) (by kernel_rfl) (fun _ _ _ h => h) (Or.inl ⟨by rfl, ?y1_1_h⟩) hHeld ?y1_1_r
   case y1_1_h => (intro w hSw; (try dsimp only at hSw); go_simp; all_goals with_reducible rfl)
   (try simp only [Act.put, List.setIfInBounds_toArray, List.set_cons_zero, List.set_cons_succ])
   refine wpAnyH_take (i := 1) (oi := (⟨some 85, .move (.tmp 16), 3, "law.go:161", #[], none⟩ : Oper)) (v := ?y1_2_v) rfl (by kernel_rfl) (by kernel_rfl) (by kernel_rfl) (fun _ _ _ h => h) (Or.inl ⟨by rfl, ?y1_2_h⟩) hHeld ?y1_2_r
   case y1_2_h => (intro w hSw; (try dsimp only at hSw); go_simp; all_goals with_reducible rfl)
   (try simp only [Act.put, List.setIfInBounds_toArray, List.set_cons_zero, List.set_cons_succ])
   refine wpAnyH_take (i := 2) (oi := (⟨some 86, .indexAddr 26 (.tmp 84) (.tmp 85), 0, "law.go:161", #[⟨0, .data⟩, ⟨1, .data⟩], none⟩ : Oper)) (v := ?y1_3_v) rfl (by kernel_rfl) (by kernel_rfl) (by kernel_rfl) (fun _ _ _ h => h) (Or.inl ⟨by rfl, ?y1_3_h⟩) hHeld ?y1_3_r
   case y1_3_h => (intro w hSw; (try dsimp only at hSw); go_simp; all_goals with_reducible rfl)
   (try simp only [Act.put, List.setIfInBounds_toArray, List.set_cons_zero, List.set_cons_succ])
   refine wpAnyH_take (i := 3) (oi := (⟨some 87, .load 37 (.tmp 86), 37, "law.go:161", #[⟨2, .data⟩], none⟩ : Oper)) (v := ?y1_4_v) rfl (by kernel_rfl) (by kernel_rfl) (by kernel_rfl) (fun _ _ _ h => h) (Or.inl ⟨by rfl, ?y1_4_h⟩) hHeld ?y1_4_r
   case y1_4_h => (intro w hSw; (try dsimp only at hSw); go_simp; all_goals with_reducible rfl)
   (try simp only [Act.put, List.setIfInBounds_toArray, List.set_cons_zero, List.set_cons_succ])
   refine wpAnyH_take (i := 4) (oi := (⟨some 88, .move (.tmp 9), 26, "law.go:161", #[], none⟩ : Oper)) (v := ?y1_5_v) rfl (by kernel_rfl) (by kernel_rfl) (by kernel_rfl) (fun _ _ _ h => h) (Or.inl ⟨by rfl, ?y1_5_h⟩) hHeld ?y1_5_r
   case y1_5_h => (intro w hSw; (try dsimp only at hSw); go_simp; all_goals with_reducible rfl)
   (try simp only [Act.put, List.setIfInBounds_toArray, List.set_cons_zero, List.set_cons_succ])
   refine wpAnyH_take (i := 5) (oi := (⟨some 89, .move (.tmp 16), 3, "law.go:161", #[], none⟩ : Oper)) (v := ?y1_6_v) rfl (by kernel_rfl) (by kernel_rfl) (by kernel_rfl) (fun _ _ _ h => h) (Or.inl ⟨by rfl, ?y1_6_h⟩) hHeld ?y1_6_r
   case y1_6_h => (intro w hSw; (try dsimp only at hSw); go_simp; all_goals with_reducible rfl)
   (try simp only [Act.put, List.setIfInBounds_toArray, List.set_cons_zero, List.set_cons_succ])
   refine wpAnyH_take (i := 6) (oi := (⟨some 90, .indexAddr 26 (.tmp 88) (.tmp 89), 0, "law.go:161", #[⟨4, .data⟩, ⟨5, .data⟩], none⟩ : Oper)) (v := ?y1_7_v) rfl (by kernel_rfl) (by kernel_rfl) (by kernel_rfl) (fun _ _ _ h => h) (Or.inl ⟨by rfl, ?y1_7_h⟩) hHeld ?y1_7_r
   case y1_7_h => (intro w hSw; (try dsimp only at hSw); go_simp; all_goals with_reducible rfl)
   (try simp only [Act.put, List.setIfInBounds_toArray, List.set_cons_zero, List.set_cons_succ])
   refine wpAnyH_take (i := 7) (oi := (⟨some 91, .load 37 (.tmp 90), 37, "law.go:161", #[⟨6, .data⟩], none⟩ : Oper)) (v := ?y1_8_v) rfl (by kernel_rfl) (by kernel_rfl) (by kernel_rfl) (fun _ _ _ h => h) (Or.inl ⟨by rfl, ?y1_8_h⟩) hHeld ?y1_8_r
   case y1_8_h => (intro w hSw; (try dsimp only at hSw); go_simp; all_goals with_reducible rfl)
   (try simp only [Act.put, List.setIfInBounds_toArray, List.set_cons_zero, List.set_cons_succ])
   refine wpAnyH_take (i := 9) (oi := (⟨some 93, .load 37 (.tmp 14), 37, "law.go:161", #[], none⟩ : Oper)) (v := ?y1_9_v) rfl (by kernel_rfl) (by kernel_rfl) (by kernel_rfl) (fun _ _ _ h => h) (Or.inl ⟨by rfl, ?y1_9_h⟩) hHeld ?y1_9_r
   case y1_9_h => (intro w hSw; (try dsimp only at hSw); go_simp; all_goals with_reducible rfl)
   (try simp only [Act.put, List.setIfInBounds_toArray, List.set_cons_zero, List.set_cons_succ])
   refine wpAnyH_ready (rs := [8]) (by kernel_rfl) (by simp) ?_
   refine AllReadyH.cons (o := (⟨some 92, .call { callee := .value (.func 28), args := #[.tmp 87, .tmp 91], argTypes := #[37, 37] }, 37, "law.go:161", #[⟨3, .data⟩, ⟨7, .data⟩], none⟩ : Oper)) rfl (fun K hK => ?_) AllReadyH.nil
   go_simp
   (go_at_call 28; (with_reducible refine (add_r (N := 50000) (RatR.below HXE.out HDR.out) (RatR.below HYE.out HDR.out) (HGX.out e hel) (HGZ.out e hel) (by decide)).mono ?_); rintro en u1 ⟨m1, b1, j1, d1, m2, b2, j2, d2, rfl, hx, hb⟩; have HV := Lib.hid hx; have HZ8 := Lib.hid (bt HDR.out hb); clear hx hb)
   first | refine hK.out _ _ ?_ (fun hHeld => ?_) | (go_wp2_with fail; refine hK.out _ _ ?_ (fun hHeld => ?_))
   ·exact HLS.out _ HZ8.out
   clear hK K
   (try dsimp only at hHeld)
   (try simp only [Act.put, List.setIfInBounds_toArray, List.set_cons_zero, List.set_cons_succ])
   refine wpAnyH_ready (rs := [10]) (by kernel_rfl) (by simp) ?_
   refine AllReadyH.cons (o := (⟨some 94, .call { callee := .value (.func 20), args := #[.tmp 92, .tmp 93], argTypes := #[37, 37] }, 3, "law.go:161", #[⟨8, .data⟩, ⟨9, .data⟩, ⟨8, .chain⟩], none⟩ : Oper)) rfl (fun K hK => ?_) AllReadyH.nil
   go_simp
   (go_at_call 20; (with_reducible refine (cmp_r (N := 100001) HV.out (RatR.below HQE.out HZ8.out) (Rg.add (HGX.out e hel) (HGZ.out e hel)) (rg_unitW (by omega)) (by decide)).mono ?_); rintro en u2 ⟨rfl, hb⟩; rw [HVE.out]; have HZ10 := Lib.hid (bt HZ8.out hb); clear hb)
   first | refine hK.out _ _ ?_ (fun hHeld => ?_) | (go_wp2_with fail; refine hK.out _ _ ?_ (fun hHeld => ?_))
   ·exact HLS.out _ HZ10.out
   clear hK K
   (try dsimp only at hHeld)
   (try simp only [Act.put, List.setIfInBounds_toArray, List.set_cons_zero, List.set_cons_succ])
   refine wpAnyH_take (i := 11) (oi := (⟨some 17, .assign (.tmp 94), 3, "law.go:161", #[⟨10, .data⟩, ⟨10, .chain⟩, ⟨0, .phase⟩, ⟨1, .phase⟩, ⟨2, .phase⟩, ⟨3, .phase⟩, ⟨4, .phase⟩, ⟨5, .phase⟩, ⟨6, .phase⟩, ⟨7, .phase⟩, ⟨8, .phase⟩, ⟨9, .phase⟩, ⟨10, .phase⟩], none⟩ : Oper)) (v := ?y1_10_v) rfl (by kernel_rfl) (by kernel_rfl) (by kernel_rfl) (fun _ _ _ h => h) (Or.inl ⟨by rfl, ?y1_10_h⟩) hHeld ?y1_10_r
   case y1_10_h => (intro w hSw; (try dsimp only at hSw); go_simp; all_goals with_reducible rfl)
   (try simp only [Act.put, List.setIfInBounds_toArray, List.set_cons_zero, List.set_cons_succ])
   refine wpAnyH_done (by kernel_rfl) ?_ _
   have HBE := Lib.hid (bt HBr.out HZ10.out)
   have wz := keepc HBE.out (HWC.out e hel)
   rw [hre] at wz
   clear HLS
   go_wp2
   go_roundw
   case rel => exact ⟨e + 1, by omega, by go_num, HBE.out⟩
   case measure => (simp [RowKit.intOf]; omega)
  ·skip
   have HVE := Lib.hid (show cmpQ ((if e = 0 then 1 else x e) + (if e = 0 then 0 else y e)) 1 = -1 from by rw [HVAL.out e hel, hre]; rfl)
   go_wp2_with fail
   have HLS := Lib.hid (fun (w' : World) (hb : Below wr.heap.size wr w') => (⟨keepc hb Yx0.out, keepc hb Yx1.out, keepc hb Yx2.out, keepc hb Yx3.out, keepc hb Yy0.out, keepc hb Yy1.out, keepc hb Yy2.out, keepc hb Yy3.out, keepc hb Yq0.out, keepc hb Yq1.out, keepc hb Yq2.out, keepc hb Yq3.out⟩ : w'.cell? ⟨bx, ox + e * 4, none⟩ = some (.bool xe.n1) ∧ w'.cell? ⟨bx, ox + e * 4 + 1, none⟩ = some (.slice xe.a1 xe.k1 xe.c1) ∧ w'.cell? ⟨bx, ox + e * 4 + 2, none⟩ = some (.bool xe.n2) ∧ w'.cell? ⟨bx, ox + e * 4 + 3, none⟩ = some (.slice xe.a2 xe.k2 xe.c2) ∧ w'.cell? ⟨bY, oY + e * 4, none⟩ = some (.bool ye.n1) ∧ w'.cell? ⟨bY, oY + e * 4 + 1, none⟩ = some (.slice ye.a1 ye.k1 ye.c1) ∧ w'.cell? ⟨bY, oY + e * 4 + 2, none⟩ = some (.bool ye.n2) ∧ w'.cell? ⟨bY, oY + e * 4 + 3, none⟩ = some (.slice ye.a2 ye.k2 ye.c2) ∧ w'.cell? ⟨w6.heap.size, 0, none⟩ = some (.bool n1) ∧ w'.cell? ⟨w6.heap.size, 1, none⟩ = some (.slice a1 k1 c1) ∧ w'.cell? ⟨w6.heap.size, 2, none⟩ = some (.bool n2) ∧ w'.cell? ⟨w6.heap.size, 3, none⟩ = some (.slice a2 k2 c2)))
   have HDR := Lib.hid (Below.drew (Below.refl wr.heap.size wr))
   refine wp_region_held_drew (S := fun w' => w'.cell? ⟨bx, ox + e * 4, none⟩ = some (.bool xe.n1) ∧ w'.cell? ⟨bx, ox + e * 4 + 1, none⟩ = some (.slice xe.a1 xe.k1 xe.c1) ∧ w'.cell? ⟨bx, ox + e * 4 + 2, none⟩ = some (.bool xe.n2) ∧ w'.cell? ⟨bx, ox + e * 4 + 3, none⟩ = some (.slice xe.a2 xe.k2 xe.c2) ∧ w'.cell? ⟨bY, oY + e * 4, none⟩ = some (.bool ye.n1) ∧ w'.cell? ⟨bY, oY + e * 4 + 1, none⟩ = some (.slice ye.a1 ye.k1 ye.c1) ∧ w'.cell? ⟨bY, oY + e * 4 + 2, none⟩ = some (.bool ye.n2) ∧ w'.cell? ⟨bY, oY + e * 4 + 3, none⟩ = some (.slice ye.a2 ye.k2 ye.c2) ∧ w'.cell? ⟨w6.heap.size, 0, none⟩ = some (.bool n1) ∧ w'.cell? ⟨w6.heap.size, 1, none⟩ = some (.slice a1 k1 c1) ∧ w'.cell? ⟨w6.heap.size, 2, none⟩ = some (.bool n2) ∧ w'.cell? ⟨w6.heap.size, 3, none⟩ = some (.slice a2 k2 c2)) (by kernel_rfl) ?_ (fun hHeld => ?_)
   ·exact HLS.out _ HDR.out
   (try dsimp only at hHeld)
   refine wpAnyH_take (i := 0) (oi := (⟨some 84, .move (.tmp 7), 26, "law.go:161", #[], none⟩ : Oper)) (v := ?y2_1_v) rfl (by kernel_rfl) (by kernel_rfl) (by kernel_rfl) (fun _ _ _ h => h) (Or.inl ⟨by rfl, ?y2_1_h⟩) hHeld ?y2_1_r
   case y2_1_h => (intro w hSw; (try dsimp only at hSw); go_simp; all_goals with_reducible rfl)
   (try simp only [Act.put, List.setIfInBounds_toArray, List.set_cons_zero, List.set_cons_succ])
   refine wpAnyH_take (i := 1) (oi := (⟨some 85, .move (.tmp 16), 3, "law.go:161", #[], none⟩ : Oper)) (v := ?y2_2_v) rfl (by kernel_rfl) (by kernel_rfl) (by kernel_rfl) (fun _ _ _ h => h) (Or.inl ⟨by rfl, ?y2_2_h⟩) hHeld ?y2_2_r
   case y2_2_h => (intro w hSw; (try dsimp only at hSw); go_simp; all_goals with_reducible rfl)
   (try simp only [Act.put, List.setIfInBounds_toArray, List.set_cons_zero, List.set_cons_succ])
   refine wpAnyH_take (i := 2) (oi := (⟨some 86, .indexAddr 26 (.tmp 84) (.tmp 85), 0, "law.go:161", #[⟨0, .data⟩, ⟨1, .data⟩], none⟩ : Oper)) (v := ?y2_3_v) rfl (by kernel_rfl) (by kernel_rfl) (by kernel_rfl) (fun _ _ _ h => h) (Or.inl ⟨by rfl, ?y2_3_h⟩) hHeld ?y2_3_r
   case y2_3_h => (intro w hSw; (try dsimp only at hSw); go_simp; all_goals with_reducible rfl)
   (try simp only [Act.put, List.setIfInBounds_toArray, List.set_cons_zero, List.set_cons_succ])
   refine wpAnyH_take (i := 3) (oi := (⟨some 87, .load 37 (.tmp 86), 37, "law.go:161", #[⟨2, .data⟩], none⟩ : Oper)) (v := ?y2_4_v) rfl (by kernel_rfl) (by kernel_rfl) (by kernel_rfl) (fun _ _ _ h => h) (Or.inl ⟨by rfl, ?y2_4_h⟩) hHeld ?y2_4_r
   case y2_4_h => (intro w hSw; (try dsimp only at hSw); go_simp; all_goals with_reducible rfl)
   (try simp only [Act.put, List.setIfInBounds_toArray, List.set_cons_zero, List.set_cons_succ])
   refine wpAnyH_take (i := 4) (oi := (⟨some 88, .move (.tmp 9), 26, "law.go:161", #[], none⟩ : Oper)) (v := ?y2_5_v) rfl (by kernel_rfl) (by kernel_rfl) (by kernel_rfl) (fun _ _ _ h => h) (Or.inl ⟨by rfl, ?y2_5_h⟩) hHeld ?y2_5_r
   case y2_5_h => (intro w hSw; (try dsimp only at hSw); go_simp; all_goals with_reducible rfl)
   (try simp only [Act.put, List.setIfInBounds_toArray, List.set_cons_zero, List.set_cons_succ])
   refine wpAnyH_take (i := 5) (oi := (⟨some 89, .move (.tmp 16), 3, "law.go:161", #[], none⟩ : Oper)) (v := ?y2_6_v) rfl (by kernel_rfl) (by kernel_rfl) (by kernel_rfl) (fun _ _ _ h => h) (Or.inl ⟨by rfl, ?y2_6_h⟩) hHeld ?y2_6_r
   case y2_6_h => (intro w hSw; (try dsimp only at hSw); go_simp; all_goals with_reducible rfl)
   (try simp only [Act.put, List.setIfInBounds_toArray, List.set_cons_zero, List.set_cons_succ])
   refine wpAnyH_take (i := 6) (oi := (⟨some 90, .indexAddr 26 (.tmp 88) (.tmp 89), 0, "law.go:161", #[⟨4, .data⟩, ⟨5, .data⟩], none⟩ : Oper)) (v := ?y2_7_v) rfl (by kernel_rfl) (by kernel_rfl) (by kernel_rfl) (fun _ _ _ h => h) (Or.inl ⟨by rfl, ?y2_7_h⟩) hHeld ?y2_7_r
   case y2_7_h => (intro w hSw; (try dsimp only at hSw); go_simp; all_goals with_reducible rfl)
   (try simp only [Act.put, List.setIfInBounds_toArray, List.set_cons_zero, List.set_cons_succ])
   refine wpAnyH_take (i := 7) (oi := (⟨some 91, .load 37 (.tmp 90), 37, "law.go:161", #[⟨6, .data⟩], none⟩ : Oper)) (v := ?y2_8_v) rfl (by kernel_rfl) (by kernel_rfl) (by kernel_rfl) (fun _ _ _ h => h) (Or.inl ⟨by rfl, ?y2_8_h⟩) hHeld ?y2_8_r
   case y2_8_h => (intro w hSw; (try dsimp only at hSw); go_simp; all_goals with_reducible rfl)
   (try simp only [Act.put, List.setIfInBounds_toArray, List.set_cons_zero, List.set_cons_succ])
   refine wpAnyH_take (i := 9) (oi := (⟨some 93, .load 37 (.tmp 14), 37, "law.go:161", #[], none⟩ : Oper)) (v := ?y2_9_v) rfl (by kernel_rfl) (by kernel_rfl) (by kernel_rfl) (fun _ _ _ h => h) (Or.inl ⟨by rfl, ?y2_9_h⟩) hHeld ?y2_9_r
   case y2_9_h => (intro w hSw; (try dsimp only at hSw); go_simp; all_goals with_reducible rfl)
   (try simp only [Act.put, List.setIfInBounds_toArray, List.set_cons_zero, List.set_cons_succ])
   refine wpAnyH_ready (rs := [8]) (by kernel_rfl) (by simp) ?_
   refine AllReadyH.cons (o := (⟨some 92, .call { callee := .value (.func 28), args := #[.tmp 87, .tmp 91], argTypes := #[37, 37] }, 37, "law.go:161", #[⟨3, .data⟩, ⟨7, .data⟩], none⟩ : Oper)) rfl (fun K hK => ?_) AllReadyH.nil
   go_simp
   (go_at_call 28; (with_reducible refine (add_r (N := 50000) (RatR.below HXE.out HDR.out) (RatR.below HYE.out HDR.out) (HGX.out e hel) (HGZ.out e hel) (by decide)).mono ?_); rintro en u1 ⟨m1, b1, j1, d1, m2, b2, j2, d2, rfl, hx, hb⟩; have HV := Lib.hid hx; have HZ8 := Lib.hid (bt HDR.out hb); clear hx hb)
   first | refine hK.out _ _ ?_ (fun hHeld => ?_) | (go_wp2_with fail; refine hK.out _ _ ?_ (fun hHeld => ?_))
   ·exact HLS.out _ HZ8.out
   clear hK K
   (try dsimp only at hHeld)
   (try simp only [Act.put, List.setIfInBounds_toArray, List.set_cons_zero, List.set_cons_succ])
   refine wpAnyH_ready (rs := [10]) (by kernel_rfl) (by simp) ?_
   refine AllReadyH.cons (o := (⟨some 94, .call { callee := .value (.func 20), args := #[.tmp 92, .tmp 93], argTypes := #[37, 37] }, 3, "law.go:161", #[⟨8, .data⟩, ⟨9, .data⟩, ⟨8, .chain⟩], none⟩ : Oper)) rfl (fun K hK => ?_) AllReadyH.nil
   go_simp
   (go_at_call 20; (with_reducible refine (cmp_r (N := 100001) HV.out (RatR.below HQE.out HZ8.out) (Rg.add (HGX.out e hel) (HGZ.out e hel)) (rg_unitW (by omega)) (by decide)).mono ?_); rintro en u2 ⟨rfl, hb⟩; rw [HVE.out]; have HZ10 := Lib.hid (bt HZ8.out hb); clear hb)
   first | refine hK.out _ _ ?_ (fun hHeld => ?_) | (go_wp2_with fail; refine hK.out _ _ ?_ (fun hHeld => ?_))
   ·exact HLS.out _ HZ10.out
   clear hK K
   (try dsimp only at hHeld)
   (try simp only [Act.put, List.setIfInBounds_toArray, List.set_cons_zero, List.set_cons_succ])
   refine wpAnyH_take (i := 11) (oi := (⟨some 17, .assign (.tmp 94), 3, "law.go:161", #[⟨10, .data⟩, ⟨10, .chain⟩, ⟨0, .phase⟩, ⟨1, .phase⟩, ⟨2, .phase⟩, ⟨3, .phase⟩, ⟨4, .phase⟩, ⟨5, .phase⟩, ⟨6, .phase⟩, ⟨7, .phase⟩, ⟨8, .phase⟩, ⟨9, .phase⟩, ⟨10, .phase⟩], none⟩ : Oper)) (v := ?y2_10_v) rfl (by kernel_rfl) (by kernel_rfl) (by kernel_rfl) (fun _ _ _ h => h) (Or.inl ⟨by rfl, ?y2_10_h⟩) hHeld ?y2_10_r
   case y2_10_h => (intro w hSw; (try dsimp only at hSw); go_simp; all_goals with_reducible rfl)
   (try simp only [Act.put, List.setIfInBounds_toArray, List.set_cons_zero, List.set_cons_succ])
   refine wpAnyH_done (by kernel_rfl) ?_ _
   have HBE := Lib.hid (bt HBr.out HZ10.out)
   have wz := keepc HBE.out (HWC.out e hel)
   rw [hre] at wz
   clear HLS
   go_wp2
   go_roundw
   case rel => exact ⟨e + 1, by omega, by go_num, HBE.out⟩
   case measure => (simp [RowKit.intOf]; omega)
end Go.Proofs.YteionhenpehogaaGreatDoor
