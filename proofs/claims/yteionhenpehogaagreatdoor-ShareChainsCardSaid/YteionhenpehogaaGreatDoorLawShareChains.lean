import Derived.Test.YteionhenpehogaaGreatDoorRHold
import Derived.Test.YteionhenpehogaaGreatDoorRSum
import Derived.Test.YteionhenpehogaaGreatDoorGCyc
import Derived.BigRegion
import Derived.Deep.RegionWith
namespace Go.Proofs.YteionhenpehogaaGreatDoor
open Go.RowKit Tally Graph.Plain
def zer (Z : Nat → Nat → Int) (h : Nat) : Nat → Nat → Int := fun i e => if e = 0 ∧ i < h then 0 else Z i e
theorem zer_zero {Z : Nat → Nat → Int} : zer Z 0 = Z := by
 funext i e
 unfold zer
 rw [if_neg (fun q => absurd q.2 (Nat.not_lt_zero _))]
theorem zer_pos {Z : Nat → Nat → Int} {h i e : Nat} (he : 1 ≤ e) : zer Z h i e = Z i e := if_neg (by omega)
theorem zer_top {Z : Nat → Nat → Int} {h i : Nat} (hi : i < h) : zer Z h i 0 = 0 := if_pos ⟨rfl, hi⟩
theorem irow_set (f : Nat → Int) (n j : Nat) (x : Int) : (irow f n).set j (.int .i64 x) = irow (fun e => if e = j then x else f e) n := by
 apply List.ext_getElem?
 intro i
 by_cases hi : i < n
 ·by_cases he : j = i
  ·subst he
   rw [List.getElem?_set_self (by rw [irow_len]; exact hi), irow_get hi, if_pos rfl]
  ·rw [List.getElem?_set_ne he, irow_get hi, irow_get hi, if_neg (Ne.symm he)]
 ·rw [List.getElem?_eq_none (by simp [irow_len]; omega), List.getElem?_eq_none (by rw [irow_len]; omega)]
theorem irow_congr {f g : Nat → Int} {n : Nat} (h : ∀ i, i < n → f i = g i) : irow f n = irow g n := by
 unfold irow
 exact List.map_congr_left fun i hi => by rw [h i (List.mem_range.1 hi)]
theorem BuildO.put0 {B : Nat} {w : World} {v : Value} {V : List Value} {N : Nat} {Z : Nat → Nat → Int} {h g c : Nat} (hb : BuildO B w v V N N (zer Z h)) (hV : V[h]? = some (.slice (some ⟨g, 0, none⟩) N c)) :
  BuildO B (w.setCell ⟨g, 0, none⟩ (.int .i64 0)) v V N N (zer Z (h + 1)) := by
 have hr := hb.row h _ hV
 obtain ⟨s1, s2⟩ := hr.stored 0 (.int .i64 0)
 rw [irow_set] at s1
 refine ⟨hb.len, hb.own.side s2 (fun g' hg' e => ?_), fun i u hu => ?_, hb.apart⟩
 ·injection e with e
  subst e
  exact own_apart hr hb.own.own (by decide) g rfl hg'
 ·by_cases e : i = h
  ·subst e
   rw [hV] at hu
   injection hu with hu
   subst hu
   have e1 : irow (fun e => if e = 0 then 0 else zer Z i i e) N = irow (zer Z (i + 1) i) N := irow_congr fun e _ => by
    by_cases z : e = 0
    ·subst z; rw [if_pos rfl, zer_top (by omega)]
    ·rw [if_neg z, zer_pos (by omega), zer_pos (by omega)]
   rw [← e1]
   exact s1
  ·have hu' := hb.row i u hu
   have e1 : irow (zer Z h i) N = irow (zer Z (h + 1) i) N := irow_congr fun e _ => by
    unfold zer
    by_cases z : e = 0 ∧ i < h
    ·rw [if_pos z, if_pos ⟨z.1, by omega⟩]
    ·rw [if_neg z, if_neg (by omega)]
   rw [← e1]
   refine hu'.kept s2 ?_
   cases hq : u.ownBlock with
   | none => exact .inl rfl
   | some g' => exact .inr fun q => e (hb.apart i h u _ g' hu hV hq (by injection q with q; rw [q]; rfl))
theorem chains_val {N : Nat} {Z : Nat → Nat → Int} {o : Nat → Bool} {x : Nat → Rat} (h : Sh N Z) (ho : IsReach N (inner Z) (direct N (dirE N Z)) o) (hx : Sol N Z (dirE N Z) o x) (hc : ∀ i, i < N → Gc.cB N (zer Z N) i = false) {e : Nat} (he : e < N) :
  1 * chn N (zer Z N) N 0 e = if e = 0 then 1 else x e := by
 have hi : inner (zer Z N) = inner Z := by
  funext a b
  unfold inner
  by_cases q : a = 0 ∨ b = 0
  ·rw [if_pos q, if_pos q]
  ·rw [if_neg q, if_neg q, zer_pos (by omega)]
 have hd : direct N (zer Z N 0) = direct N (dirE N Z) := direct_congr fun e h1 _ => by rw [zer_pos h1, dirE_pos h1]
 have ho' : IsReach N (inner (zer Z N)) (direct N (zer Z N 0)) o := by rw [hi, hd]; exact ho
 have hpos : ∀ a b, a < N → b < N → 0 ≤ zer Z N a b := fun a b ha hb => by
  by_cases q : b = 0
  ·subst q; rw [zer_top ha]; exact Int.le_refl _
  ·rw [zer_pos (by omega)]; exact (h.range a b ha hb).1
 have hs : Shares N (zer Z N) (zer Z N 0) := ⟨hpos, fun e h1 he => by rw [zer_pos h1]; exact (h.range 0 e h.one he).1, fun e h1 he => by
  have k := (dirE_shares h).sum e h1 he
  rw [dirE_pos h1] at k
  simp only [zer_pos h1]
  exact k⟩
 have hac : ∀ a b, a < N → b < N → 0 < zer Z N a b → ¬ R N (zer Z N) b a := fun a b ha hb hz hr => by
  have k := Gc.cB_iff.2 ⟨b, hb, hz, hr⟩
  rw [hc a ha] at k
  cases k
 have hy := chn_sol hs ho' h.one hpos hac
 by_cases q : e = 0
 ·subst q
  rw [if_pos rfl, chn_top]
  grind
 ·rw [if_neg q]
  have hy2 : Sol N Z (dirE N Z) o (fun k => if k = 0 then 0 else chn N (zer Z N) N 0 k) := ⟨hy.1, fun k hk hok => by
   have k1 := reach_pos ho hk hok
   have k2 := hy.2 k hk hok
   simp only [zer_pos k1] at k2
   rw [dirE_pos k1]
   exact k2⟩
  have k3 := Sol.unique (dirE_shares h) ho hx hy2 e he
  rw [k3]
  show 1 * _ = if e = 0 then 0 else _
  rw [if_neg q]
  grind
theorem zer_vld {N : Nat} {Z : Nat → Nat → Int} (h : Sh N Z) (hN : N ≤ 12) : Vld N (fun _ => N) (zer Z N) := by
 refine ⟨h.one, hN, fun _ _ => rfl, fun a b ha hb => ?_, fun c hc => ?_⟩
 ·by_cases q : b = 0
  ·subst q; rw [zer_top ha]; decide
  ·rw [zer_pos (by omega)]; exact h.range a b ha hb
 ·rw [gsum_isum]
  by_cases q : c = 0
  ·subst q
   rw [isum_zero fun a ha => zer_top ha]
   decide
  ·rw [isum_congr (g := fun a => Z a c) (fun a _ => zer_pos (by omega))]
   exact h.sum c hc
theorem bS_top : ∀ n, n < 7 → bS n 1 ≤ 400000000 := by decide
set_option maxHeartbeats 8000000 in
set_option maxRecDepth 100000 in
theorem lawChains_any {w : World} {v : Value} {k : Nat} {n day : Int} {H : Hds} (h : HoldIn w v k H) (ht : Tab w) :
  Calls Tryz.prog 14 #[.int .i64 n, v, .int .i64 day] w fun e w' => e = .returned (.bool true) ∧ Below w.heap.size w w' := by
 obtain ⟨⟨a, c, rfl, hkc⟩, hh, hw⟩ := h
 have HH := Lib.hid hh
 have HW := Lib.hid hw
 have HT := Lib.hid ht
 clear hh hw ht
 go_enter Tryz.func14, Tryz.ntmps14
 go_wp2_with fail
 refine (sawake_any HT.out).mono ?_
 rintro en w1 ⟨rfl, hb⟩
 have HB1 := Lib.hid hb
 clear hb
 by_cases hn6 : n ≤ 6
 case neg =>
  have q1 : (6 : Int) < n := by omega
  go_wp2
  go_ret
  exact ⟨rfl, HB1.out⟩
 have q1 : ¬ (6 : Int) < n := by omega
 by_cases hk30 : k ≤ 30
 case neg =>
  have q2 : (30 : Int) < (k : Int) := by omega
  go_wp2
  go_ret
  exact ⟨rfl, HB1.out⟩
 have q2 : ¬ (30 : Int) < (k : Int) := by omega
 have HHR := Lib.hid ((HH.out hk30).below HB1.out)
 clear HH
 by_cases hv : H.valid n k
 case neg =>
  have HV := Lib.hid hv
  clear hv
  go_wp2_with fail
  refine (eff_no1 HHR.out HW.out HV.out).mono ?_
  rintro en w2 ⟨rfl, hb2⟩
  have HB2 := Lib.hid (bt HB1.out hb2)
  have HH2 := Lib.hid (HHR.out.below hb2)
  clear hb2
  go_wp2_with fail
  refine (rmatrix_no1 HH2.out HV.out).mono ?_
  rintro en w3 ⟨rfl, hb3⟩
  have HB3 := Lib.hid (bt HB2.out hb3)
  clear hb3
  go_wp2
  go_ret
  exact ⟨rfl, HB3.out⟩
 by_cases hd : goodDate day
 case neg =>
  have HV := Lib.hid hv
  have HD := Lib.hid hd
  clear hv hd
  go_wp2_with fail
  refine (eff_no2 HHR.out HW.out HV.out HD.out).mono ?_
  rintro en w2 ⟨rfl, hb2⟩
  have HB2 := Lib.hid (bt HB1.out hb2)
  have HH2 := Lib.hid (HHR.out.below hb2)
  clear hb2
  go_wp2_with fail
  refine (rmatrix_no2 HH2.out HV.out HD.out).mono ?_
  rintro en w3 ⟨rfl, hb3⟩
  have HB3 := Lib.hid (bt HB2.out hb3)
  clear hb3
  go_wp2
  go_ret
  exact ⟨rfl, HB3.out⟩
 obtain ⟨N, rfl⟩ : ∃ N : Nat, n = N := ⟨n.toNat, by have := hv.1; omega⟩
 have hN1 : 1 ≤ N := by have := hv.1; omega
 have hN6 : N ≤ 6 := by omega
 have HV := Lib.hid hv
 have HD := Lib.hid hd
 clear hv hd
 go_wp2_with fail
 refine (eff_yes HHR.out HW.out HV.out HD.out).mono ?_
 rintro en w2 ⟨ax, cx, o, x, rfl, ho, hx, hg, hr, hb2⟩
 have HB2 := Lib.hid (bt HB1.out hb2)
 have HH2 := Lib.hid (HHR.out.below hb2)
 have HO := Lib.hid ho
 have HX := Lib.hid hx
 have HG := Lib.hid hg
 have HR := Lib.hid hr
 clear ho hx hg hr hb2 HB1 HHR
 go_wp2_with fail
 refine (rmatrix_yes HH2.out HV.out HD.out).mono ?_
 rintro en w4 ⟨am, cm, V, rfl, hm, hb4⟩
 have HSS := Lib.hid (at_shares (day := day) HV.out)
 obtain ⟨Z, hZ⟩ : ∃ Z : Nat → Nat → Int, Z = fun h e => H.at (h : Nat) (e : Nat) day k := ⟨_, rfl⟩
 rw [← hZ] at hm HSS HO HX
 obtain ⟨G0, c0, hsl, hG1, hG2⟩ := hm.own.own.form (by omega)
 injection hsl with e1 _ e3
 subst e1
 subst e3
 have HM := Lib.hid (show BuildO w2.heap.size w4 (.slice (some ⟨G0, 0, none⟩) N cm) V N N (zer Z 0) from by rw [zer_zero]; exact hm)
 have HB4 := Lib.hid hb4
 clear hm hb4 hZ HH2 HV HD hG1 hG2
 go_wp2_with fail
 go_loopw [11] (fun i wr => ∃ h : Nat, h ≤ N ∧ i = .int .i64 h ∧ BuildO w2.heap.size wr (.slice (some ⟨G0, 0, none⟩) N cm) V N N (zer Z h) ∧ Below w2.heap.size w2 wr) (fun i _ => N - (RowKit.intOf i).toNat)
 case atStart => exact ⟨0, Nat.zero_le _, rfl, HM.out, HB4.out⟩
 case round =>
  obtain ⟨h, hh, rfl, hbo, hbb⟩ := hrel
  have HBO := Lib.hid hbo
  have HBB := Lib.hid hbb
  clear hbo hbb HM HB4
  by_cases hlt : h < N
  ·have hhi : (h : Int) < (N : Int) := by omega
   have hN0 : (0 : Int) < (N : Int) := by omega
   have hl := HBO.out.len
   obtain ⟨u, hu⟩ : ∃ u, V[h]? = some u := ⟨V[h]'(by omega), List.getElem?_eq_getElem (by omega)⟩
   obtain ⟨g, cg, rfl, hgb, hgl⟩ := (HBO.out.row h u hu).form (by omega)
   have y1 := HBO.out.own.own.cellAt h (by omega)
   rw [hu] at y1
   have y2 := (HBO.out.row h _ hu).cellAt 0 (by omega)
   rw [irow_get (by omega)] at y2
   have y3 := (HBO.out.row h _ hu).frozenAt 0
   have HBO2 := Lib.hid (HBO.out.put0 hu)
   have HBB2 := Lib.hid (HBB.out.setCell (p := ⟨g, 0, none⟩) hgb (.int .i64 0))
   clear HBO HBB hu hl
   go_wp2
   go_roundw
   case rel => exact ⟨h + 1, by omega, by go_num, HBO2.out, HBB2.out⟩
   case measure => simp [RowKit.intOf]; omega
  obtain rfl : h = N := by omega
  have HM := Lib.hid HBO.out.matz
  have HR3 := Lib.hid (HR.out.below HBB.out)
  have HB3 := Lib.hid (bt HB2.out HBB.out)
  have HVLD := Lib.hid (zer_vld HSS.out (by omega))
  clear HBO HBB HR HB2
  go_wp2_with fail
  refine (Gc.cyclic_yes HVLD.out (Gc.matR_of HM.out)).mono ?_
  rintro en w5 ⟨bk, hbk, rfl, hrow, hb5⟩
  have HC := Lib.hid hrow
  have HM5 := Lib.hid (HM.out.below hb5)
  have HR5 := Lib.hid (HR3.out.below hb5)
  have HB5 := Lib.hid (bt HB3.out hb5)
  clear hrow hb5 hbk HM HR3 HB3
  go_wp2_with fail
  go_loopw [13] (fun i wr => ∃ j : Nat, j ≤ h ∧ i = .int .i64 j ∧ (∀ a, a < j → Gc.cB h (zer Z h) a = false) ∧ wr = w5) (fun i _ => h - (RowKit.intOf i).toNat)
  case atStart => exact ⟨0, Nat.zero_le _, rfl, fun a ha => absurd ha (Nat.not_lt_zero _), rfl⟩
  case round =>
   obtain ⟨j, hj, rfl, hac, hwr⟩ := hrel
   subst hwr
   have HAC := Lib.hid hac
   clear hac
   by_cases hjl : j < h
   ·have hji : (j : Int) < (h : Int) := by omega
    have y1 := HC.out.cell hjl
    cases hq : Gc.cB h (zer Z h) j
    ·rw [hq] at y1
     have HAC2 := Lib.hid (show ∀ a, a < j + 1 → Gc.cB h (zer Z h) a = false from fun a ha => by
      by_cases z : a = j
      ·rw [z]; exact hq
      ·exact HAC.out a (by omega))
     clear hq
     go_wp2
     go_roundw
     case rel => exact ⟨j + 1, by omega, by go_num, HAC2.out, trivial⟩
     case measure => simp [RowKit.intOf]; omega
    ·rw [hq] at y1
     clear hq
     go_wp2
     go_ret
     exact ⟨rfl, HB5.out⟩
   obtain rfl : j = h := by omega
   have HVAL := Lib.hid (fun (e : Nat) (he : e < j) => chains_val HSS.out HO.out HX.out HAC.out he)
   go_wp2_with fail
   (with_reducible refine ((rint_any (n := 1) (by decide) (by decide)).mono fun _ _ h => h.plain).mono ?_)
   rintro en w6 ⟨m1, b1, j1, d1, m2, b2, j2, d2, rfl, hq, hb6⟩
   have HI := Lib.hid (rnum_1 _ hq)
   have HM6 := Lib.hid (HM5.out.below hb6)
   have HR6 := Lib.hid (HR5.out.below hb6)
   have HB6 := Lib.hid (bt HB5.out hb6)
   clear hq hb6
   go_wp2_with fail
   refine (rsum_any hN1 hN6 (zer_vld HSS.out (by omega)).2.2.2.1 j hN6 _ _ _ 0 1 1 (bS_top j (by omega)) (Nat.le_refl _) (by omega) HM6.out HI.out (rg_unitS (Nat.le_refl _))).mono ?_
   rintro en w7 ⟨gs, rfl, hs, _, _, hb7⟩
   have HS7 := Lib.hid ((hs.rats (by omega)).congr (g := fun e => if e = 0 then 1 else x e) (fun e he => HVAL.out e he))
   have HR7 := Lib.hid (HR6.out.below hb7)
   have HB7 := Lib.hid (bt HB6.out hb7)
   have HT7 := Lib.hid (HT.out.below HB7.out)
   have HGG := Lib.hid (show ∀ e, e < j → Rg 50000 (if e = 0 then (1 : Rat) else x e) from fun e he => by
    by_cases z : e = 0
    ·rw [if_pos z]; exact rg_unitS (by omega)
    ·rw [if_neg z]; exact HG.out e he)
   clear hs hb7
   go_wp2_with fail
   refine (ssame_yes HR7.out HS7.out HGG.out (by decide) HT7.out).mono ?_
   rintro en w8 ⟨rfl, hb8⟩
   have HB8 := Lib.hid (bt HB7.out hb8)
   clear hb8
   go_wp2
   go_ret
   exact ⟨rfl, HB8.out⟩
end Go.Proofs.YteionhenpehogaaGreatDoor
