import Derived.Test.YteionhenpehogaaGreatDoorRSol
import Derived.BigRegion
import Derived.Deep.RegionWith
namespace Go.Proofs.YteionhenpehogaaGreatDoor
open Go.RowKit Tally
set_option maxHeartbeats 8000000 in
set_option maxRecDepth 100000 in
theorem lawOutside_any {w : World} {v : Value} {k : Nat} {n day : Int} {H : Hds} (h : HoldIn w v k H) (ht : Tab w) :
  Calls Tryz.prog 11 #[.int .i64 n, v, .int .i64 day] w fun e w' => e = .returned (.bool true) ∧ Below w.heap.size w w' := by
 obtain ⟨⟨a, c, rfl, hkc⟩, hh, hw⟩ := h
 have HH := Lib.hid hh
 have HW := Lib.hid hw
 have HT := Lib.hid ht
 clear hh hw ht
 go_enter Tryz.func11, Tryz.ntmps11
 go_wp2_with fail
 refine (sawake_any HT.out).mono ?_
 rintro en w1 ⟨rfl, hb⟩
 have HB1 := Lib.hid hb
 clear hb
 go_wp2_with fail
 refine sfew_any.mono ?_
 rintro en w1' ⟨rfl, rfl⟩
 by_cases hf : n ≤ 8 ∧ k ≤ 30
 case neg =>
  rw [decide_eq_false hf]
  go_wp2
  go_ret
  exact ⟨rfl, HB1.out⟩
 rw [decide_eq_true hf]
 have HHR := Lib.hid ((HH.out hf.2).below HB1.out)
 clear HH
 by_cases hv : H.valid n k
 case neg =>
  have HV := Lib.hid hv
  clear hv
  go_wp2_with fail
  refine (out_no1 HHR.out HW.out HV.out).mono ?_
  rintro en w2 ⟨rfl, hb2⟩
  have HB2 := Lib.hid (bt HB1.out hb2)
  have HH2 := Lib.hid (HHR.out.below hb2)
  clear hb2
  go_wp2_with fail
  refine (rout_no1 HH2.out HV.out).mono ?_
  rintro en w3 ⟨rfl, hb3⟩
  have HB3 := Lib.hid (bt HB2.out hb3)
  have HT3 := Lib.hid (HT.out.below HB3.out)
  clear hb3
  go_wp2_with fail
  refine (ssame_yes (N := 1) (f := fun _ => 0) (rats_nil w3) (rrats_nil w3) (fun k hk => absurd hk (Nat.not_lt_zero _)) (by decide) HT3.out).mono ?_
  rintro en w4 ⟨rfl, hb4⟩
  have HB4 := Lib.hid (bt HB3.out hb4)
  clear hb4
  go_wp2
  go_ret
  exact ⟨rfl, HB4.out⟩
 by_cases hd : goodDate day
 case neg =>
  have HV := Lib.hid hv
  have HD := Lib.hid hd
  clear hv hd
  go_wp2_with fail
  refine (out_no2 HHR.out HW.out HV.out HD.out).mono ?_
  rintro en w2 ⟨rfl, hb2⟩
  have HB2 := Lib.hid (bt HB1.out hb2)
  have HH2 := Lib.hid (HHR.out.below hb2)
  clear hb2
  go_wp2_with fail
  refine (rout_no2 HH2.out HV.out HD.out).mono ?_
  rintro en w3 ⟨rfl, hb3⟩
  have HB3 := Lib.hid (bt HB2.out hb3)
  have HT3 := Lib.hid (HT.out.below HB3.out)
  clear hb3
  go_wp2_with fail
  refine (ssame_yes (N := 1) (f := fun _ => 0) (rats_nil w3) (rrats_nil w3) (fun k hk => absurd hk (Nat.not_lt_zero _)) (by decide) HT3.out).mono ?_
  rintro en w4 ⟨rfl, hb4⟩
  have HB4 := Lib.hid (bt HB3.out hb4)
  clear hb4
  go_wp2
  go_ret
  exact ⟨rfl, HB4.out⟩
 obtain ⟨N, rfl⟩ : ∃ N : Nat, n = N := ⟨n.toNat, by have := hv.1; omega⟩
 have hN1 : 1 ≤ N := by have := hv.1; omega
 have hN2 : N ≤ 12 := by have := hv.2.1; omega
 have HV := Lib.hid hv
 have HD := Lib.hid hd
 clear hv hd
 go_wp2_with fail
 refine (out_yes HHR.out HW.out HV.out HD.out).mono ?_
 rintro en w2 ⟨ax, cx, o, x, rfl, ho, hx, hg, hr, hb2⟩
 have HB2 := Lib.hid (bt HB1.out hb2)
 have HH2 := Lib.hid (HHR.out.below hb2)
 have HO := Lib.hid ho
 have HX := Lib.hid hx
 have HG := Lib.hid hg
 have HR := Lib.hid hr
 clear ho hx hg hr hb2 HB1 HHR
 go_wp2_with fail
 refine (rout_yes HH2.out HV.out HD.out).mono ?_
 rintro en w3 ⟨gy, p, y, rfl, ho, hx, hg, hr, hb3⟩
 have HB3 := Lib.hid (bt HB2.out hb3)
 have HR3 := Lib.hid (HR.out.below hb3)
 have HT3 := Lib.hid (HT.out.below HB3.out)
 have HEQ := Lib.hid (show ∀ e, e < N → x e = y e from Sol.unique (dirO_shares (at_shares HV.out)) HO.out HX.out (sol_congr (ho.unique HO.out) hx))
 have HS3 := Lib.hid (hr.congr (g := fun e => if e = 0 then (0 : Rat) else x e) (fun e he => by rw [HEQ.out e he]))
 clear ho hx hg hr hb3 HB2 HH2 HR HEQ
 have HGG := Lib.hid (show ∀ e, e < N → Rg 50000 (if e = 0 then (0 : Rat) else x e) from fun e he => by
  by_cases z : e = 0
  ·rw [if_pos z]; exact Rg.of (fw_mono (fw_zero 1) (by omega))
  ·rw [if_neg z]; exact HG.out e he)
 go_wp2_with fail
 refine (ssame_yes HR3.out HS3.out HGG.out (by decide) HT3.out).mono ?_
 rintro en w4 ⟨rfl, hb4⟩
 have HB4 := Lib.hid (bt HB3.out hb4)
 clear hb4
 go_wp2
 go_ret
 exact ⟨rfl, HB4.out⟩
end Go.Proofs.YteionhenpehogaaGreatDoor
