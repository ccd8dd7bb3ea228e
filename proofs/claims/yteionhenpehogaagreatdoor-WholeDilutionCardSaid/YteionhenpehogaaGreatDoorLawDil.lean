import Derived.Test.YteionhenpehogaaGreatDoorSet
import Derived.Test.YteionhenpehogaaGreatDoorAwakeT
import Derived.BigRegion
import Derived.Deep.RegionWith
import Derived.Deep.QuietTactic
import Derived.BigQuiet
namespace Go.Proofs.YteionhenpehogaaGreatDoor
open Go.RowKit Tally
def extH (H : Hds) (k : Nat) (p q d s : Int) : Hds := ⟨fun i => if i = k then p else H.ho i, fun i => if i = k then q else H.en i, fun i => if i = k then s else H.sh i, fun i => if i = k then d else H.da i⟩
theorem HoldR.ext {w : World} {v : Value} {k : Nat} {H : Hds} {p q d s : Int} (h : HoldR w v k H) : HoldR w v k (extH H k p q d s) := by
 obtain ⟨a, b, o, c, h1, h2, h3, h4, h5, h6⟩ := h
 refine ⟨a, b, o, c, h1, h2, h3, h4, h5, fun i hi => ?_⟩
 obtain ⟨q0, q1, q2, q3⟩ := h6 i hi
 have hne : ¬ i = k := by omega
 refine ⟨?_, ?_, ?_, ?_⟩
 ·rw [q0]; show _ = some (Value.int .i64 (if i = k then p else H.ho i)); rw [if_neg hne]
 ·rw [q1]; show _ = some (Value.int .i64 (if i = k then q else H.en i)); rw [if_neg hne]
 ·rw [q2]; show _ = some (Value.int .i64 (if i = k then d else H.da i)); rw [if_neg hne]
 ·rw [q3]; show _ = some (Value.int .i64 (if i = k then s else H.sh i)); rw [if_neg hne]
theorem extH_wf {H : Hds} {k : Nat} {p q d s : Int} (h : Hwf H k) (hp : (Lit.int .i64 p).wf = true) (hq : (Lit.int .i64 q).wf = true) (hd : (Lit.int .i64 d).wf = true) (hs : (Lit.int .i64 s).wf = true) : Hwf (extH H k p q d s) (k + 1) := fun i hi => by
 show (Lit.int .i64 (if i = k then p else H.ho i)).wf = true ∧ (Lit.int .i64 (if i = k then q else H.en i)).wf = true ∧ (Lit.int .i64 (if i = k then d else H.da i)).wf = true ∧ (Lit.int .i64 (if i = k then s else H.sh i)).wf = true
 by_cases e : i = k
 ·rw [if_pos e, if_pos e, if_pos e, if_pos e]; exact ⟨hp, hq, hd, hs⟩
 ·rw [if_neg e, if_neg e, if_neg e, if_neg e]; exact h i (by omega)
theorem dil_vals {N k k2 : Nat} {H H2 : Hds} {day : Int} {P : Nat} {o o2 : Nat → Bool} {x y : Nat → Rat} (hv : H.valid N k) (hv2 : H2.valid N k2) (hP : P < N) (hP0 : P ≠ 0)
  (ho : Graph.Plain.IsReach N (inner fun h e => H.at (h : Nat) (e : Nat) day k) (direct N (dirE N fun h e => H.at (h : Nat) (e : Nat) day k)) o) (hx : Sol N (fun h e => H.at (h : Nat) (e : Nat) day k) (dirE N fun h e => H.at (h : Nat) (e : Nat) day k) o x)
  (ho2 : Graph.Plain.IsReach N (inner fun h e => H2.at (h : Nat) (e : Nat) day k2) (direct N (dirE N fun h e => H2.at (h : Nat) (e : Nat) day k2)) o2) (hy : Sol N (fun h e => H2.at (h : Nat) (e : Nat) day k2) (dirE N fun h e => H2.at (h : Nat) (e : Nat) day k2) o2 y)
  (hz : x P = 0) (hat : ∀ hh ee day, (P : Int) ≠ hh → H2.at hh ee day k2 = H.at hh ee day k) : ∀ e, e < N → x e = y e := by
 have hp : o P = false := by
  cases q : o P
  ·rfl
  ·have := (Sol.pos_iffD (dirE_shares (at_shares hv)) ho hx hP).2 q
   rw [hz] at this
   exact absurd this (by decide)
 refine dil_same (dirE_shares (at_shares hv2)) ho hx ho2 hy hP hp (fun a b _ _ hne => hat _ _ _ (by omega)) (fun e he => ?_)
 show (if e = 0 then 0 else H2.at ((0 : Nat) : Int) (e : Nat) day k2) = if e = 0 then 0 else H.at ((0 : Nat) : Int) (e : Nat) day k
 rw [hat _ _ _ (by omega)]
set_option maxHeartbeats 8000000 in
set_option maxRecDepth 100000 in
theorem lawDil_any {w : World} {v : Value} {k : Nat} {n p q d s : Int} {H : Hds} (h : HoldIn w v k H) (hp : (Lit.int .i64 p).wf = true) (hq : (Lit.int .i64 q).wf = true) (hd : (Lit.int .i64 d).wf = true) (hs : (Lit.int .i64 s).wf = true) (ht : Tab w) :
  Calls Tryz.prog 3 #[.int .i64 n, v, .agg #[.int .i64 p, .int .i64 q, .int .i64 d, .int .i64 s]] w fun e w' => e = .returned (.bool true) ∧ Below w.heap.size w w' := by
 obtain ⟨⟨a, c, rfl, hkc⟩, hh, hw⟩ := h
 obtain ⟨X, hX⟩ : ∃ X, X = extH H k p q d s := ⟨_, rfl⟩
 have e1 : p = X.ho k := by rw [hX]; exact (if_pos rfl).symm
 have e2 : q = X.en k := by rw [hX]; exact (if_pos rfl).symm
 have e3 : d = X.da k := by rw [hX]; exact (if_pos rfl).symm
 have e4 : s = X.sh k := by rw [hX]; exact (if_pos rfl).symm
 have HH := Lib.hid (show k ≤ 30 → HoldR w (.slice a k c) k X from fun h => by rw [hX]; exact (hh h).ext)
 have HW := Lib.hid (show Hwf X (k + 1) from by rw [hX]; exact extH_wf hw hp hq hd hs)
 have HWk := Lib.hid (show Hwf X k from fun i hi => HW.out i (by omega))
 have HT := Lib.hid ht
 clear hh hw ht hp hq hd hs hX
 subst e1 e2 e3 e4
 go_enter Tryz.func3, Tryz.ntmps3
 go_wp2_with fail
 obtain ⟨W1, hW, hs, hb, b0⟩ := alloc1 w (.cells #[.int .i64 (X.ho k), .int .i64 (X.en k), .int .i64 (X.da k), .int .i64 (X.sh k)] 24)
 rw [← hW]
 have HX1 := Lib.hid b0
 have HB1 := Lib.hid hb
 clear hW hs hb b0
 refine (tawake_any (HT.out.below HB1.out)).mono ?_
 rintro en w2 ⟨rfl, hb2⟩
 have HX2 := Lib.hid (blk_next HX1.out hb2)
 have HB2 := Lib.hid (bt HB1.out hb2)
 clear hb2 HX1 HB1
 by_cases hn8 : n ≤ 8
 case neg =>
  have q1 : (8 : Int) < n := by omega
  go_wp2_with (go_at_call 15; (with_reducible refine (tawake_any (HT.out.below HB2.out)).mono ?_); rintro en w3 ⟨rfl, hb3⟩; have HB3 := Lib.hid (bt HB2.out hb3); clear hb3)
  go_ret
  exact ⟨rfl, HB3.out⟩
 have q1 : ¬ (8 : Int) < n := by omega
 by_cases hk30 : k ≤ 30
 case neg =>
  have q2 : (30 : Int) < (k : Int) := by omega
  go_wp2_with (go_at_call 15; (with_reducible refine (tawake_any (HT.out.below HB2.out)).mono ?_); rintro en w3 ⟨rfl, hb3⟩; have HB3 := Lib.hid (bt HB2.out hb3); clear hb3)
  go_ret
  exact ⟨rfl, HB3.out⟩
 have q2 : ¬ (30 : Int) < (k : Int) := by omega
 have HH2 := Lib.hid ((HH.out hk30).below HB2.out)
 obtain ⟨c0, c1, c2, c3⟩ := cells4 HX2.out
 clear HH
 by_cases hv : X.valid n k
 case neg =>
  have HV := Lib.hid hv
  clear hv
  go_wp2_with fail
  refine (eff_no1 HH2.out HWk.out HV.out).mono ?_
  rintro en w3 ⟨rfl, hb3⟩
  have HX3 := Lib.hid (blk_next HX2.out hb3)
  have HB3 := Lib.hid (bt HB2.out hb3)
  have HH3 := Lib.hid (HH2.out.below hb3)
  clear hb3 c0 c1 c2 c3
  obtain ⟨c0, c1, c2, c3⟩ := cells4 HX3.out
  go_wp2_with fail
  refine (set_any HH3.out HW.out hk30).mono ?_
  rintro en w4 hset
  rcases hset with ⟨cc, rfl, hc0, hb4⟩ | ⟨am, cm, k2, H2, rfl, hh2, hwf2, hv2, hat, hk31, hb4⟩
  ·have HB4 := Lib.hid (bt HB3.out hb4)
   clear hb4 hc0 c0 c1 c2 c3
   go_wp2_with fail
   go_quiet (fail)
   go_wp2
   go_ret
   exact ⟨rfl, Below.drewN' HB4.out _⟩
  ·have HB4 := Lib.hid (bt HB3.out hb4)
   clear hb4 hh2 hwf2 hv2 hat c0 c1 c2 c3
   go_wp2_with fail
   go_quiet (fail)
   go_wp2
   go_ret
   exact ⟨rfl, Below.drewN' HB4.out _⟩
 by_cases hd : goodDate (X.da k)
 case neg =>
  have HV := Lib.hid hv
  have HD := Lib.hid hd
  clear hv hd
  go_wp2_with fail
  refine (eff_no2 HH2.out HWk.out HV.out HD.out).mono ?_
  rintro en w3 ⟨rfl, hb3⟩
  have HX3 := Lib.hid (blk_next HX2.out hb3)
  have HB3 := Lib.hid (bt HB2.out hb3)
  have HH3 := Lib.hid (HH2.out.below hb3)
  clear hb3 c0 c1 c2 c3
  obtain ⟨c0, c1, c2, c3⟩ := cells4 HX3.out
  go_wp2_with fail
  refine (set_any HH3.out HW.out hk30).mono ?_
  rintro en w4 hset
  rcases hset with ⟨cc, rfl, hc0, hb4⟩ | ⟨am, cm, k2, H2, rfl, hh2, hwf2, hv2, hat, hk31, hb4⟩
  ·have HB4 := Lib.hid (bt HB3.out hb4)
   clear hb4 hc0 c0 c1 c2 c3
   go_wp2_with fail
   go_quiet (fail)
   go_wp2
   go_ret
   exact ⟨rfl, Below.drewN' HB4.out _⟩
  ·have HB4 := Lib.hid (bt HB3.out hb4)
   clear hb4 hh2 hwf2 hv2 hat c0 c1 c2 c3
   go_wp2_with fail
   go_quiet (fail)
   go_wp2
   go_ret
   exact ⟨rfl, Below.drewN' HB4.out _⟩
 obtain ⟨N, rfl⟩ : ∃ N : Nat, n = N := ⟨n.toNat, by have := hv.1; omega⟩
 have hN1 : 1 ≤ N := by have := hv.1; omega
 have hN2 : N ≤ 12 := by have := hv.2.1; omega
 have HV := Lib.hid hv
 have HD := Lib.hid hd
 clear hv hd
 go_wp2_with fail
 refine (eff_yes HH2.out HWk.out HV.out HD.out).mono ?_
 rintro en w3 ⟨ax, cx, o, x, rfl, ho, hx, hg, hr, hb3⟩
 have HX3 := Lib.hid (blk_next HX2.out hb3)
 have HB3 := Lib.hid (bt HB2.out hb3)
 have HH3 := Lib.hid (HH2.out.below hb3)
 have HO := Lib.hid ho
 have HXS := Lib.hid hx
 have HG := Lib.hid hg
 have HR := Lib.hid hr
 clear ho hx hg hr hb3 c0 c1 c2 c3 HX2 HB2 HH2
 obtain ⟨c0, c1, c2, c3⟩ := cells4 HX3.out
 go_wp2_with fail
 refine (set_any HH3.out HW.out hk30).mono ?_
 rintro en w4 hset
 rcases hset with ⟨cc, rfl, hc0, hb4⟩ | ⟨am, cm, k2, H2, rfl, hh2, hwf2, hv2, hat, hk31, hb4⟩
 ·have HB4 := Lib.hid (bt HB3.out hb4)
  have hcb : (cc != 0) = true := bne_iff_ne.2 hc0
  have hcc : (cc == 0) = false := by rw [beq_eq_false_iff_ne]; exact hc0
  clear hb4 hc0 c0 c1 c2 c3
  go_wp2_with fail
  go_quiet (fail)
  go_wp2
  go_ret
  exact ⟨rfl, Below.drewN' HB4.out _⟩
 have HX4 := Lib.hid (blk_next HX3.out hb4)
 have HB4 := Lib.hid (bt HB3.out hb4)
 have HH4 := Lib.hid (HH3.out.below hb4)
 have HR4 := Lib.hid (HR.out.below hb4)
 have HH2 := Lib.hid hh2
 have HWF2 := Lib.hid hwf2
 have HV2 := Lib.hid hv2
 have HAT := Lib.hid hat
 clear hb4 hh2 hwf2 hv2 hat c0 c1 c2 c3 HX3 HB3 HH3 HR
 obtain ⟨c0, c1, c2, c3⟩ := cells4 HX4.out
 by_cases hp0 : 0 ≤ X.ho k
 case neg =>
  have r1 : X.ho k < 0 := by omega
  go_wp2_with fail
  go_quiet (fail)
  go_wp2
  go_ret
  exact ⟨rfl, Below.drewN' HB4.out _⟩
 have r1 : ¬ X.ho k < 0 := by omega
 have r1d : decide (X.ho k < 0) = false := decide_eq_false r1
 by_cases hpN : X.ho k < (N : Int)
 case neg =>
  have r2 : (N : Int) ≤ X.ho k := by omega
  go_wp2_with fail
  go_quiet (fail)
  go_wp2
  go_ret
  exact ⟨rfl, Below.drewN' HB4.out _⟩
 have r2 : ¬ (N : Int) ≤ X.ho k := by omega
 have r2d : decide ((N : Int) ≤ X.ho k) = false := decide_eq_false r2
 obtain ⟨P, hP⟩ : ∃ P : Nat, X.ho k = P := ⟨(X.ho k).toNat, by omega⟩
 have hPN : P < N := by omega
 obtain ⟨_, _, bx, ox, p3, p4⟩ := HR4.out.parts
 obtain rfl := p3 (by omega)
 obtain ⟨xe, ⟨x0, x1, x2, x3⟩, hxq⟩ := p4 P hPN
 have HXE := Lib.hid (show RatR w4 (.agg #[.bool xe.n1, .slice xe.a1 xe.k1 xe.c1, .bool xe.n2, .slice xe.a2 xe.k2 xe.c2]) (if P = 0 then (1 : Rat) else x P) from hxq)
 clear hxq p3 p4
 have hPi : (P : Int) < (N : Int) := by omega
 have hP0 : ¬ (P : Int) < 0 := by omega
 have r3d : decide ((P : Int) < 0) = false := decide_eq_false hP0
 have r4 : ¬ (N : Int) ≤ (P : Int) := by omega
 have r4d : decide ((N : Int) ≤ (P : Int)) = false := decide_eq_false r4
 have r5 : ¬ N ≤ P := by omega
 have r5d : decide (N ≤ P) = false := decide_eq_false r5
 by_cases hz : (if P = 0 then (1 : Rat) else x P) = 0
 case neg =>
  obtain ⟨sg, hsg⟩ : ∃ sg, ((if P = 0 then (1 : Rat) else x P)).num.sign = sg := ⟨_, rfl⟩
  have HSG := Lib.hid hsg
  have hks : (sg == 0) = false := by
   rw [beq_eq_false_iff_ne, ← hsg]
   intro e
   exact hz (Rat.num_eq_zero.1 (Int.sign_eq_zero_iff_zero.1 e))
  have hks2 : (sg != 0) = true := by rw [bne, hks]; rfl
  clear hz hsg
  go_wp2_with fail
  have Yc0 := Lib.hid c0
  have Yc1 := Lib.hid c1
  have Yc2 := Lib.hid c2
  have Yc3 := Lib.hid c3
  have Yx0 := Lib.hid x0
  have Yx1 := Lib.hid x1
  have Yx2 := Lib.hid x2
  have Yx3 := Lib.hid x3
  clear c0 c1 c2 c3 x0 x1 x2 x3
  have HLS := Lib.hid (fun (w' : World) (hb : Below w4.heap.size w4 w') => (⟨keepc hb Yc0.out, keepc hb Yc1.out, keepc hb Yc2.out, keepc hb Yc3.out, keepc hb Yx0.out, keepc hb Yx1.out, keepc hb Yx2.out, keepc hb Yx3.out⟩ : w'.cell? ⟨w.heap.size, 0, none⟩ = some (.int .i64 (X.ho k)) ∧ w'.cell? ⟨w.heap.size, 1, none⟩ = some (.int .i64 (X.en k)) ∧ w'.cell? ⟨w.heap.size, 2, none⟩ = some (.int .i64 (X.da k)) ∧ w'.cell? ⟨w.heap.size, 3, none⟩ = some (.int .i64 (X.sh k)) ∧ w'.cell? ⟨bx, ox + P * 4, none⟩ = some (.bool xe.n1) ∧ w'.cell? ⟨bx, ox + P * 4 + 1, none⟩ = some (.slice xe.a1 xe.k1 xe.c1) ∧ w'.cell? ⟨bx, ox + P * 4 + 2, none⟩ = some (.bool xe.n2) ∧ w'.cell? ⟨bx, ox + P * 4 + 3, none⟩ = some (.slice xe.a2 xe.k2 xe.c2)))
  have HDR := Lib.hid (Below.drew (Below.refl w4.heap.size w4))
  refine wp_region_held_drew (S := fun w' => w'.cell? ⟨w.heap.size, 0, none⟩ = some (.int .i64 (X.ho k)) ∧ w'.cell? ⟨w.heap.size, 1, none⟩ = some (.int .i64 (X.en k)) ∧ w'.cell? ⟨w.heap.size, 2, none⟩ = some (.int .i64 (X.da k)) ∧ w'.cell? ⟨w.heap.size, 3, none⟩ = some (.int .i64 (X.sh k)) ∧ w'.cell? ⟨bx, ox + P * 4, none⟩ = some (.bool xe.n1) ∧ w'.cell? ⟨bx, ox + P * 4 + 1, none⟩ = some (.slice xe.a1 xe.k1 xe.c1) ∧ w'.cell? ⟨bx, ox + P * 4 + 2, none⟩ = some (.bool xe.n2) ∧ w'.cell? ⟨bx, ox + P * 4 + 3, none⟩ = some (.slice xe.a2 xe.k2 xe.c2)) (by kernel_rfl) ?_ (fun hHeld => ?_)
  ·exact HLS.out _ HDR.out
  (try dsimp only at hHeld)
  refine wpAnyH_take (i := 0) (oi := (⟨some 49, .move (.tmp 8), 27, "top26.go:60", #[], none⟩ : Oper)) (v := ?y1_1_v) rfl (by kernel_rfl) (by kernel_rfl) (by kernel_rfl) (fun _ _ _ h => h) (Or.inl ⟨by rfl, ?y1_1_h⟩) hHeld ?y1_1_r
  case y1_1_h => (intro w hSw; (try dsimp only at hSw); go_simp; all_goals with_reducible rfl)
  (try simp only [Act.put, List.setIfInBounds_toArray, List.set_cons_zero, List.set_cons_succ])
  refine wpAnyH_take (i := 1) (oi := (⟨some 50, .binOp .neq 27 (.tmp 49) (.const (.int .i64 0)) 27, 4, "top26.go:60", #[⟨0, .data⟩], none⟩ : Oper)) (v := ?y1_2_v) rfl (by kernel_rfl) (by kernel_rfl) (by kernel_rfl) (fun _ _ _ h => h) (Or.inl ⟨by rfl, ?y1_2_h⟩) hHeld ?y1_2_r
  case y1_2_h => (intro w hSw; (try dsimp only at hSw); go_simp; all_goals with_reducible rfl)
  (try simp only [Act.put, List.setIfInBounds_toArray, List.set_cons_zero, List.set_cons_succ])
  refine wpAnyH_take (i := 2) (oi := (⟨some 51, .move (.tmp 50), 4, "top26.go:60", #[⟨1, .data⟩], none⟩ : Oper)) (v := ?y1_3_v) rfl (by kernel_rfl) (by kernel_rfl) (by kernel_rfl) (fun _ _ _ h => h) (Or.inl ⟨by rfl, ?y1_3_h⟩) hHeld ?y1_3_r
  case y1_3_h => (intro w hSw; (try dsimp only at hSw); go_simp; all_goals with_reducible rfl)
  (try simp only [Act.put, List.setIfInBounds_toArray, List.set_cons_zero, List.set_cons_succ])
  refine wpAnyH_take (i := 3) (oi := (⟨some 52, .move (.tmp 10), 27, "top26.go:60", #[⟨2, .guard⟩], some (2, false)⟩ : Oper)) (v := ?y1_4_v) rfl (by kernel_rfl) (by kernel_rfl) (by kernel_rfl) (fun _ _ _ h => h) (Or.inl ⟨by rfl, ?y1_4_h⟩) hHeld ?y1_4_r
  case y1_4_h => (intro w hSw; (try dsimp only at hSw); go_simp; all_goals with_reducible rfl)
  (try simp only [Act.put, List.setIfInBounds_toArray, List.set_cons_zero, List.set_cons_succ])
  refine wpAnyH_take (i := 4) (oi := (⟨some 53, .binOp .neq 27 (.tmp 52) (.const (.int .i64 0)) 27, 4, "top26.go:60", #[⟨3, .data⟩, ⟨2, .guard⟩], some (2, false)⟩ : Oper)) (v := ?y1_5_v) rfl (by kernel_rfl) (by kernel_rfl) (by kernel_rfl) (fun _ _ _ h => h) (Or.inl ⟨by rfl, ?y1_5_h⟩) hHeld ?y1_5_r
  case y1_5_h => (intro w hSw; (try dsimp only at hSw); go_simp; all_goals with_reducible rfl)
  (try simp only [Act.put, List.setIfInBounds_toArray, List.set_cons_zero, List.set_cons_succ])
  refine wpAnyH_take (i := 5) (oi := (⟨some 54, .pick (.tmp 51) (.const (.bool true)) (.tmp 53), 4, "top26.go:60", #[⟨2, .data⟩, ⟨4, .data⟩], none⟩ : Oper)) (v := ?y1_6_v) rfl (by kernel_rfl) (by kernel_rfl) (by kernel_rfl) (fun _ _ _ h => h) (Or.inl ⟨by rfl, ?y1_6_h⟩) hHeld ?y1_6_r
  case y1_6_h => (intro w hSw; (try dsimp only at hSw); go_simp; all_goals with_reducible rfl)
  (try simp only [Act.put, List.setIfInBounds_toArray, List.set_cons_zero, List.set_cons_succ])
  refine wpAnyH_take (i := 6) (oi := (⟨some 55, .move (.tmp 54), 4, "top26.go:60", #[⟨5, .data⟩, ⟨2, .chain⟩], none⟩ : Oper)) (v := ?y1_7_v) rfl (by kernel_rfl) (by kernel_rfl) (by kernel_rfl) (fun _ _ _ h => h) (Or.inl ⟨by rfl, ?y1_7_h⟩) hHeld ?y1_7_r
  case y1_7_h => (intro w hSw; (try dsimp only at hSw); go_simp; all_goals with_reducible rfl)
  (try simp only [Act.put, List.setIfInBounds_toArray, List.set_cons_zero, List.set_cons_succ])
  refine wpAnyH_take (i := 7) (oi := (⟨some 56, .fieldAddr 24 (.tmp 5) 0, 0, "top26.go:60", #[⟨6, .guard⟩], some (6, false)⟩ : Oper)) (v := ?y1_8_v) rfl (by kernel_rfl) (by kernel_rfl) (by kernel_rfl) (fun _ _ _ h => h) (Or.inl ⟨by rfl, ?y1_8_h⟩) hHeld ?y1_8_r
  case y1_8_h => (intro w hSw; (try dsimp only at hSw); go_simp; all_goals with_reducible rfl)
  (try simp only [Act.put, List.setIfInBounds_toArray, List.set_cons_zero, List.set_cons_succ])
  refine wpAnyH_take (i := 8) (oi := (⟨some 57, .load 3 (.tmp 56), 3, "top26.go:60", #[⟨7, .data⟩, ⟨6, .guard⟩], some (6, false)⟩ : Oper)) (v := ?y1_9_v) rfl (by kernel_rfl) (by kernel_rfl) (by kernel_rfl) (fun _ _ _ h => h) (Or.inl ⟨by rfl, ?y1_9_h⟩) hHeld ?y1_9_r
  case y1_9_h => (intro w hSw; (try dsimp only at hSw); go_simp; all_goals with_reducible rfl)
  (try simp only [Act.put, List.setIfInBounds_toArray, List.set_cons_zero, List.set_cons_succ])
  refine wpAnyH_take (i := 9) (oi := (⟨some 58, .binOp .lss 3 (.tmp 57) (.const (.int .i64 0)) 3, 4, "top26.go:60", #[⟨8, .data⟩, ⟨6, .guard⟩], some (6, false)⟩ : Oper)) (v := ?y1_10_v) rfl (by kernel_rfl) (by kernel_rfl) (by kernel_rfl) (fun _ _ _ h => h) (Or.inl ⟨by rfl, ?y1_10_h⟩) hHeld ?y1_10_r
  case y1_10_h => (intro w hSw; (try dsimp only at hSw); go_simp; all_goals with_reducible rfl)
  (try simp only [Act.put, List.setIfInBounds_toArray, List.set_cons_zero, List.set_cons_succ])
  refine wpAnyH_take (i := 10) (oi := (⟨some 59, .pick (.tmp 55) (.const (.bool true)) (.tmp 58), 4, "top26.go:60", #[⟨6, .data⟩, ⟨9, .data⟩], none⟩ : Oper)) (v := ?y1_11_v) rfl (by kernel_rfl) (by kernel_rfl) (by kernel_rfl) (fun _ _ _ h => h) (Or.inl ⟨by rfl, ?y1_11_h⟩) hHeld ?y1_11_r
  case y1_11_h => (intro w hSw; (try dsimp only at hSw); go_simp; all_goals with_reducible rfl)
  (try simp only [Act.put, List.setIfInBounds_toArray, List.set_cons_zero, List.set_cons_succ])
  refine wpAnyH_take (i := 11) (oi := (⟨some 60, .move (.tmp 59), 4, "top26.go:60", #[⟨10, .data⟩, ⟨6, .chain⟩], none⟩ : Oper)) (v := ?y1_12_v) rfl (by kernel_rfl) (by kernel_rfl) (by kernel_rfl) (fun _ _ _ h => h) (Or.inl ⟨by rfl, ?y1_12_h⟩) hHeld ?y1_12_r
  case y1_12_h => (intro w hSw; (try dsimp only at hSw); go_simp; all_goals with_reducible rfl)
  (try simp only [Act.put, List.setIfInBounds_toArray, List.set_cons_zero, List.set_cons_succ])
  refine wpAnyH_take (i := 12) (oi := (⟨some 61, .fieldAddr 24 (.tmp 5) 0, 0, "top26.go:60", #[⟨11, .guard⟩], some (11, false)⟩ : Oper)) (v := ?y1_13_v) rfl (by kernel_rfl) (by kernel_rfl) (by kernel_rfl) (fun _ _ _ h => h) (Or.inl ⟨by rfl, ?y1_13_h⟩) hHeld ?y1_13_r
  case y1_13_h => (intro w hSw; (try dsimp only at hSw); go_simp; all_goals with_reducible rfl)
  (try simp only [Act.put, List.setIfInBounds_toArray, List.set_cons_zero, List.set_cons_succ])
  refine wpAnyH_take (i := 13) (oi := (⟨some 62, .load 3 (.tmp 61), 3, "top26.go:60", #[⟨12, .data⟩, ⟨11, .guard⟩], some (11, false)⟩ : Oper)) (v := ?y1_14_v) rfl (by kernel_rfl) (by kernel_rfl) (by kernel_rfl) (fun _ _ _ h => h) (Or.inl ⟨by rfl, ?y1_14_h⟩) hHeld ?y1_14_r
  case y1_14_h => (intro w hSw; (try dsimp only at hSw); go_simp; all_goals with_reducible rfl)
  (try simp only [Act.put, List.setIfInBounds_toArray, List.set_cons_zero, List.set_cons_succ])
  refine wpAnyH_take (i := 14) (oi := (⟨some 63, .move (.tmp 0), 3, "top26.go:60", #[⟨11, .guard⟩], some (11, false)⟩ : Oper)) (v := ?y1_15_v) rfl (by kernel_rfl) (by kernel_rfl) (by kernel_rfl) (fun _ _ _ h => h) (Or.inl ⟨by rfl, ?y1_15_h⟩) hHeld ?y1_15_r
  case y1_15_h => (intro w hSw; (try dsimp only at hSw); go_simp; all_goals with_reducible rfl)
  (try simp only [Act.put, List.setIfInBounds_toArray, List.set_cons_zero, List.set_cons_succ])
  refine wpAnyH_take (i := 15) (oi := (⟨some 64, .binOp .geq 3 (.tmp 62) (.tmp 63) 3, 4, "top26.go:60", #[⟨13, .data⟩, ⟨14, .data⟩, ⟨11, .guard⟩], some (11, false)⟩ : Oper)) (v := ?y1_16_v) rfl (by kernel_rfl) (by kernel_rfl) (by kernel_rfl) (fun _ _ _ h => h) (Or.inl ⟨by rfl, ?y1_16_h⟩) hHeld ?y1_16_r
  case y1_16_h => (intro w hSw; (try dsimp only at hSw); go_simp; all_goals with_reducible rfl)
  (try simp only [Act.put, List.setIfInBounds_toArray, List.set_cons_zero, List.set_cons_succ])
  refine wpAnyH_take (i := 16) (oi := (⟨some 65, .pick (.tmp 60) (.const (.bool true)) (.tmp 64), 4, "top26.go:60", #[⟨11, .data⟩, ⟨15, .data⟩], none⟩ : Oper)) (v := ?y1_17_v) rfl (by kernel_rfl) (by kernel_rfl) (by kernel_rfl) (fun _ _ _ h => h) (Or.inl ⟨by rfl, ?y1_17_h⟩) hHeld ?y1_17_r
  case y1_17_h => (intro w hSw; (try dsimp only at hSw); go_simp; all_goals with_reducible rfl)
  (try simp only [Act.put, List.setIfInBounds_toArray, List.set_cons_zero, List.set_cons_succ])
  refine wpAnyH_take (i := 17) (oi := (⟨some 66, .move (.tmp 65), 4, "top26.go:60", #[⟨16, .data⟩, ⟨11, .chain⟩], none⟩ : Oper)) (v := ?y1_18_v) rfl (by kernel_rfl) (by kernel_rfl) (by kernel_rfl) (fun _ _ _ h => h) (Or.inl ⟨by rfl, ?y1_18_h⟩) hHeld ?y1_18_r
  case y1_18_h => (intro w hSw; (try dsimp only at hSw); go_simp; all_goals with_reducible rfl)
  (try simp only [Act.put, List.setIfInBounds_toArray, List.set_cons_zero, List.set_cons_succ])
  refine wpAnyH_take (i := 18) (oi := (⟨some 67, .move (.tmp 7), 26, "top26.go:60", #[⟨17, .guard⟩], some (17, false)⟩ : Oper)) (v := ?y1_19_v) rfl (by kernel_rfl) (by kernel_rfl) (by kernel_rfl) (fun _ _ _ h => h) (Or.inl ⟨by rfl, ?y1_19_h⟩) hHeld ?y1_19_r
  case y1_19_h => (intro w hSw; (try dsimp only at hSw); go_simp; all_goals with_reducible rfl)
  (try simp only [Act.put, List.setIfInBounds_toArray, List.set_cons_zero, List.set_cons_succ])
  refine wpAnyH_take (i := 19) (oi := (⟨some 68, .fieldAddr 24 (.tmp 5) 0, 0, "top26.go:60", #[⟨17, .guard⟩], some (17, false)⟩ : Oper)) (v := ?y1_20_v) rfl (by kernel_rfl) (by kernel_rfl) (by kernel_rfl) (fun _ _ _ h => h) (Or.inl ⟨by rfl, ?y1_20_h⟩) hHeld ?y1_20_r
  case y1_20_h => (intro w hSw; (try dsimp only at hSw); go_simp; all_goals with_reducible rfl)
  (try simp only [Act.put, List.setIfInBounds_toArray, List.set_cons_zero, List.set_cons_succ])
  refine wpAnyH_take (i := 20) (oi := (⟨some 69, .load 3 (.tmp 68), 3, "top26.go:60", #[⟨19, .data⟩, ⟨17, .guard⟩], some (17, false)⟩ : Oper)) (v := ?y1_21_v) rfl (by kernel_rfl) (by kernel_rfl) (by kernel_rfl) (fun _ _ _ h => h) (Or.inl ⟨by rfl, ?y1_21_h⟩) hHeld ?y1_21_r
  case y1_21_h => (intro w hSw; (try dsimp only at hSw); go_simp; all_goals with_reducible rfl)
  (try simp only [Act.put, List.setIfInBounds_toArray, List.set_cons_zero, List.set_cons_succ])
  refine wpAnyH_take (i := 21) (oi := (⟨some 70, .indexAddr 26 (.tmp 67) (.tmp 69), 0, "top26.go:60", #[⟨18, .data⟩, ⟨20, .data⟩, ⟨17, .guard⟩], some (17, false)⟩ : Oper)) (v := ?y1_22_v) rfl (by kernel_rfl) (by kernel_rfl) (by kernel_rfl) (fun _ _ _ h => h) (Or.inl ⟨by rfl, ?y1_22_h⟩) hHeld ?y1_22_r
  case y1_22_h => (intro w hSw; (try dsimp only at hSw); go_simp; all_goals with_reducible rfl)
  (try simp only [Act.put, List.setIfInBounds_toArray, List.set_cons_zero, List.set_cons_succ])
  refine wpAnyH_take (i := 22) (oi := (⟨some 71, .load 37 (.tmp 70), 37, "top26.go:60", #[⟨21, .data⟩, ⟨17, .guard⟩], some (17, false)⟩ : Oper)) (v := ?y1_23_v) rfl (by kernel_rfl) (by kernel_rfl) (by kernel_rfl) (fun _ _ _ h => h) (Or.inl ⟨by rfl, ?y1_23_h⟩) hHeld ?y1_23_r
  case y1_23_h => (intro w hSw; (try dsimp only at hSw); go_simp; all_goals with_reducible rfl)
  (try simp only [Act.put, List.setIfInBounds_toArray, List.set_cons_zero, List.set_cons_succ])
  refine wpAnyH_ready (rs := [23]) (by kernel_rfl) (by simp) ?_
  refine AllReadyH.cons (o := (⟨some 72, .call { callee := .value (.func 18), args := #[.tmp 71], argTypes := #[37] }, 3, "top26.go:60", #[⟨22, .data⟩, ⟨17, .chain⟩, ⟨17, .guard⟩], some (17, false)⟩ : Oper)) rfl (fun K hK => ?_) AllReadyH.nil
  go_simp
  (go_at_call 18; (with_reducible refine (ratsign_any (RatR.below HXE.out HDR.out)).mono ?_); rintro en u1 ⟨rfl, hb⟩; rw [HSG.out]; have HZ23 := Lib.hid (bt HDR.out hb); clear hb)
  first | refine hK.out _ _ ?_ (fun hHeld => ?_) | (go_wp2_with fail; refine hK.out _ _ ?_ (fun hHeld => ?_))
  ·exact HLS.out _ HZ23.out
  clear hK K
  (try dsimp only at hHeld)
  (try simp only [Act.put, List.setIfInBounds_toArray, List.set_cons_zero, List.set_cons_succ])
  refine wpAnyH_take (i := 24) (oi := (⟨some 73, .binOp .neq 3 (.tmp 72) (.const (.int .i64 0)) 3, 4, "top26.go:60", #[⟨23, .data⟩, ⟨17, .guard⟩], some (17, false)⟩ : Oper)) (v := ?y1_24_v) rfl (by kernel_rfl) (by kernel_rfl) (by kernel_rfl) (fun _ _ _ h => h) (Or.inl ⟨by rfl, ?y1_24_h⟩) hHeld ?y1_24_r
  case y1_24_h => (intro w hSw; (try dsimp only at hSw); go_simp; all_goals with_reducible rfl)
  (try simp only [Act.put, List.setIfInBounds_toArray, List.set_cons_zero, List.set_cons_succ])
  refine wpAnyH_take (i := 25) (oi := (⟨some 74, .pick (.tmp 66) (.const (.bool true)) (.tmp 73), 4, "top26.go:60", #[⟨17, .data⟩, ⟨24, .data⟩], none⟩ : Oper)) (v := ?y1_25_v) rfl (by kernel_rfl) (by kernel_rfl) (by kernel_rfl) (fun _ _ _ h => h) (Or.inl ⟨by rfl, ?y1_25_h⟩) hHeld ?y1_25_r
  case y1_25_h => (intro w hSw; (try dsimp only at hSw); go_simp; all_goals with_reducible rfl)
  (try simp only [Act.put, List.setIfInBounds_toArray, List.set_cons_zero, List.set_cons_succ])
  refine wpAnyH_take (i := 26) (oi := (⟨some 75, .move (.tmp 74), 4, "top26.go:60", #[⟨25, .data⟩, ⟨23, .chain⟩], none⟩ : Oper)) (v := ?y1_26_v) rfl (by kernel_rfl) (by kernel_rfl) (by kernel_rfl) (fun _ _ _ h => h) (Or.inl ⟨by rfl, ?y1_26_h⟩) hHeld ?y1_26_r
  case y1_26_h => (intro w hSw; (try dsimp only at hSw); go_simp; all_goals with_reducible rfl)
  (try simp only [Act.put, List.setIfInBounds_toArray, List.set_cons_zero, List.set_cons_succ])
  refine wpAnyH_take (i := 27) (oi := (⟨some 76, .fieldAddr 24 (.tmp 5) 3, 0, "top26.go:60", #[⟨26, .guard⟩], some (26, false)⟩ : Oper)) (v := undef) rfl (by kernel_rfl) (by kernel_rfl) (by kernel_rfl) (fun _ _ _ h => h) (Or.inr ⟨by rfl, rfl⟩) hHeld ?_
  (try simp only [Act.put, List.setIfInBounds_toArray, List.set_cons_zero, List.set_cons_succ])
  refine wpAnyH_take (i := 28) (oi := (⟨some 77, .load 3 (.tmp 76), 3, "top26.go:60", #[⟨27, .data⟩, ⟨26, .guard⟩], some (26, false)⟩ : Oper)) (v := undef) rfl (by kernel_rfl) (by kernel_rfl) (by kernel_rfl) (fun _ _ _ h => h) (Or.inr ⟨by rfl, rfl⟩) hHeld ?_
  (try simp only [Act.put, List.setIfInBounds_toArray, List.set_cons_zero, List.set_cons_succ])
  refine wpAnyH_take (i := 29) (oi := (⟨some 78, .move (.tmp 1), 22, "top26.go:60", #[⟨26, .guard⟩], some (26, false)⟩ : Oper)) (v := undef) rfl (by kernel_rfl) (by kernel_rfl) (by kernel_rfl) (fun _ _ _ h => h) (Or.inr ⟨by rfl, rfl⟩) hHeld ?_
  (try simp only [Act.put, List.setIfInBounds_toArray, List.set_cons_zero, List.set_cons_succ])
  refine wpAnyH_take (i := 30) (oi := (⟨some 79, .fieldAddr 24 (.tmp 5) 0, 0, "top26.go:60", #[⟨26, .guard⟩], some (26, false)⟩ : Oper)) (v := undef) rfl (by kernel_rfl) (by kernel_rfl) (by kernel_rfl) (fun _ _ _ h => h) (Or.inr ⟨by rfl, rfl⟩) hHeld ?_
  (try simp only [Act.put, List.setIfInBounds_toArray, List.set_cons_zero, List.set_cons_succ])
  refine wpAnyH_take (i := 31) (oi := (⟨some 80, .load 3 (.tmp 79), 3, "top26.go:60", #[⟨30, .data⟩, ⟨26, .guard⟩], some (26, false)⟩ : Oper)) (v := undef) rfl (by kernel_rfl) (by kernel_rfl) (by kernel_rfl) (fun _ _ _ h => h) (Or.inr ⟨by rfl, rfl⟩) hHeld ?_
  (try simp only [Act.put, List.setIfInBounds_toArray, List.set_cons_zero, List.set_cons_succ])
  refine wpAnyH_take (i := 32) (oi := (⟨some 81, .fieldAddr 24 (.tmp 5) 1, 0, "top26.go:60", #[⟨26, .guard⟩], some (26, false)⟩ : Oper)) (v := undef) rfl (by kernel_rfl) (by kernel_rfl) (by kernel_rfl) (fun _ _ _ h => h) (Or.inr ⟨by rfl, rfl⟩) hHeld ?_
  (try simp only [Act.put, List.setIfInBounds_toArray, List.set_cons_zero, List.set_cons_succ])
  refine wpAnyH_take (i := 33) (oi := (⟨some 82, .load 3 (.tmp 81), 3, "top26.go:60", #[⟨32, .data⟩, ⟨26, .guard⟩], some (26, false)⟩ : Oper)) (v := undef) rfl (by kernel_rfl) (by kernel_rfl) (by kernel_rfl) (fun _ _ _ h => h) (Or.inr ⟨by rfl, rfl⟩) hHeld ?_
  (try simp only [Act.put, List.setIfInBounds_toArray, List.set_cons_zero, List.set_cons_succ])
  refine wpAnyH_take (i := 34) (oi := (⟨some 83, .fieldAddr 24 (.tmp 5) 2, 0, "top26.go:60", #[⟨26, .guard⟩], some (26, false)⟩ : Oper)) (v := undef) rfl (by kernel_rfl) (by kernel_rfl) (by kernel_rfl) (fun _ _ _ h => h) (Or.inr ⟨by rfl, rfl⟩) hHeld ?_
  (try simp only [Act.put, List.setIfInBounds_toArray, List.set_cons_zero, List.set_cons_succ])
  refine wpAnyH_take (i := 35) (oi := (⟨some 84, .load 3 (.tmp 83), 3, "top26.go:60", #[⟨34, .data⟩, ⟨26, .guard⟩], some (26, false)⟩ : Oper)) (v := undef) rfl (by kernel_rfl) (by kernel_rfl) (by kernel_rfl) (fun _ _ _ h => h) (Or.inr ⟨by rfl, rfl⟩) hHeld ?_
  (try simp only [Act.put, List.setIfInBounds_toArray, List.set_cons_zero, List.set_cons_succ])
  refine wpAnyH_take (i := 36) (oi := (⟨some 85, .call { callee := .value (.func 19), args := #[.tmp 78, .tmp 80, .tmp 82, .tmp 84], argTypes := #[22, 3, 3, 3] }, 3, "top26.go:60", #[⟨29, .data⟩, ⟨31, .data⟩, ⟨33, .data⟩, ⟨35, .data⟩, ⟨26, .chain⟩, ⟨26, .guard⟩], some (26, false)⟩ : Oper)) (v := undef) rfl (by kernel_rfl) (by kernel_rfl) (by kernel_rfl) (fun _ _ _ h => h) (Or.inr ⟨by rfl, rfl⟩) hHeld ?_
  (try simp only [Act.put, List.setIfInBounds_toArray, List.set_cons_zero, List.set_cons_succ])
  refine wpAnyH_take (i := 37) (oi := (⟨some 86, .binOp .lss 3 (.tmp 77) (.tmp 85) 3, 4, "top26.go:60", #[⟨28, .data⟩, ⟨36, .data⟩, ⟨26, .guard⟩], some (26, false)⟩ : Oper)) (v := undef) rfl (by kernel_rfl) (by kernel_rfl) (by kernel_rfl) (fun _ _ _ h => h) (Or.inr ⟨by rfl, rfl⟩) hHeld ?_
  (try simp only [Act.put, List.setIfInBounds_toArray, List.set_cons_zero, List.set_cons_succ])
  refine wpAnyH_take (i := 38) (oi := (⟨some 87, .pick (.tmp 75) (.const (.bool true)) (.tmp 86), 4, "top26.go:60", #[⟨26, .data⟩, ⟨37, .data⟩], none⟩ : Oper)) (v := ?y1_38_v) rfl (by kernel_rfl) (by kernel_rfl) (by kernel_rfl) (fun _ _ _ h => h) (Or.inl ⟨by rfl, ?y1_38_h⟩) hHeld ?y1_38_r
  case y1_38_h => (intro w hSw; (try dsimp only at hSw); go_simp; all_goals with_reducible rfl)
  (try simp only [Act.put, List.setIfInBounds_toArray, List.set_cons_zero, List.set_cons_succ])
  refine wpAnyH_done (by kernel_rfl) ?_ _
  have HBE := Lib.hid (bt HB4.out HZ23.out)
  clear HLS
  go_wp2
  go_ret
  exact ⟨rfl, HBE.out⟩
 have HZ0 := Lib.hid hz
 have HSG := Lib.hid (show ((if P = 0 then (1 : Rat) else x P)).num.sign = 0 from by rw [hz]; rfl)
 have hPne : P ≠ 0 := fun e => by rw [if_pos e] at hz; exact absurd hz (by decide +kernel)
 have HXP := Lib.hid (show x P = 0 from by rw [if_neg hPne] at hz; exact hz)
 clear hz
 obtain ⟨AT, hAT⟩ : ∃ AT, X.at (P : Nat) (X.en k) (X.da k) k = AT := ⟨_, rfl⟩
 have HATV := Lib.hid hAT
 clear hAT
 go_wp2_with fail
 have Yc0 := Lib.hid c0
 have Yc1 := Lib.hid c1
 have Yc2 := Lib.hid c2
 have Yc3 := Lib.hid c3
 have Yx0 := Lib.hid x0
 have Yx1 := Lib.hid x1
 have Yx2 := Lib.hid x2
 have Yx3 := Lib.hid x3
 clear c0 c1 c2 c3 x0 x1 x2 x3
 have HLS := Lib.hid (fun (w' : World) (hb : Below w4.heap.size w4 w') => (⟨keepc hb Yc0.out, keepc hb Yc1.out, keepc hb Yc2.out, keepc hb Yc3.out, keepc hb Yx0.out, keepc hb Yx1.out, keepc hb Yx2.out, keepc hb Yx3.out⟩ : w'.cell? ⟨w.heap.size, 0, none⟩ = some (.int .i64 (X.ho k)) ∧ w'.cell? ⟨w.heap.size, 1, none⟩ = some (.int .i64 (X.en k)) ∧ w'.cell? ⟨w.heap.size, 2, none⟩ = some (.int .i64 (X.da k)) ∧ w'.cell? ⟨w.heap.size, 3, none⟩ = some (.int .i64 (X.sh k)) ∧ w'.cell? ⟨bx, ox + P * 4, none⟩ = some (.bool xe.n1) ∧ w'.cell? ⟨bx, ox + P * 4 + 1, none⟩ = some (.slice xe.a1 xe.k1 xe.c1) ∧ w'.cell? ⟨bx, ox + P * 4 + 2, none⟩ = some (.bool xe.n2) ∧ w'.cell? ⟨bx, ox + P * 4 + 3, none⟩ = some (.slice xe.a2 xe.k2 xe.c2)))
 have HDR := Lib.hid (Below.drew (Below.refl w4.heap.size w4))
 refine wp_region_held_drew (S := fun w' => w'.cell? ⟨w.heap.size, 0, none⟩ = some (.int .i64 (X.ho k)) ∧ w'.cell? ⟨w.heap.size, 1, none⟩ = some (.int .i64 (X.en k)) ∧ w'.cell? ⟨w.heap.size, 2, none⟩ = some (.int .i64 (X.da k)) ∧ w'.cell? ⟨w.heap.size, 3, none⟩ = some (.int .i64 (X.sh k)) ∧ w'.cell? ⟨bx, ox + P * 4, none⟩ = some (.bool xe.n1) ∧ w'.cell? ⟨bx, ox + P * 4 + 1, none⟩ = some (.slice xe.a1 xe.k1 xe.c1) ∧ w'.cell? ⟨bx, ox + P * 4 + 2, none⟩ = some (.bool xe.n2) ∧ w'.cell? ⟨bx, ox + P * 4 + 3, none⟩ = some (.slice xe.a2 xe.k2 xe.c2)) (by kernel_rfl) ?_ (fun hHeld => ?_)
 ·exact HLS.out _ HDR.out
 (try dsimp only at hHeld)
 refine wpAnyH_take (i := 0) (oi := (⟨some 49, .move (.tmp 8), 27, "top26.go:60", #[], none⟩ : Oper)) (v := ?y2_1_v) rfl (by kernel_rfl) (by kernel_rfl) (by kernel_rfl) (fun _ _ _ h => h) (Or.inl ⟨by rfl, ?y2_1_h⟩) hHeld ?y2_1_r
 case y2_1_h => (intro w hSw; (try dsimp only at hSw); go_simp; all_goals with_reducible rfl)
 (try simp only [Act.put, List.setIfInBounds_toArray, List.set_cons_zero, List.set_cons_succ])
 refine wpAnyH_take (i := 1) (oi := (⟨some 50, .binOp .neq 27 (.tmp 49) (.const (.int .i64 0)) 27, 4, "top26.go:60", #[⟨0, .data⟩], none⟩ : Oper)) (v := ?y2_2_v) rfl (by kernel_rfl) (by kernel_rfl) (by kernel_rfl) (fun _ _ _ h => h) (Or.inl ⟨by rfl, ?y2_2_h⟩) hHeld ?y2_2_r
 case y2_2_h => (intro w hSw; (try dsimp only at hSw); go_simp; all_goals with_reducible rfl)
 (try simp only [Act.put, List.setIfInBounds_toArray, List.set_cons_zero, List.set_cons_succ])
 refine wpAnyH_take (i := 2) (oi := (⟨some 51, .move (.tmp 50), 4, "top26.go:60", #[⟨1, .data⟩], none⟩ : Oper)) (v := ?y2_3_v) rfl (by kernel_rfl) (by kernel_rfl) (by kernel_rfl) (fun _ _ _ h => h) (Or.inl ⟨by rfl, ?y2_3_h⟩) hHeld ?y2_3_r
 case y2_3_h => (intro w hSw; (try dsimp only at hSw); go_simp; all_goals with_reducible rfl)
 (try simp only [Act.put, List.setIfInBounds_toArray, List.set_cons_zero, List.set_cons_succ])
 refine wpAnyH_take (i := 3) (oi := (⟨some 52, .move (.tmp 10), 27, "top26.go:60", #[⟨2, .guard⟩], some (2, false)⟩ : Oper)) (v := ?y2_4_v) rfl (by kernel_rfl) (by kernel_rfl) (by kernel_rfl) (fun _ _ _ h => h) (Or.inl ⟨by rfl, ?y2_4_h⟩) hHeld ?y2_4_r
 case y2_4_h => (intro w hSw; (try dsimp only at hSw); go_simp; all_goals with_reducible rfl)
 (try simp only [Act.put, List.setIfInBounds_toArray, List.set_cons_zero, List.set_cons_succ])
 refine wpAnyH_take (i := 4) (oi := (⟨some 53, .binOp .neq 27 (.tmp 52) (.const (.int .i64 0)) 27, 4, "top26.go:60", #[⟨3, .data⟩, ⟨2, .guard⟩], some (2, false)⟩ : Oper)) (v := ?y2_5_v) rfl (by kernel_rfl) (by kernel_rfl) (by kernel_rfl) (fun _ _ _ h => h) (Or.inl ⟨by rfl, ?y2_5_h⟩) hHeld ?y2_5_r
 case y2_5_h => (intro w hSw; (try dsimp only at hSw); go_simp; all_goals with_reducible rfl)
 (try simp only [Act.put, List.setIfInBounds_toArray, List.set_cons_zero, List.set_cons_succ])
 refine wpAnyH_take (i := 5) (oi := (⟨some 54, .pick (.tmp 51) (.const (.bool true)) (.tmp 53), 4, "top26.go:60", #[⟨2, .data⟩, ⟨4, .data⟩], none⟩ : Oper)) (v := ?y2_6_v) rfl (by kernel_rfl) (by kernel_rfl) (by kernel_rfl) (fun _ _ _ h => h) (Or.inl ⟨by rfl, ?y2_6_h⟩) hHeld ?y2_6_r
 case y2_6_h => (intro w hSw; (try dsimp only at hSw); go_simp; all_goals with_reducible rfl)
 (try simp only [Act.put, List.setIfInBounds_toArray, List.set_cons_zero, List.set_cons_succ])
 refine wpAnyH_take (i := 6) (oi := (⟨some 55, .move (.tmp 54), 4, "top26.go:60", #[⟨5, .data⟩, ⟨2, .chain⟩], none⟩ : Oper)) (v := ?y2_7_v) rfl (by kernel_rfl) (by kernel_rfl) (by kernel_rfl) (fun _ _ _ h => h) (Or.inl ⟨by rfl, ?y2_7_h⟩) hHeld ?y2_7_r
 case y2_7_h => (intro w hSw; (try dsimp only at hSw); go_simp; all_goals with_reducible rfl)
 (try simp only [Act.put, List.setIfInBounds_toArray, List.set_cons_zero, List.set_cons_succ])
 refine wpAnyH_take (i := 7) (oi := (⟨some 56, .fieldAddr 24 (.tmp 5) 0, 0, "top26.go:60", #[⟨6, .guard⟩], some (6, false)⟩ : Oper)) (v := ?y2_8_v) rfl (by kernel_rfl) (by kernel_rfl) (by kernel_rfl) (fun _ _ _ h => h) (Or.inl ⟨by rfl, ?y2_8_h⟩) hHeld ?y2_8_r
 case y2_8_h => (intro w hSw; (try dsimp only at hSw); go_simp; all_goals with_reducible rfl)
 (try simp only [Act.put, List.setIfInBounds_toArray, List.set_cons_zero, List.set_cons_succ])
 refine wpAnyH_take (i := 8) (oi := (⟨some 57, .load 3 (.tmp 56), 3, "top26.go:60", #[⟨7, .data⟩, ⟨6, .guard⟩], some (6, false)⟩ : Oper)) (v := ?y2_9_v) rfl (by kernel_rfl) (by kernel_rfl) (by kernel_rfl) (fun _ _ _ h => h) (Or.inl ⟨by rfl, ?y2_9_h⟩) hHeld ?y2_9_r
 case y2_9_h => (intro w hSw; (try dsimp only at hSw); go_simp; all_goals with_reducible rfl)
 (try simp only [Act.put, List.setIfInBounds_toArray, List.set_cons_zero, List.set_cons_succ])
 refine wpAnyH_take (i := 9) (oi := (⟨some 58, .binOp .lss 3 (.tmp 57) (.const (.int .i64 0)) 3, 4, "top26.go:60", #[⟨8, .data⟩, ⟨6, .guard⟩], some (6, false)⟩ : Oper)) (v := ?y2_10_v) rfl (by kernel_rfl) (by kernel_rfl) (by kernel_rfl) (fun _ _ _ h => h) (Or.inl ⟨by rfl, ?y2_10_h⟩) hHeld ?y2_10_r
 case y2_10_h => (intro w hSw; (try dsimp only at hSw); go_simp; all_goals with_reducible rfl)
 (try simp only [Act.put, List.setIfInBounds_toArray, List.set_cons_zero, List.set_cons_succ])
 refine wpAnyH_take (i := 10) (oi := (⟨some 59, .pick (.tmp 55) (.const (.bool true)) (.tmp 58), 4, "top26.go:60", #[⟨6, .data⟩, ⟨9, .data⟩], none⟩ : Oper)) (v := ?y2_11_v) rfl (by kernel_rfl) (by kernel_rfl) (by kernel_rfl) (fun _ _ _ h => h) (Or.inl ⟨by rfl, ?y2_11_h⟩) hHeld ?y2_11_r
 case y2_11_h => (intro w hSw; (try dsimp only at hSw); go_simp; all_goals with_reducible rfl)
 (try simp only [Act.put, List.setIfInBounds_toArray, List.set_cons_zero, List.set_cons_succ])
 refine wpAnyH_take (i := 11) (oi := (⟨some 60, .move (.tmp 59), 4, "top26.go:60", #[⟨10, .data⟩, ⟨6, .chain⟩], none⟩ : Oper)) (v := ?y2_12_v) rfl (by kernel_rfl) (by kernel_rfl) (by kernel_rfl) (fun _ _ _ h => h) (Or.inl ⟨by rfl, ?y2_12_h⟩) hHeld ?y2_12_r
 case y2_12_h => (intro w hSw; (try dsimp only at hSw); go_simp; all_goals with_reducible rfl)
 (try simp only [Act.put, List.setIfInBounds_toArray, List.set_cons_zero, List.set_cons_succ])
 refine wpAnyH_take (i := 12) (oi := (⟨some 61, .fieldAddr 24 (.tmp 5) 0, 0, "top26.go:60", #[⟨11, .guard⟩], some (11, false)⟩ : Oper)) (v := ?y2_13_v) rfl (by kernel_rfl) (by kernel_rfl) (by kernel_rfl) (fun _ _ _ h => h) (Or.inl ⟨by rfl, ?y2_13_h⟩) hHeld ?y2_13_r
 case y2_13_h => (intro w hSw; (try dsimp only at hSw); go_simp; all_goals with_reducible rfl)
 (try simp only [Act.put, List.setIfInBounds_toArray, List.set_cons_zero, List.set_cons_succ])
 refine wpAnyH_take (i := 13) (oi := (⟨some 62, .load 3 (.tmp 61), 3, "top26.go:60", #[⟨12, .data⟩, ⟨11, .guard⟩], some (11, false)⟩ : Oper)) (v := ?y2_14_v) rfl (by kernel_rfl) (by kernel_rfl) (by kernel_rfl) (fun _ _ _ h => h) (Or.inl ⟨by rfl, ?y2_14_h⟩) hHeld ?y2_14_r
 case y2_14_h => (intro w hSw; (try dsimp only at hSw); go_simp; all_goals with_reducible rfl)
 (try simp only [Act.put, List.setIfInBounds_toArray, List.set_cons_zero, List.set_cons_succ])
 refine wpAnyH_take (i := 14) (oi := (⟨some 63, .move (.tmp 0), 3, "top26.go:60", #[⟨11, .guard⟩], some (11, false)⟩ : Oper)) (v := ?y2_15_v) rfl (by kernel_rfl) (by kernel_rfl) (by kernel_rfl) (fun _ _ _ h => h) (Or.inl ⟨by rfl, ?y2_15_h⟩) hHeld ?y2_15_r
 case y2_15_h => (intro w hSw; (try dsimp only at hSw); go_simp; all_goals with_reducible rfl)
 (try simp only [Act.put, List.setIfInBounds_toArray, List.set_cons_zero, List.set_cons_succ])
 refine wpAnyH_take (i := 15) (oi := (⟨some 64, .binOp .geq 3 (.tmp 62) (.tmp 63) 3, 4, "top26.go:60", #[⟨13, .data⟩, ⟨14, .data⟩, ⟨11, .guard⟩], some (11, false)⟩ : Oper)) (v := ?y2_16_v) rfl (by kernel_rfl) (by kernel_rfl) (by kernel_rfl) (fun _ _ _ h => h) (Or.inl ⟨by rfl, ?y2_16_h⟩) hHeld ?y2_16_r
 case y2_16_h => (intro w hSw; (try dsimp only at hSw); go_simp; all_goals with_reducible rfl)
 (try simp only [Act.put, List.setIfInBounds_toArray, List.set_cons_zero, List.set_cons_succ])
 refine wpAnyH_take (i := 16) (oi := (⟨some 65, .pick (.tmp 60) (.const (.bool true)) (.tmp 64), 4, "top26.go:60", #[⟨11, .data⟩, ⟨15, .data⟩], none⟩ : Oper)) (v := ?y2_17_v) rfl (by kernel_rfl) (by kernel_rfl) (by kernel_rfl) (fun _ _ _ h => h) (Or.inl ⟨by rfl, ?y2_17_h⟩) hHeld ?y2_17_r
 case y2_17_h => (intro w hSw; (try dsimp only at hSw); go_simp; all_goals with_reducible rfl)
 (try simp only [Act.put, List.setIfInBounds_toArray, List.set_cons_zero, List.set_cons_succ])
 refine wpAnyH_take (i := 17) (oi := (⟨some 66, .move (.tmp 65), 4, "top26.go:60", #[⟨16, .data⟩, ⟨11, .chain⟩], none⟩ : Oper)) (v := ?y2_18_v) rfl (by kernel_rfl) (by kernel_rfl) (by kernel_rfl) (fun _ _ _ h => h) (Or.inl ⟨by rfl, ?y2_18_h⟩) hHeld ?y2_18_r
 case y2_18_h => (intro w hSw; (try dsimp only at hSw); go_simp; all_goals with_reducible rfl)
 (try simp only [Act.put, List.setIfInBounds_toArray, List.set_cons_zero, List.set_cons_succ])
 refine wpAnyH_take (i := 18) (oi := (⟨some 67, .move (.tmp 7), 26, "top26.go:60", #[⟨17, .guard⟩], some (17, false)⟩ : Oper)) (v := ?y2_19_v) rfl (by kernel_rfl) (by kernel_rfl) (by kernel_rfl) (fun _ _ _ h => h) (Or.inl ⟨by rfl, ?y2_19_h⟩) hHeld ?y2_19_r
 case y2_19_h => (intro w hSw; (try dsimp only at hSw); go_simp; all_goals with_reducible rfl)
 (try simp only [Act.put, List.setIfInBounds_toArray, List.set_cons_zero, List.set_cons_succ])
 refine wpAnyH_take (i := 19) (oi := (⟨some 68, .fieldAddr 24 (.tmp 5) 0, 0, "top26.go:60", #[⟨17, .guard⟩], some (17, false)⟩ : Oper)) (v := ?y2_20_v) rfl (by kernel_rfl) (by kernel_rfl) (by kernel_rfl) (fun _ _ _ h => h) (Or.inl ⟨by rfl, ?y2_20_h⟩) hHeld ?y2_20_r
 case y2_20_h => (intro w hSw; (try dsimp only at hSw); go_simp; all_goals with_reducible rfl)
 (try simp only [Act.put, List.setIfInBounds_toArray, List.set_cons_zero, List.set_cons_succ])
 refine wpAnyH_take (i := 20) (oi := (⟨some 69, .load 3 (.tmp 68), 3, "top26.go:60", #[⟨19, .data⟩, ⟨17, .guard⟩], some (17, false)⟩ : Oper)) (v := ?y2_21_v) rfl (by kernel_rfl) (by kernel_rfl) (by kernel_rfl) (fun _ _ _ h => h) (Or.inl ⟨by rfl, ?y2_21_h⟩) hHeld ?y2_21_r
 case y2_21_h => (intro w hSw; (try dsimp only at hSw); go_simp; all_goals with_reducible rfl)
 (try simp only [Act.put, List.setIfInBounds_toArray, List.set_cons_zero, List.set_cons_succ])
 refine wpAnyH_take (i := 21) (oi := (⟨some 70, .indexAddr 26 (.tmp 67) (.tmp 69), 0, "top26.go:60", #[⟨18, .data⟩, ⟨20, .data⟩, ⟨17, .guard⟩], some (17, false)⟩ : Oper)) (v := ?y2_22_v) rfl (by kernel_rfl) (by kernel_rfl) (by kernel_rfl) (fun _ _ _ h => h) (Or.inl ⟨by rfl, ?y2_22_h⟩) hHeld ?y2_22_r
 case y2_22_h => (intro w hSw; (try dsimp only at hSw); go_simp; all_goals with_reducible rfl)
 (try simp only [Act.put, List.setIfInBounds_toArray, List.set_cons_zero, List.set_cons_succ])
 refine wpAnyH_take (i := 22) (oi := (⟨some 71, .load 37 (.tmp 70), 37, "top26.go:60", #[⟨21, .data⟩, ⟨17, .guard⟩], some (17, false)⟩ : Oper)) (v := ?y2_23_v) rfl (by kernel_rfl) (by kernel_rfl) (by kernel_rfl) (fun _ _ _ h => h) (Or.inl ⟨by rfl, ?y2_23_h⟩) hHeld ?y2_23_r
 case y2_23_h => (intro w hSw; (try dsimp only at hSw); go_simp; all_goals with_reducible rfl)
 (try simp only [Act.put, List.setIfInBounds_toArray, List.set_cons_zero, List.set_cons_succ])
 refine wpAnyH_ready (rs := [23]) (by kernel_rfl) (by simp) ?_
 refine AllReadyH.cons (o := (⟨some 72, .call { callee := .value (.func 18), args := #[.tmp 71], argTypes := #[37] }, 3, "top26.go:60", #[⟨22, .data⟩, ⟨17, .chain⟩, ⟨17, .guard⟩], some (17, false)⟩ : Oper)) rfl (fun K hK => ?_) AllReadyH.nil
 go_simp
 (go_at_call 18; (with_reducible refine (ratsign_any (RatR.below HXE.out HDR.out)).mono ?_); rintro en u1 ⟨rfl, hb⟩; rw [HSG.out]; have HZ23 := Lib.hid (bt HDR.out hb); clear hb)
 first | refine hK.out _ _ ?_ (fun hHeld => ?_) | (go_wp2_with fail; refine hK.out _ _ ?_ (fun hHeld => ?_))
 ·exact HLS.out _ HZ23.out
 clear hK K
 (try dsimp only at hHeld)
 (try simp only [Act.put, List.setIfInBounds_toArray, List.set_cons_zero, List.set_cons_succ])
 refine wpAnyH_take (i := 24) (oi := (⟨some 73, .binOp .neq 3 (.tmp 72) (.const (.int .i64 0)) 3, 4, "top26.go:60", #[⟨23, .data⟩, ⟨17, .guard⟩], some (17, false)⟩ : Oper)) (v := ?y2_24_v) rfl (by kernel_rfl) (by kernel_rfl) (by kernel_rfl) (fun _ _ _ h => h) (Or.inl ⟨by rfl, ?y2_24_h⟩) hHeld ?y2_24_r
 case y2_24_h => (intro w hSw; (try dsimp only at hSw); go_simp; all_goals with_reducible rfl)
 (try simp only [Act.put, List.setIfInBounds_toArray, List.set_cons_zero, List.set_cons_succ])
 refine wpAnyH_take (i := 25) (oi := (⟨some 74, .pick (.tmp 66) (.const (.bool true)) (.tmp 73), 4, "top26.go:60", #[⟨17, .data⟩, ⟨24, .data⟩], none⟩ : Oper)) (v := ?y2_25_v) rfl (by kernel_rfl) (by kernel_rfl) (by kernel_rfl) (fun _ _ _ h => h) (Or.inl ⟨by rfl, ?y2_25_h⟩) hHeld ?y2_25_r
 case y2_25_h => (intro w hSw; (try dsimp only at hSw); go_simp; all_goals with_reducible rfl)
 (try simp only [Act.put, List.setIfInBounds_toArray, List.set_cons_zero, List.set_cons_succ])
 refine wpAnyH_take (i := 26) (oi := (⟨some 75, .move (.tmp 74), 4, "top26.go:60", #[⟨25, .data⟩, ⟨23, .chain⟩], none⟩ : Oper)) (v := ?y2_26_v) rfl (by kernel_rfl) (by kernel_rfl) (by kernel_rfl) (fun _ _ _ h => h) (Or.inl ⟨by rfl, ?y2_26_h⟩) hHeld ?y2_26_r
 case y2_26_h => (intro w hSw; (try dsimp only at hSw); go_simp; all_goals with_reducible rfl)
 (try simp only [Act.put, List.setIfInBounds_toArray, List.set_cons_zero, List.set_cons_succ])
 refine wpAnyH_take (i := 27) (oi := (⟨some 76, .fieldAddr 24 (.tmp 5) 3, 0, "top26.go:60", #[⟨26, .guard⟩], some (26, false)⟩ : Oper)) (v := ?y2_27_v) rfl (by kernel_rfl) (by kernel_rfl) (by kernel_rfl) (fun _ _ _ h => h) (Or.inl ⟨by rfl, ?y2_27_h⟩) hHeld ?y2_27_r
 case y2_27_h => (intro w hSw; (try dsimp only at hSw); go_simp; all_goals with_reducible rfl)
 (try simp only [Act.put, List.setIfInBounds_toArray, List.set_cons_zero, List.set_cons_succ])
 refine wpAnyH_take (i := 28) (oi := (⟨some 77, .load 3 (.tmp 76), 3, "top26.go:60", #[⟨27, .data⟩, ⟨26, .guard⟩], some (26, false)⟩ : Oper)) (v := ?y2_28_v) rfl (by kernel_rfl) (by kernel_rfl) (by kernel_rfl) (fun _ _ _ h => h) (Or.inl ⟨by rfl, ?y2_28_h⟩) hHeld ?y2_28_r
 case y2_28_h => (intro w hSw; (try dsimp only at hSw); go_simp; all_goals with_reducible rfl)
 (try simp only [Act.put, List.setIfInBounds_toArray, List.set_cons_zero, List.set_cons_succ])
 refine wpAnyH_take (i := 29) (oi := (⟨some 78, .move (.tmp 1), 22, "top26.go:60", #[⟨26, .guard⟩], some (26, false)⟩ : Oper)) (v := ?y2_29_v) rfl (by kernel_rfl) (by kernel_rfl) (by kernel_rfl) (fun _ _ _ h => h) (Or.inl ⟨by rfl, ?y2_29_h⟩) hHeld ?y2_29_r
 case y2_29_h => (intro w hSw; (try dsimp only at hSw); go_simp; all_goals with_reducible rfl)
 (try simp only [Act.put, List.setIfInBounds_toArray, List.set_cons_zero, List.set_cons_succ])
 refine wpAnyH_take (i := 30) (oi := (⟨some 79, .fieldAddr 24 (.tmp 5) 0, 0, "top26.go:60", #[⟨26, .guard⟩], some (26, false)⟩ : Oper)) (v := ?y2_30_v) rfl (by kernel_rfl) (by kernel_rfl) (by kernel_rfl) (fun _ _ _ h => h) (Or.inl ⟨by rfl, ?y2_30_h⟩) hHeld ?y2_30_r
 case y2_30_h => (intro w hSw; (try dsimp only at hSw); go_simp; all_goals with_reducible rfl)
 (try simp only [Act.put, List.setIfInBounds_toArray, List.set_cons_zero, List.set_cons_succ])
 refine wpAnyH_take (i := 31) (oi := (⟨some 80, .load 3 (.tmp 79), 3, "top26.go:60", #[⟨30, .data⟩, ⟨26, .guard⟩], some (26, false)⟩ : Oper)) (v := ?y2_31_v) rfl (by kernel_rfl) (by kernel_rfl) (by kernel_rfl) (fun _ _ _ h => h) (Or.inl ⟨by rfl, ?y2_31_h⟩) hHeld ?y2_31_r
 case y2_31_h => (intro w hSw; (try dsimp only at hSw); go_simp; all_goals with_reducible rfl)
 (try simp only [Act.put, List.setIfInBounds_toArray, List.set_cons_zero, List.set_cons_succ])
 refine wpAnyH_take (i := 32) (oi := (⟨some 81, .fieldAddr 24 (.tmp 5) 1, 0, "top26.go:60", #[⟨26, .guard⟩], some (26, false)⟩ : Oper)) (v := ?y2_32_v) rfl (by kernel_rfl) (by kernel_rfl) (by kernel_rfl) (fun _ _ _ h => h) (Or.inl ⟨by rfl, ?y2_32_h⟩) hHeld ?y2_32_r
 case y2_32_h => (intro w hSw; (try dsimp only at hSw); go_simp; all_goals with_reducible rfl)
 (try simp only [Act.put, List.setIfInBounds_toArray, List.set_cons_zero, List.set_cons_succ])
 refine wpAnyH_take (i := 33) (oi := (⟨some 82, .load 3 (.tmp 81), 3, "top26.go:60", #[⟨32, .data⟩, ⟨26, .guard⟩], some (26, false)⟩ : Oper)) (v := ?y2_33_v) rfl (by kernel_rfl) (by kernel_rfl) (by kernel_rfl) (fun _ _ _ h => h) (Or.inl ⟨by rfl, ?y2_33_h⟩) hHeld ?y2_33_r
 case y2_33_h => (intro w hSw; (try dsimp only at hSw); go_simp; all_goals with_reducible rfl)
 (try simp only [Act.put, List.setIfInBounds_toArray, List.set_cons_zero, List.set_cons_succ])
 refine wpAnyH_take (i := 34) (oi := (⟨some 83, .fieldAddr 24 (.tmp 5) 2, 0, "top26.go:60", #[⟨26, .guard⟩], some (26, false)⟩ : Oper)) (v := ?y2_34_v) rfl (by kernel_rfl) (by kernel_rfl) (by kernel_rfl) (fun _ _ _ h => h) (Or.inl ⟨by rfl, ?y2_34_h⟩) hHeld ?y2_34_r
 case y2_34_h => (intro w hSw; (try dsimp only at hSw); go_simp; all_goals with_reducible rfl)
 (try simp only [Act.put, List.setIfInBounds_toArray, List.set_cons_zero, List.set_cons_succ])
 refine wpAnyH_take (i := 35) (oi := (⟨some 84, .load 3 (.tmp 83), 3, "top26.go:60", #[⟨34, .data⟩, ⟨26, .guard⟩], some (26, false)⟩ : Oper)) (v := ?y2_35_v) rfl (by kernel_rfl) (by kernel_rfl) (by kernel_rfl) (fun _ _ _ h => h) (Or.inl ⟨by rfl, ?y2_35_h⟩) hHeld ?y2_35_r
 case y2_35_h => (intro w hSw; (try dsimp only at hSw); go_simp; all_goals with_reducible rfl)
 (try simp only [Act.put, List.setIfInBounds_toArray, List.set_cons_zero, List.set_cons_succ])
 refine wpAnyH_ready (rs := [36]) (by kernel_rfl) (by simp) ?_
 refine AllReadyH.cons (o := (⟨some 85, .call { callee := .value (.func 19), args := #[.tmp 78, .tmp 80, .tmp 82, .tmp 84], argTypes := #[22, 3, 3, 3] }, 3, "top26.go:60", #[⟨29, .data⟩, ⟨31, .data⟩, ⟨33, .data⟩, ⟨35, .data⟩, ⟨26, .chain⟩, ⟨26, .guard⟩], some (26, false)⟩ : Oper)) rfl (fun K hK => ?_) AllReadyH.nil
 go_simp
 (go_at_call 19; (with_reducible refine (rat_at (HH4.out.below HZ23.out)).mono ?_); rintro en u2 ⟨rfl, hb⟩; rw [HATV.out]; have HZ36 := Lib.hid (bt HZ23.out hb); clear hb)
 first | refine hK.out _ _ ?_ (fun hHeld => ?_) | (go_wp2_with fail; refine hK.out _ _ ?_ (fun hHeld => ?_))
 ·exact HLS.out _ HZ36.out
 clear hK K
 (try dsimp only at hHeld)
 (try simp only [Act.put, List.setIfInBounds_toArray, List.set_cons_zero, List.set_cons_succ])
 refine wpAnyH_take (i := 37) (oi := (⟨some 86, .binOp .lss 3 (.tmp 77) (.tmp 85) 3, 4, "top26.go:60", #[⟨28, .data⟩, ⟨36, .data⟩, ⟨26, .guard⟩], some (26, false)⟩ : Oper)) (v := ?y2_36_v) rfl (by kernel_rfl) (by kernel_rfl) (by kernel_rfl) (fun _ _ _ h => h) (Or.inl ⟨by rfl, ?y2_36_h⟩) hHeld ?y2_36_r
 case y2_36_h => (intro w hSw; (try dsimp only at hSw); go_simp; all_goals with_reducible rfl)
 (try simp only [Act.put, List.setIfInBounds_toArray, List.set_cons_zero, List.set_cons_succ])
 refine wpAnyH_take (i := 38) (oi := (⟨some 87, .pick (.tmp 75) (.const (.bool true)) (.tmp 86), 4, "top26.go:60", #[⟨26, .data⟩, ⟨37, .data⟩], none⟩ : Oper)) (v := ?y2_37_v) rfl (by kernel_rfl) (by kernel_rfl) (by kernel_rfl) (fun _ _ _ h => h) (Or.inl ⟨by rfl, ?y2_37_h⟩) hHeld ?y2_37_r
 case y2_37_h => (intro w hSw; (try dsimp only at hSw); go_simp; all_goals with_reducible rfl)
 (try simp only [Act.put, List.setIfInBounds_toArray, List.set_cons_zero, List.set_cons_succ])
 refine wpAnyH_done (by kernel_rfl) ?_ _
 have HB5 := Lib.hid (bt HB4.out HZ36.out)
 have HX5 := Lib.hid (blk_next HX4.out HZ36.out)
 have HR5 := Lib.hid (HR4.out.below HZ36.out)
 have HH5 := Lib.hid (HH2.out.below HZ36.out)
 obtain ⟨c0, c1, c2, c3⟩ := cells4 HX5.out
 clear HLS HDR
 by_cases hsh : X.sh k < AT
 ·go_wp2
  go_ret
  exact ⟨rfl, HB5.out⟩
 go_wp2_with fail
 refine (eff_yes HH5.out HWF2.out HV2.out HD.out).mono ?_
 rintro en w6 ⟨ay, cy, o2, y, rfl, ho2, hy, hg2, hr2, hb6⟩
 have HRY := Lib.hid hr2
 have HRX := Lib.hid (HR5.out.below hb6)
 have HG2 := Lib.hid hg2
 have HB6 := Lib.hid (bt HB5.out hb6)
 have HEQ := Lib.hid (show ∀ e, e < N → x e = y e from dil_vals HV.out HV2.out hPN hPne HO.out HXS.out ho2 hy HXP.out (fun hh ee day hne => HAT.out hh ee day (by rw [hP]; exact hne)))
 clear ho2 hy hg2 hr2 hb6 c0 c1 c2 c3
 go_wp2_with fail
 go_loopw [13] (fun i wr => ∃ e : Nat, e ≤ N ∧ i = .int .i64 e ∧ Below w6.heap.size w6 wr) (fun i _ => N - (RowKit.intOf i).toNat)
 case atStart => exact ⟨0, Nat.zero_le _, rfl, Below.refl _ _⟩
 case round =>
  obtain ⟨e, he, rfl, hb⟩ := hrel
  have HBr := Lib.hid hb
  clear hb
  by_cases hel : e < N
  case neg =>
   obtain rfl : e = N := by omega
   have HBE := Lib.hid (bt HB6.out HBr.out)
   go_wp2
   go_ret
   exact ⟨rfl, HBE.out⟩
  have hei : (e : Int) < (N : Int) := by omega
  obtain ⟨_, _, b1, o1, p3, p4⟩ := (HRX.out.below HBr.out).parts
  obtain ⟨rfl, rfl⟩ : bx = b1 ∧ ox = o1 := by
   have := p3 (by omega)
   injection this with this
   injection this with t1 t2
   exact ⟨t1, t2⟩
  obtain ⟨xa, ⟨x0, x1, x2, x3⟩, hxq⟩ := p4 e hel
  obtain ⟨_, _, b2, o3, p5, p6⟩ := (HRY.out.below HBr.out).parts
  obtain rfl := p5 (by omega)
  obtain ⟨ya, ⟨y0, y1, y2, y3⟩, hyq⟩ := p6 e hel
  have HXE2 := Lib.hid (show RatR wr (.agg #[.bool xa.n1, .slice xa.a1 xa.k1 xa.c1, .bool xa.n2, .slice xa.a2 xa.k2 xa.c2]) (if e = 0 then (1 : Rat) else x e) from hxq)
  have HYE2 := Lib.hid (show RatR wr (.agg #[.bool ya.n1, .slice ya.a1 ya.k1 ya.c1, .bool ya.n2, .slice ya.a2 ya.k2 ya.c2]) (if e = 0 then (1 : Rat) else x e) from by
   have h := hyq
   rw [← HEQ.out e hel] at h
   exact h)
  have HGE := Lib.hid (show Rg 50000 (if e = 0 then (1 : Rat) else x e) from by
   by_cases z : e = 0
   ·rw [if_pos z]; exact Rg.of (fw_mono (show Fw 1 1 by constructor <;> decide) (by omega))
   ·rw [if_neg z]; exact HG.out e hel)
  have HCM := Lib.hid (cmpQ_selfD (if e = 0 then (1 : Rat) else x e))
  clear hxq hyq p3 p4 p5 p6
  go_wp2_with fail
  have Yx0 := Lib.hid x0
  have Yx1 := Lib.hid x1
  have Yx2 := Lib.hid x2
  have Yx3 := Lib.hid x3
  have Yy0 := Lib.hid y0
  have Yy1 := Lib.hid y1
  have Yy2 := Lib.hid y2
  have Yy3 := Lib.hid y3
  clear x0 x1 x2 x3 y0 y1 y2 y3
  have HLS := Lib.hid (fun (w' : World) (hb : Below wr.heap.size wr w') => (⟨keepc hb Yx0.out, keepc hb Yx1.out, keepc hb Yx2.out, keepc hb Yx3.out, keepc hb Yy0.out, keepc hb Yy1.out, keepc hb Yy2.out, keepc hb Yy3.out⟩ : w'.cell? ⟨bx, ox + e * 4, none⟩ = some (.bool xa.n1) ∧ w'.cell? ⟨bx, ox + e * 4 + 1, none⟩ = some (.slice xa.a1 xa.k1 xa.c1) ∧ w'.cell? ⟨bx, ox + e * 4 + 2, none⟩ = some (.bool xa.n2) ∧ w'.cell? ⟨bx, ox + e * 4 + 3, none⟩ = some (.slice xa.a2 xa.k2 xa.c2) ∧ w'.cell? ⟨b2, o3 + e * 4, none⟩ = some (.bool ya.n1) ∧ w'.cell? ⟨b2, o3 + e * 4 + 1, none⟩ = some (.slice ya.a1 ya.k1 ya.c1) ∧ w'.cell? ⟨b2, o3 + e * 4 + 2, none⟩ = some (.bool ya.n2) ∧ w'.cell? ⟨b2, o3 + e * 4 + 3, none⟩ = some (.slice ya.a2 ya.k2 ya.c2)))
  have HDR := Lib.hid (Below.drew (Below.refl wr.heap.size wr))
  refine wp_region_held_drew (S := fun w' => w'.cell? ⟨bx, ox + e * 4, none⟩ = some (.bool xa.n1) ∧ w'.cell? ⟨bx, ox + e * 4 + 1, none⟩ = some (.slice xa.a1 xa.k1 xa.c1) ∧ w'.cell? ⟨bx, ox + e * 4 + 2, none⟩ = some (.bool xa.n2) ∧ w'.cell? ⟨bx, ox + e * 4 + 3, none⟩ = some (.slice xa.a2 xa.k2 xa.c2) ∧ w'.cell? ⟨b2, o3 + e * 4, none⟩ = some (.bool ya.n1) ∧ w'.cell? ⟨b2, o3 + e * 4 + 1, none⟩ = some (.slice ya.a1 ya.k1 ya.c1) ∧ w'.cell? ⟨b2, o3 + e * 4 + 2, none⟩ = some (.bool ya.n2) ∧ w'.cell? ⟨b2, o3 + e * 4 + 3, none⟩ = some (.slice ya.a2 ya.k2 ya.c2)) (by kernel_rfl) ?_ (fun hHeld => ?_)
  ·exact HLS.out _ HDR.out
  (try dsimp only at hHeld)
  refine wpAnyH_take (i := 0) (oi := (⟨some 115, .move (.tmp 7), 26, "top26.go:68", #[], none⟩ : Oper)) (v := ?y3_1_v) rfl (by kernel_rfl) (by kernel_rfl) (by kernel_rfl) (fun _ _ _ h => h) (Or.inl ⟨by rfl, ?y3_1_h⟩) hHeld ?y3_1_r
  case y3_1_h => (intro w hSw; (try dsimp only at hSw); go_simp; all_goals with_reducible rfl)
  (try simp only [Act.put, List.setIfInBounds_toArray, List.set_cons_zero, List.set_cons_succ])
  refine wpAnyH_take (i := 1) (oi := (⟨some 116, .move (.tmp 13), 3, "top26.go:68", #[], none⟩ : Oper)) (v := ?y3_2_v) rfl (by kernel_rfl) (by kernel_rfl) (by kernel_rfl) (fun _ _ _ h => h) (Or.inl ⟨by rfl, ?y3_2_h⟩) hHeld ?y3_2_r
  case y3_2_h => (intro w hSw; (try dsimp only at hSw); go_simp; all_goals with_reducible rfl)
  (try simp only [Act.put, List.setIfInBounds_toArray, List.set_cons_zero, List.set_cons_succ])
  refine wpAnyH_take (i := 2) (oi := (⟨some 117, .indexAddr 26 (.tmp 115) (.tmp 116), 0, "top26.go:68", #[⟨0, .data⟩, ⟨1, .data⟩], none⟩ : Oper)) (v := ?y3_3_v) rfl (by kernel_rfl) (by kernel_rfl) (by kernel_rfl) (fun _ _ _ h => h) (Or.inl ⟨by rfl, ?y3_3_h⟩) hHeld ?y3_3_r
  case y3_3_h => (intro w hSw; (try dsimp only at hSw); go_simp; all_goals with_reducible rfl)
  (try simp only [Act.put, List.setIfInBounds_toArray, List.set_cons_zero, List.set_cons_succ])
  refine wpAnyH_take (i := 3) (oi := (⟨some 118, .load 37 (.tmp 117), 37, "top26.go:68", #[⟨2, .data⟩], none⟩ : Oper)) (v := ?y3_4_v) rfl (by kernel_rfl) (by kernel_rfl) (by kernel_rfl) (fun _ _ _ h => h) (Or.inl ⟨by rfl, ?y3_4_h⟩) hHeld ?y3_4_r
  case y3_4_h => (intro w hSw; (try dsimp only at hSw); go_simp; all_goals with_reducible rfl)
  (try simp only [Act.put, List.setIfInBounds_toArray, List.set_cons_zero, List.set_cons_succ])
  refine wpAnyH_take (i := 4) (oi := (⟨some 119, .move (.tmp 11), 26, "top26.go:68", #[], none⟩ : Oper)) (v := ?y3_5_v) rfl (by kernel_rfl) (by kernel_rfl) (by kernel_rfl) (fun _ _ _ h => h) (Or.inl ⟨by rfl, ?y3_5_h⟩) hHeld ?y3_5_r
  case y3_5_h => (intro w hSw; (try dsimp only at hSw); go_simp; all_goals with_reducible rfl)
  (try simp only [Act.put, List.setIfInBounds_toArray, List.set_cons_zero, List.set_cons_succ])
  refine wpAnyH_take (i := 5) (oi := (⟨some 120, .move (.tmp 13), 3, "top26.go:68", #[], none⟩ : Oper)) (v := ?y3_6_v) rfl (by kernel_rfl) (by kernel_rfl) (by kernel_rfl) (fun _ _ _ h => h) (Or.inl ⟨by rfl, ?y3_6_h⟩) hHeld ?y3_6_r
  case y3_6_h => (intro w hSw; (try dsimp only at hSw); go_simp; all_goals with_reducible rfl)
  (try simp only [Act.put, List.setIfInBounds_toArray, List.set_cons_zero, List.set_cons_succ])
  refine wpAnyH_take (i := 6) (oi := (⟨some 121, .indexAddr 26 (.tmp 119) (.tmp 120), 0, "top26.go:68", #[⟨4, .data⟩, ⟨5, .data⟩], none⟩ : Oper)) (v := ?y3_7_v) rfl (by kernel_rfl) (by kernel_rfl) (by kernel_rfl) (fun _ _ _ h => h) (Or.inl ⟨by rfl, ?y3_7_h⟩) hHeld ?y3_7_r
  case y3_7_h => (intro w hSw; (try dsimp only at hSw); go_simp; all_goals with_reducible rfl)
  (try simp only [Act.put, List.setIfInBounds_toArray, List.set_cons_zero, List.set_cons_succ])
  refine wpAnyH_take (i := 7) (oi := (⟨some 122, .load 37 (.tmp 121), 37, "top26.go:68", #[⟨6, .data⟩], none⟩ : Oper)) (v := ?y3_8_v) rfl (by kernel_rfl) (by kernel_rfl) (by kernel_rfl) (fun _ _ _ h => h) (Or.inl ⟨by rfl, ?y3_8_h⟩) hHeld ?y3_8_r
  case y3_8_h => (intro w hSw; (try dsimp only at hSw); go_simp; all_goals with_reducible rfl)
  (try simp only [Act.put, List.setIfInBounds_toArray, List.set_cons_zero, List.set_cons_succ])
  refine wpAnyH_ready (rs := [8]) (by kernel_rfl) (by simp) ?_
  refine AllReadyH.cons (o := (⟨some 123, .call { callee := .value (.func 20), args := #[.tmp 118, .tmp 122], argTypes := #[37, 37] }, 3, "top26.go:68", #[⟨3, .data⟩, ⟨7, .data⟩], none⟩ : Oper)) rfl (fun K hK => ?_) AllReadyH.nil
  go_simp
  (go_at_call 20; (with_reducible refine (cmp_r (N := 50000) (RatR.below HXE2.out HDR.out) (RatR.below HYE2.out HDR.out) HGE.out HGE.out (by decide)).mono ?_); rintro en u7 ⟨rfl, hb⟩; rw [HCM.out]; have HZ8 := Lib.hid (bt HDR.out hb); clear hb)
  first | refine hK.out _ _ ?_ (fun hHeld => ?_) | (go_wp2_with fail; refine hK.out _ _ ?_ (fun hHeld => ?_))
  ·exact HLS.out _ HZ8.out
  clear hK K
  (try dsimp only at hHeld)
  (try simp only [Act.put, List.setIfInBounds_toArray, List.set_cons_zero, List.set_cons_succ])
  refine wpAnyH_take (i := 9) (oi := (⟨some 124, .binOp .neq 3 (.tmp 123) (.const (.int .i64 0)) 3, 4, "top26.go:68", #[⟨8, .data⟩], none⟩ : Oper)) (v := ?y3_9_v) rfl (by kernel_rfl) (by kernel_rfl) (by kernel_rfl) (fun _ _ _ h => h) (Or.inl ⟨by rfl, ?y3_9_h⟩) hHeld ?y3_9_r
  case y3_9_h => (intro w hSw; (try dsimp only at hSw); go_simp; all_goals with_reducible rfl)
  (try simp only [Act.put, List.setIfInBounds_toArray, List.set_cons_zero, List.set_cons_succ])
  refine wpAnyH_done (by kernel_rfl) ?_ _
  have HBE := Lib.hid (bt HBr.out HZ8.out)
  clear HLS
  go_wp2
  go_roundw
  case rel => exact ⟨e + 1, by omega, by go_num, HBE.out⟩
  case measure => (simp [RowKit.intOf]; omega)
end Go.Proofs.YteionhenpehogaaGreatDoor
