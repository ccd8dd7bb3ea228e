import Derived.Test.YteionhenpehogaaGreatDoorAwakeZ
namespace Tally
open Graph.Plain (ReachF IsReach)
theorem sol_same {N : Nat} {Z : Nat → Nat → Int} {D : Nat → Int} {o o' : Nat → Bool} {x x' : Nat → Rat} (hs : Shares N Z D) (ho : IsReach N (inner Z) (direct N D) o) (ho' : IsReach N (inner Z) (direct N D) o') (hx : Sol N Z D o x) (hx' : Sol N Z D o' x') : ∀ e, e < N → x e = x' e := by
 have he : ∀ e, e < N → o' e = o e := fun e he => Bool.eq_iff_iff.2 ((ho'.iff he).trans (ho.iff he).symm)
 exact Sol.unique hs ho hx ⟨fun e h q => hx'.1 e h ((he e h).trans q), fun e h q => hx'.2 e h ((he e h).trans q)⟩
end Tally
namespace Go.Proofs.YteionhenpehogaaGreatDoor
open Go.RowKit Tally Graph.Plain
def eff (x : Nat → Rat) : Nat → Rat := fun e => if e = 0 then 1 else x e
theorem eff_rg {N : Nat} {x : Nat → Rat} (h : ∀ e, e < N → Rg 50000 (x e)) {e : Nat} (he : e < N) : Rg 50000 (eff x e) := by
 unfold eff
 by_cases q : e = 0
 ·rw [if_pos q]; exact Rg.of (fw_mono (show Fw 1 1 by constructor <;> decide) (by omega))
 ·rw [if_neg q]; exact h e he
set_option maxHeartbeats 8000000 in
set_option maxRecDepth 100000 in
theorem check_any {w : World} {v u : Value} {k N m M : Nat} {day : Int} {H : Hds} {o : Nat → Bool} {x : Nat → Rat} {g : Nat → Rat} (hH : HoldR w v k H) (hw : Hwf H k) (hv : H.valid N k) (hd : goodDate day)
  (ho : IsReach N (inner fun h e => H.at (h : Nat) (e : Nat) day k) (direct N (dirE N fun h e => H.at (h : Nat) (e : Nat) day k)) o) (hx : Sol N (fun h e => H.at (h : Nat) (e : Nat) day k) (dirE N fun h e => H.at (h : Nat) (e : Nat) day k) o x)
  (hu : RatsR w u m g) (hg : ∀ i, i < m → Rg M (g i)) (hM0 : 50000 ≤ M) (hM : 2 * M + 2 ≤ 999999999990) {b : Bool} (hb : b = true ↔ (m = N ∧ ∀ i, i < N → g i = eff x i)) :
  Calls Tryz.prog 25 #[.int .i64 N, v, .int .i64 day, u] w fun e w' => e = .returned (.bool b) ∧ Below w.heap.size w w' := by
 obtain ⟨a, c, rfl⟩ : ∃ a c, v = .slice a k c := by obtain ⟨a, b, o, c, h1, _⟩ := hH; exact ⟨a, c, h1⟩
 obtain ⟨au, cu, rfl⟩ := hu.shape
 have hN1 : 1 ≤ N := by have := hv.1; omega
 have hN2 : N ≤ 12 := by have := hv.2.1; omega
 have HH := Lib.hid hH
 have HW := Lib.hid hw
 have HV := Lib.hid hv
 have HD := Lib.hid hd
 have HO := Lib.hid ho
 have HXS := Lib.hid hx
 have HU := Lib.hid hu
 have HG := Lib.hid hg
 have HBB := Lib.hid hb
 clear hH hw hv hd ho hx hu hg hb
 go_enter Tryz.func25, Tryz.ntmps25
 go_wp2_with fail
 refine (eff_yes HH.out HW.out HV.out HD.out).mono ?_
 rintro en w2 ⟨ax, cx, o', x', rfl, ho', hx', hg', hr, hb2⟩
 have hsame := sol_same (dirE_shares (at_shares (day := day) HV.out)) ho' HO.out hx' HXS.out
 have HR := Lib.hid (show RatsR w2 (.slice ax N cx) N (eff x) from hr.congr fun e he => by unfold eff; rw [hsame e he])
 have HE := Lib.hid (show ∀ e, e < N → Rg 50000 (eff x e) from fun e he => eff_rg (fun e he => hsame e he ▸ hg' e he) he)
 have HU2 := Lib.hid (HU.out.below hb2)
 have HB2 := Lib.hid hb2
 clear ho' hx' hg' hr hsame hb2 HU HH HW HV HO HXS
 by_cases hmn : m = N
 case neg =>
  obtain rfl : b = false := by cases b with
   | false => rfl
   | true => exact absurd (HBB.out.1 rfl).1 hmn
  have hmi : ¬ (m : Int) = (N : Int) := by omega
  have hmb : ((m : Int) == (N : Int)) = false := by rw [beq_eq_false_iff_ne]; exact hmi
  go_wp2
  go_ret
  exact ⟨rfl, HB2.out⟩
 subst hmn
 have hbq : ((m : Int) == (m : Int)) = true := beq_self_eq_true _
 obtain ⟨h1, h2, b1, o1, h3, h4⟩ := HU2.out.parts
 obtain ⟨k1, k2, b2, o2, k3, k4⟩ := HR.out.parts
 obtain rfl := h3 (by omega)
 obtain rfl := k3 (by omega)
 have H4 := Lib.hid h4
 have K4 := Lib.hid k4
 clear h1 h2 h3 h4 k1 k2 k3 k4
 go_wp2_with fail
 go_loopw [30] (fun i wr => ∃ (k : Nat), i = .int .i64 k ∧ k ≤ m ∧ (∀ t, t < k → g t = eff x t) ∧ Below w2.heap.size w2 wr) (fun i _ => m - (RowKit.intOf i).toNat)
 case atStart => exact ⟨0, rfl, by omega, fun t ht => absurd ht (Nat.not_lt_zero _), Below.refl _ _⟩
 case round =>
  obtain ⟨k, rfl, hk, hall, hbr⟩ := hrel
  have HBR := Lib.hid hbr
  have HAL := Lib.hid hall
  clear hbr hall
  by_cases hkn : k = m
  ·obtain rfl : m = k := hkn.symm
   obtain rfl : b = true := HBB.out.2 (by first | exact ⟨rfl, HAL.out⟩ | exact ⟨trivial, HAL.out⟩ | exact HAL.out)
   go_wp2_with fail
   refine (date_yes HD.out).mono ?_
   rintro en w6 ⟨rfl, rfl⟩
   go_wp2
   go_ret
   exact ⟨rfl, bt HB2.out HBR.out⟩
  have hkl : k < m := by omega
  have hki : (k : Int) < (m : Int) := by omega
  obtain ⟨xn, hx4, hxq⟩ := H4.out k hkl
  obtain ⟨y, hy4, hyq⟩ := K4.out k hkl
  obtain ⟨x0, x1, x2, x3⟩ := hx4.at HBR.out
  obtain ⟨y0, y1, y2, y3⟩ := hy4.at HBR.out
  have HX := Lib.hid (show RatR wr (.agg #[.bool xn.n1, .slice xn.a1 xn.k1 xn.c1, .bool xn.n2, .slice xn.a2 xn.k2 xn.c2]) (g k) from RatR.below hxq HBR.out)
  have HY := Lib.hid (show RatR wr (.agg #[.bool y.n1, .slice y.a1 y.k1 y.c1, .bool y.n2, .slice y.a2 y.k2 y.c2]) (eff x k) from RatR.below hyq HBR.out)
  have rx := HG.out k hkl
  have ry := (HE.out k hkl).mono hM0
  clear hx4 hxq hy4 hyq
  by_cases hz : g k = eff x k
  ·have HC := Lib.hid (show cmpQ (g k) (eff x k) = 0 from cmpQ_zero.2 hz)
   have HA2 := Lib.hid (show ∀ t, t < k + 1 → g t = eff x t from fun t ht => by
    by_cases e : t = k
    ·subst e; exact hz
    ·exact HAL.out t (by omega))
   clear hz
   go_wp2_with fail
   have HL := Lib.hid (fun (w' : World) (hb : Below wr.heap.size wr w') => (⟨hb, keepc hb x0, keepc hb x1, keepc hb x2, keepc hb x3, keepc hb y0, keepc hb y1, keepc hb y2, keepc hb y3⟩ : Below wr.heap.size wr w' ∧ w'.cell? ⟨b1, o1 + k * 4, none⟩ = some (.bool xn.n1) ∧ w'.cell? ⟨b1, o1 + k * 4 + 1, none⟩ = some (.slice xn.a1 xn.k1 xn.c1) ∧ w'.cell? ⟨b1, o1 + k * 4 + 2, none⟩ = some (.bool xn.n2) ∧ w'.cell? ⟨b1, o1 + k * 4 + 3, none⟩ = some (.slice xn.a2 xn.k2 xn.c2) ∧ w'.cell? ⟨b2, o2 + k * 4, none⟩ = some (.bool y.n1) ∧ w'.cell? ⟨b2, o2 + k * 4 + 1, none⟩ = some (.slice y.a1 y.k1 y.c1) ∧ w'.cell? ⟨b2, o2 + k * 4 + 2, none⟩ = some (.bool y.n2) ∧ w'.cell? ⟨b2, o2 + k * 4 + 3, none⟩ = some (.slice y.a2 y.k2 y.c2)))
   have HI := Lib.hid (fun (w' : World) (hs : Below wr.heap.size wr w' ∧ w'.cell? ⟨b1, o1 + k * 4, none⟩ = some (.bool xn.n1) ∧ w'.cell? ⟨b1, o1 + k * 4 + 1, none⟩ = some (.slice xn.a1 xn.k1 xn.c1) ∧ w'.cell? ⟨b1, o1 + k * 4 + 2, none⟩ = some (.bool xn.n2) ∧ w'.cell? ⟨b1, o1 + k * 4 + 3, none⟩ = some (.slice xn.a2 xn.k2 xn.c2) ∧ w'.cell? ⟨b2, o2 + k * 4, none⟩ = some (.bool y.n1) ∧ w'.cell? ⟨b2, o2 + k * 4 + 1, none⟩ = some (.slice y.a1 y.k1 y.c1) ∧ w'.cell? ⟨b2, o2 + k * 4 + 2, none⟩ = some (.bool y.n2) ∧ w'.cell? ⟨b2, o2 + k * 4 + 3, none⟩ = some (.slice y.a2 y.k2 y.c2)) => hs.1)
   have HS := Lib.hid (Below.refl wr.heap.size wr)
   go_region_held3 (fun w' => Below wr.heap.size wr w' ∧ w'.cell? ⟨b1, o1 + k * 4, none⟩ = some (.bool xn.n1) ∧ w'.cell? ⟨b1, o1 + k * 4 + 1, none⟩ = some (.slice xn.a1 xn.k1 xn.c1) ∧ w'.cell? ⟨b1, o1 + k * 4 + 2, none⟩ = some (.bool xn.n2) ∧ w'.cell? ⟨b1, o1 + k * 4 + 3, none⟩ = some (.slice xn.a2 xn.k2 xn.c2) ∧ w'.cell? ⟨b2, o2 + k * 4, none⟩ = some (.bool y.n1) ∧ w'.cell? ⟨b2, o2 + k * 4 + 1, none⟩ = some (.slice y.a1 y.k1 y.c1) ∧ w'.cell? ⟨b2, o2 + k * 4 + 2, none⟩ = some (.bool y.n2) ∧ w'.cell? ⟨b2, o2 + k * 4 + 3, none⟩ = some (.slice y.a2 y.k2 y.c2))
    (first | assumption | with_reducible exact HL.out _ (Below.drew HS.out) | with_reducible exact HL.out _ (bt (HI.out _ (by assumption)) (by assumption)))
    ((go_at_call 20; (with_reducible refine (cmp_r (HX.out.below (HI.out _ (by assumption))) (HY.out.below (HI.out _ (by assumption))) rx ry hM).mono ?_); rintro e w5 ⟨rfl, hb5⟩; rw [HC.out]))
   have HB5 := Lib.hid (bt HBR.out (bt (Below.drew HS.out) hb5))
   clear x0 x1 x2 x3 y0 y1 y2 y3 hb5 HL HI HS
   go_wp2
   refine ⟨⟨k + 1, by go_num, by omega, HA2.out, HB5.out⟩, ?_⟩
   simp [RowKit.intOf]; omega
  ·obtain ⟨z, hzz⟩ : ∃ z, cmpQ (g k) (eff x k) = z := ⟨_, rfl⟩
   have HC := Lib.hid hzz
   have hz0 : ¬ z = 0 := fun e => hz (cmpQ_zero.1 (hzz.trans e))
   have hzb : (z == 0) = false := by rw [beq_eq_false_iff_ne]; exact hz0
   obtain rfl : b = false := by cases b with
    | false => rfl
    | true => exact absurd ((HBB.out.1 rfl).2 k hkl) hz
   clear hz hzz
   go_wp2_with fail
   have HL := Lib.hid (fun (w' : World) (hb : Below wr.heap.size wr w') => (⟨hb, keepc hb x0, keepc hb x1, keepc hb x2, keepc hb x3, keepc hb y0, keepc hb y1, keepc hb y2, keepc hb y3⟩ : Below wr.heap.size wr w' ∧ w'.cell? ⟨b1, o1 + k * 4, none⟩ = some (.bool xn.n1) ∧ w'.cell? ⟨b1, o1 + k * 4 + 1, none⟩ = some (.slice xn.a1 xn.k1 xn.c1) ∧ w'.cell? ⟨b1, o1 + k * 4 + 2, none⟩ = some (.bool xn.n2) ∧ w'.cell? ⟨b1, o1 + k * 4 + 3, none⟩ = some (.slice xn.a2 xn.k2 xn.c2) ∧ w'.cell? ⟨b2, o2 + k * 4, none⟩ = some (.bool y.n1) ∧ w'.cell? ⟨b2, o2 + k * 4 + 1, none⟩ = some (.slice y.a1 y.k1 y.c1) ∧ w'.cell? ⟨b2, o2 + k * 4 + 2, none⟩ = some (.bool y.n2) ∧ w'.cell? ⟨b2, o2 + k * 4 + 3, none⟩ = some (.slice y.a2 y.k2 y.c2)))
   have HI := Lib.hid (fun (w' : World) (hs : Below wr.heap.size wr w' ∧ w'.cell? ⟨b1, o1 + k * 4, none⟩ = some (.bool xn.n1) ∧ w'.cell? ⟨b1, o1 + k * 4 + 1, none⟩ = some (.slice xn.a1 xn.k1 xn.c1) ∧ w'.cell? ⟨b1, o1 + k * 4 + 2, none⟩ = some (.bool xn.n2) ∧ w'.cell? ⟨b1, o1 + k * 4 + 3, none⟩ = some (.slice xn.a2 xn.k2 xn.c2) ∧ w'.cell? ⟨b2, o2 + k * 4, none⟩ = some (.bool y.n1) ∧ w'.cell? ⟨b2, o2 + k * 4 + 1, none⟩ = some (.slice y.a1 y.k1 y.c1) ∧ w'.cell? ⟨b2, o2 + k * 4 + 2, none⟩ = some (.bool y.n2) ∧ w'.cell? ⟨b2, o2 + k * 4 + 3, none⟩ = some (.slice y.a2 y.k2 y.c2)) => hs.1)
   have HS := Lib.hid (Below.refl wr.heap.size wr)
   go_region_held3 (fun w' => Below wr.heap.size wr w' ∧ w'.cell? ⟨b1, o1 + k * 4, none⟩ = some (.bool xn.n1) ∧ w'.cell? ⟨b1, o1 + k * 4 + 1, none⟩ = some (.slice xn.a1 xn.k1 xn.c1) ∧ w'.cell? ⟨b1, o1 + k * 4 + 2, none⟩ = some (.bool xn.n2) ∧ w'.cell? ⟨b1, o1 + k * 4 + 3, none⟩ = some (.slice xn.a2 xn.k2 xn.c2) ∧ w'.cell? ⟨b2, o2 + k * 4, none⟩ = some (.bool y.n1) ∧ w'.cell? ⟨b2, o2 + k * 4 + 1, none⟩ = some (.slice y.a1 y.k1 y.c1) ∧ w'.cell? ⟨b2, o2 + k * 4 + 2, none⟩ = some (.bool y.n2) ∧ w'.cell? ⟨b2, o2 + k * 4 + 3, none⟩ = some (.slice y.a2 y.k2 y.c2))
    (first | assumption | with_reducible exact HL.out _ (Below.drew HS.out) | with_reducible exact HL.out _ (bt (HI.out _ (by assumption)) (by assumption)))
    ((go_at_call 20; (with_reducible refine (cmp_r (HX.out.below (HI.out _ (by assumption))) (HY.out.below (HI.out _ (by assumption))) rx ry hM).mono ?_); rintro e w5 ⟨rfl, hb5⟩; rw [HC.out]))
   have HB5 := Lib.hid (bt HBR.out (bt (Below.drew HS.out) hb5))
   clear x0 x1 x2 x3 y0 y1 y2 y3 hb5 HL HI HS
   go_wp2
   go_ret
   exact ⟨rfl, bt HB2.out HB5.out⟩
end Go.Proofs.YteionhenpehogaaGreatDoor
