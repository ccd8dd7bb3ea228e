/- The reference's Check. -/
import Derived.Test.YtjphfdlpcakpeaaGreatDoorRLinP
namespace Go.Proofs.YtjphfdlpcakpeaaGreatDoor
open Go.RowKit Tally

set_option maxHeartbeats 8000000 in
set_option maxRecDepth 100000 in
theorem rcheck_yes {w : World} {v u t : Value} {m n q N : Nat} {L : Nat → Nat} {A : Mx} {xv h : Nat → Rat} (hm : rMatsR w v m L A) (hv : IsMat m L) (hcn : colsN m L = n) (hx : rRatsR w u n xv) (hb : rRatsR w t q h) (hA : ∀ i, i < m → ∀ k, k < n → Rg N (A i k)) (hX0 : ∀ k, k < n → Rg N (xv k)) (hS : ∀ i, i < m → ∀ k, k ≤ n → Rg N (sumTo k (fun j => A i j * xv j))) (hH : ∀ k, k < q → Rg N (h k)) (hNN8 : 8 * N + 8 ≤ 999999999990) (X : Bool) (hX : X = true ↔ m = q ∧ ∀ k, k < m → sumTo n (fun j => A k j * xv j) = h k) :
    Calls Tryz.prog 23 #[v, u, t] w fun e w' => e = .returned (.bool X) ∧ Below w.heap.size w w' := by
  have HM := Lib.hid hm
  have HV := Lib.hid hv
  have HC := Lib.hid hcn
  have HXV := Lib.hid hx
  have RA := Lib.hid hA
  have RX := Lib.hid hX0
  have RS := Lib.hid hS
  have RH := Lib.hid hH
  have HXX := Lib.hid hX
  have HBV := Lib.hid hb
  obtain ⟨a0, c0, rfl⟩ := hm.shape
  obtain ⟨a3, c3, rfl⟩ := hx.shape
  obtain ⟨a2, c2, rfl⟩ := hb.shape
  have hNN : 2 * N + 2 ≤ 999999999990 := by omega
  have RF := Lib.hid (show ∀ k, k < m → Rg N (sumTo n (fun j => A k j * xv j)) from fun k hk => hS k hk n (Nat.le_refl _))
  clear hm hv hcn hx hA hX0 hS hH hX hb
  go_enter Tryz.func23, Tryz.ntmps23
  go_wp2_with fail
  (with_reducible refine (rapply_yes HM.out HV.out HC.out HXV.out RA.out RX.out RS.out hNN8).mono ?_)
  rintro e w1 ⟨a, c, rfl, hl, hb1⟩
  have HB0 := Lib.hid hb1
  obtain ⟨_, _, b, o, h3, h4⟩ := hl.parts
  obtain ⟨_, _, b2, o2, k3, k4⟩ := (HBV.out.below hb1).parts
  have H3 := Lib.hid h3
  have H4 := Lib.hid h4
  have K3 := Lib.hid k3
  have K4 := Lib.hid k4
  clear hl hb1 h3 h4 k3 k4 HM HV HC HXV RA RX RS HBV
  by_cases hnm : m = q
  · subst hnm
    have hq : ((m : Int) == (m : Int)) = true := beq_self_eq_true _
    go_wp2
    go_loopw [9] (fun i wr => ∃ (k : Nat), i = .int .i64 k ∧ k ≤ m ∧ (∀ j, j < k → sumTo n (fun l => A j l * xv l) = h j) ∧ Below w1.heap.size w1 wr) (fun i _ => m - (intOf i).toNat)
    case atStart => exact ⟨0, rfl, by omega, fun j hj => by omega, Below.refl _ _⟩
    case round =>
      obtain ⟨k, rfl, hk, hall, hbr⟩ := hrel
      have HA := Lib.hid hall
      have HB := Lib.hid hbr
      clear hall hbr
      by_cases hkn : k = m
      · obtain rfl : m = k := hkn.symm
        obtain rfl : X = true := by first | exact HXX.out.2 ⟨rfl, HA.out⟩ | exact HXX.out.2 ⟨trivial, HA.out⟩ | exact HXX.out.2 HA.out
        go_wp2
        go_ret
        exact ⟨rfl, bt HB0.out HB.out⟩
      have hkl : k < m := by omega
      have hki : (k : Int) < (m : Int) := by omega
      obtain rfl := H3.out (by omega)
      obtain rfl := K3.out (by omega)
      obtain ⟨x, hx4, hxq⟩ := H4.out k hkl
      obtain ⟨y, hy4, hyq⟩ := K4.out k hkl
      obtain ⟨x0, x1, x2, x3⟩ := hx4.at HB.out
      obtain ⟨y0, y1, y2, y3⟩ := hy4.at HB.out
      have HX := Lib.hid (show RRatR wr (.agg #[.bool x.n1, .slice x.a1 x.k1 x.c1, .bool x.n2, .slice x.a2 x.k2 x.c2]) (sumTo n (fun l => A k l * xv l)) from RRatR.below hxq HB.out)
      have HY := Lib.hid (show RRatR wr (.agg #[.bool y.n1, .slice y.a1 y.k1 y.c1, .bool y.n2, .slice y.a2 y.k2 y.c2]) (h k) from RRatR.below hyq HB.out)
      have r1 := RF.out k hkl
      have r2 := RH.out k hkl
      clear hx4 hxq hy4 hyq
      obtain ⟨cv, hcv⟩ : ∃ z, ((sumTo n (fun l => A k l * xv l)).num * (h k).den - (h k).num * (sumTo n (fun l => A k l * xv l)).den).sign = z := ⟨_, rfl⟩
      have HCV := Lib.hid hcv
      by_cases he : sumTo n (fun l => A k l * xv l) = h k
      · have hz : cv = 0 := by rw [← hcv]; exact cmpQ_zero.2 he
        have HA2 := Lib.hid (show ∀ j, j < k + 1 → sumTo n (fun l => A j l * xv l) = h j from fun j hj => by
          by_cases e : j = k
          · rw [e]; exact he
          · exact HA.out j (by omega))
        subst hz
        clear hcv he
        go_wp2_with fail
        have HL := Lib.hid (fun (w' : World) (hb : Below wr.heap.size wr w') => (⟨hb, keepc hb x0, keepc hb x1, keepc hb x2, keepc hb x3, keepc hb y0, keepc hb y1, keepc hb y2, keepc hb y3⟩ : Below wr.heap.size wr w' ∧ w'.cell? ⟨b, o + k * 4, none⟩ = some (.bool x.n1) ∧ w'.cell? ⟨b, o + k * 4 + 1, none⟩ = some (.slice x.a1 x.k1 x.c1) ∧ w'.cell? ⟨b, o + k * 4 + 2, none⟩ = some (.bool x.n2) ∧ w'.cell? ⟨b, o + k * 4 + 3, none⟩ = some (.slice x.a2 x.k2 x.c2) ∧ w'.cell? ⟨b2, o2 + k * 4, none⟩ = some (.bool y.n1) ∧ w'.cell? ⟨b2, o2 + k * 4 + 1, none⟩ = some (.slice y.a1 y.k1 y.c1) ∧ w'.cell? ⟨b2, o2 + k * 4 + 2, none⟩ = some (.bool y.n2) ∧ w'.cell? ⟨b2, o2 + k * 4 + 3, none⟩ = some (.slice y.a2 y.k2 y.c2)))
        have HI := Lib.hid (fun (w' : World) (hs : Below wr.heap.size wr w' ∧ w'.cell? ⟨b, o + k * 4, none⟩ = some (.bool x.n1) ∧ w'.cell? ⟨b, o + k * 4 + 1, none⟩ = some (.slice x.a1 x.k1 x.c1) ∧ w'.cell? ⟨b, o + k * 4 + 2, none⟩ = some (.bool x.n2) ∧ w'.cell? ⟨b, o + k * 4 + 3, none⟩ = some (.slice x.a2 x.k2 x.c2) ∧ w'.cell? ⟨b2, o2 + k * 4, none⟩ = some (.bool y.n1) ∧ w'.cell? ⟨b2, o2 + k * 4 + 1, none⟩ = some (.slice y.a1 y.k1 y.c1) ∧ w'.cell? ⟨b2, o2 + k * 4 + 2, none⟩ = some (.bool y.n2) ∧ w'.cell? ⟨b2, o2 + k * 4 + 3, none⟩ = some (.slice y.a2 y.k2 y.c2)) => hs.1)
        have HS := Lib.hid (Below.refl wr.heap.size wr)
        go_region_held3 (fun w' => Below wr.heap.size wr w' ∧ w'.cell? ⟨b, o + k * 4, none⟩ = some (.bool x.n1) ∧ w'.cell? ⟨b, o + k * 4 + 1, none⟩ = some (.slice x.a1 x.k1 x.c1) ∧ w'.cell? ⟨b, o + k * 4 + 2, none⟩ = some (.bool x.n2) ∧ w'.cell? ⟨b, o + k * 4 + 3, none⟩ = some (.slice x.a2 x.k2 x.c2) ∧ w'.cell? ⟨b2, o2 + k * 4, none⟩ = some (.bool y.n1) ∧ w'.cell? ⟨b2, o2 + k * 4 + 1, none⟩ = some (.slice y.a1 y.k1 y.c1) ∧ w'.cell? ⟨b2, o2 + k * 4 + 2, none⟩ = some (.bool y.n2) ∧ w'.cell? ⟨b2, o2 + k * 4 + 3, none⟩ = some (.slice y.a2 y.k2 y.c2))
          (first | assumption | with_reducible exact HL.out _ (Below.drew HS.out) | with_reducible exact HL.out _ (bt (HI.out _ (by assumption)) (by assumption)))
          (first | (go_at_call 42; (with_reducible refine (rratcmp_any (HX.out.below (HI.out _ (by assumption))) (HY.out.below (HI.out _ (by assumption))) r1 r2 hNN).mono ?_); rintro e w1 ⟨rfl, hb1⟩; rw [HCV.out]))
        have HB1 := Lib.hid (bt HB.out (bt (Below.drew HS.out) hb1))
        clear x0 x1 x2 x3 y0 y1 y2 y3 hb1 HL HI HS
        go_wp2
        refine ⟨⟨k + 1, by go_num, by omega, HA2.out, HB1.out⟩, ?_⟩
        simp [intOf]; omega
      · have hz : ¬ cv = 0 := fun e => he (cmpQ_zero.1 (by rw [← e, ← hcv]; rfl))
        have hz1 : (cv == 0) = false := by rw [beq_eq_false_iff_ne]; exact hz
        have hz2 : (cv != 0) = true := by rw [bne, hz1]; rfl
        obtain rfl : X = false := by
          rcases hx : X with _ | _
          · rfl
          · exact absurd ((HXX.out.1 hx).2 k hkl) he
        clear hcv he hz
        go_wp2_with fail
        have HL := Lib.hid (fun (w' : World) (hb : Below wr.heap.size wr w') => (⟨hb, keepc hb x0, keepc hb x1, keepc hb x2, keepc hb x3, keepc hb y0, keepc hb y1, keepc hb y2, keepc hb y3⟩ : Below wr.heap.size wr w' ∧ w'.cell? ⟨b, o + k * 4, none⟩ = some (.bool x.n1) ∧ w'.cell? ⟨b, o + k * 4 + 1, none⟩ = some (.slice x.a1 x.k1 x.c1) ∧ w'.cell? ⟨b, o + k * 4 + 2, none⟩ = some (.bool x.n2) ∧ w'.cell? ⟨b, o + k * 4 + 3, none⟩ = some (.slice x.a2 x.k2 x.c2) ∧ w'.cell? ⟨b2, o2 + k * 4, none⟩ = some (.bool y.n1) ∧ w'.cell? ⟨b2, o2 + k * 4 + 1, none⟩ = some (.slice y.a1 y.k1 y.c1) ∧ w'.cell? ⟨b2, o2 + k * 4 + 2, none⟩ = some (.bool y.n2) ∧ w'.cell? ⟨b2, o2 + k * 4 + 3, none⟩ = some (.slice y.a2 y.k2 y.c2)))
        have HI := Lib.hid (fun (w' : World) (hs : Below wr.heap.size wr w' ∧ w'.cell? ⟨b, o + k * 4, none⟩ = some (.bool x.n1) ∧ w'.cell? ⟨b, o + k * 4 + 1, none⟩ = some (.slice x.a1 x.k1 x.c1) ∧ w'.cell? ⟨b, o + k * 4 + 2, none⟩ = some (.bool x.n2) ∧ w'.cell? ⟨b, o + k * 4 + 3, none⟩ = some (.slice x.a2 x.k2 x.c2) ∧ w'.cell? ⟨b2, o2 + k * 4, none⟩ = some (.bool y.n1) ∧ w'.cell? ⟨b2, o2 + k * 4 + 1, none⟩ = some (.slice y.a1 y.k1 y.c1) ∧ w'.cell? ⟨b2, o2 + k * 4 + 2, none⟩ = some (.bool y.n2) ∧ w'.cell? ⟨b2, o2 + k * 4 + 3, none⟩ = some (.slice y.a2 y.k2 y.c2)) => hs.1)
        have HS := Lib.hid (Below.refl wr.heap.size wr)
        go_region_held3 (fun w' => Below wr.heap.size wr w' ∧ w'.cell? ⟨b, o + k * 4, none⟩ = some (.bool x.n1) ∧ w'.cell? ⟨b, o + k * 4 + 1, none⟩ = some (.slice x.a1 x.k1 x.c1) ∧ w'.cell? ⟨b, o + k * 4 + 2, none⟩ = some (.bool x.n2) ∧ w'.cell? ⟨b, o + k * 4 + 3, none⟩ = some (.slice x.a2 x.k2 x.c2) ∧ w'.cell? ⟨b2, o2 + k * 4, none⟩ = some (.bool y.n1) ∧ w'.cell? ⟨b2, o2 + k * 4 + 1, none⟩ = some (.slice y.a1 y.k1 y.c1) ∧ w'.cell? ⟨b2, o2 + k * 4 + 2, none⟩ = some (.bool y.n2) ∧ w'.cell? ⟨b2, o2 + k * 4 + 3, none⟩ = some (.slice y.a2 y.k2 y.c2))
          (first | assumption | with_reducible exact HL.out _ (Below.drew HS.out) | with_reducible exact HL.out _ (bt (HI.out _ (by assumption)) (by assumption)))
          (first | (go_at_call 42; (with_reducible refine (rratcmp_any (HX.out.below (HI.out _ (by assumption))) (HY.out.below (HI.out _ (by assumption))) r1 r2 hNN).mono ?_); rintro e w1 ⟨rfl, hb1⟩; rw [HCV.out]))
        have HB1 := Lib.hid (bt HB.out (bt (Below.drew HS.out) hb1))
        clear x0 x1 x2 x3 y0 y1 y2 y3 hb1 HL HI HS
        go_wp2
        go_ret
        exact ⟨rfl, bt HB0.out HB1.out⟩
  · have hq : ((q : Int) == (m : Int)) = false := by rw [beq_eq_false_iff_ne]; omega
    have hq2 : ((q : Int) != (m : Int)) = true := by rw [bne_iff_ne]; omega
    obtain rfl : X = false := by
      rcases hx : X with _ | _
      · rfl
      · exact absurd (HXX.out.1 hx).1 hnm
    go_wp2
    go_ret
    exact ⟨rfl, HB0.out⟩
end Go.Proofs.YtjphfdlpcakpeaaGreatDoor
