/- The law package's equal (layer 22). -/
import Derived.Test.YtjphfdlpcakpeaaDoorMat
import Derived.Test.YtjphfdlpcakpeaaDoorRatC
import Derived.Test.YtjphfdlpcakpeaaDoorPlainR
namespace Go.Proofs.YtjphfdlpcakpeaaDoor
open Go.RowKit Tally

theorem Four.at {B : Nat} {w w' : World} {b o : Nat} {x : Num} (h : Four w b o x) (hb : Below B w w') (hB : B = w.heap.size := by rfl) : Four w' b o x := by subst hB; exact h.below hb

set_option maxHeartbeats 4000000 in
set_option maxRecDepth 100000 in
theorem linequal_any {w : World} {v u : Value} {n m N : Nat} {f h : Nat → Rat} (hx : RatsR w v n f) (hy : RatsR w u m h) (rf : ∀ k, k < n → Rg N (f k)) (rh : ∀ k, k < m → Rg N (h k)) (hNN : 2 * N + 2 ≤ 999999999990) (X : Bool) (hX : X = true ↔ n = m ∧ ∀ k, k < n → f k = h k) :
    Calls Tryd.prog 13 #[v, u] w fun e w' => e = .returned (.bool X) ∧ Below w.heap.size w w' := by
  obtain ⟨a, c, rfl⟩ := hx.shape
  obtain ⟨a2, c2, rfl⟩ := hy.shape
  obtain ⟨h1, h2, b, o, h3, h4⟩ := hx.parts
  obtain ⟨k1, k2, b2, o2, k3, k4⟩ := hy.parts
  have H3 := Lib.hid h3
  have H4 := Lib.hid h4
  have K3 := Lib.hid k3
  have K4 := Lib.hid k4
  have RF := Lib.hid rf
  have RH := Lib.hid rh
  have HXX := Lib.hid hX
  clear hx hy h3 h4 k3 k4 rf rh hX
  by_cases hnm : n = m
  · subst hnm
    have hq : ((n : Int) == (n : Int)) = true := beq_self_eq_true _
    go_enter Tryd.func13, Tryd.ntmps13
    go_wp2
    go_loopw [5] (fun i wr => ∃ (k : Nat), i = .int .i64 k ∧ k ≤ n ∧ (∀ j, j < k → f j = h j) ∧ Below w.heap.size w wr) (fun i _ => n - (intOf i).toNat)
    case atStart => exact ⟨0, rfl, by omega, fun j hj => by omega, Below.refl _ _⟩
    case round =>
      obtain ⟨k, rfl, hk, hall, hbr⟩ := hrel
      have HA := Lib.hid hall
      have HB := Lib.hid hbr
      clear hall hbr
      by_cases hkn : k = n
      · obtain rfl : n = k := hkn.symm
        obtain rfl : X = true := by first | exact HXX.out.2 ⟨rfl, HA.out⟩ | exact HXX.out.2 ⟨trivial, HA.out⟩ | exact HXX.out.2 HA.out
        go_wp2
        go_ret
        exact ⟨rfl, HB.out⟩
      have hkl : k < n := by omega
      have hki : (k : Int) < (n : Int) := by omega
      obtain rfl := H3.out (by omega)
      obtain rfl := K3.out (by omega)
      obtain ⟨x, hx4, hxq⟩ := H4.out k hkl
      obtain ⟨y, hy4, hyq⟩ := K4.out k hkl
      obtain ⟨x0, x1, x2, x3⟩ := hx4.at HB.out
      obtain ⟨y0, y1, y2, y3⟩ := hy4.at HB.out
      have HX := Lib.hid (show RatR wr (.agg #[.bool x.n1, .slice x.a1 x.k1 x.c1, .bool x.n2, .slice x.a2 x.k2 x.c2]) (f k) from RatR.below hxq HB.out)
      have HY := Lib.hid (show RatR wr (.agg #[.bool y.n1, .slice y.a1 y.k1 y.c1, .bool y.n2, .slice y.a2 y.k2 y.c2]) (h k) from RatR.below hyq HB.out)
      have r1 := RF.out k hkl
      have r2 := RH.out k hkl
      clear hx4 hxq hy4 hyq
      obtain ⟨cv, hcv⟩ : ∃ z, ((f k).num * (h k).den - (h k).num * (f k).den).sign = z := ⟨_, rfl⟩
      have HCV := Lib.hid hcv
      by_cases he : f k = h k
      · have hz : cv = 0 := by rw [← hcv]; exact cmpQ_zero.2 he
        have HA2 := Lib.hid (show ∀ j, j < k + 1 → f j = h j from fun j hj => by
          by_cases e : j = k
          · rw [e]; exact he
          · exact HA.out j (by omega))
        subst hz
        clear hcv he
        go_wp2_with fail
        have HL := Lib.hid (fun (w' : World) (hb : Below wr.heap.size wr w') => (⟨hb, keepc hb x0, keepc hb x1, keepc hb x2, keepc hb x3, keepc hb y0, keepc hb y1, keepc hb y2, keepc hb y3⟩ : Below wr.heap.size wr w' ∧ w'.cell? ⟨b, o + k * 4, none⟩ = some (.bool x.n1) ∧ w'.cell? ⟨b, o + k * 4 + 1, none⟩ = some (.slice x.a1 x.k1 x.c1) ∧ w'.cell? ⟨b, o + k * 4 + 2, none⟩ = some (.bool x.n2) ∧ w'.cell? ⟨b, o + k * 4 + 3, none⟩ = some (.slice x.a2 x.k2 x.c2) ∧ w'.cell? ⟨b2, o2 + k * 4, none⟩ = some (.bool y.n1) ∧ w'.cell? ⟨b2, o2 + k * 4 + 1, none⟩ = some (.slice y.a1 y.k1 y.c1) ∧ w'.cell? ⟨b2, o2 + k * 4 + 2, none⟩ = some (.bool y.n2) ∧ w'.cell? ⟨b2, o2 + k * 4 + 3, none⟩ = some (.slice y.a2 y.k2 y.c2)))
        have HI := Lib.hid (fun (w' : World) (hs : Below wr.heap.size wr w' ∧ w'.cell? ⟨b, o + k * 4, none⟩ = some (.bool x.n1) ∧ w'.cell? ⟨b, o + k * 4 + 1, none⟩ = some (.slice x.a1 x.k1 x.c1) ∧ w'.cell? ⟨b, o + k * 4 + 2, none⟩ = some (.bool x.n2) ∧ w'.cell? ⟨b, o + k * 4 + 3, none⟩ = some (.slice x.a2 x.k2 x.c2) ∧ w'.cell? ⟨b2, o2 + k * 4, none⟩ = some (.bool y.n1) ∧ w'.cell? ⟨b2, o2 + k * 4 + 1, none⟩ = some (.slice y.a1 y.k1 y.c1) ∧ w'.cell? ⟨b2, o2 + k * 4 + 2, none⟩ = some (.bool y.n2) ∧ w'.cell? ⟨b2, o2 + k * 4 + 3, none⟩ = some (.slice y.a2 y.k2 y.c2)) => hs.1)
        have HS := Lib.hid (Below.refl wr.heap.size wr)
        go_region_held3 (fun w' => Below wr.heap.size wr w' ∧ w'.cell? ⟨b, o + k * 4, none⟩ = some (.bool x.n1) ∧ w'.cell? ⟨b, o + k * 4 + 1, none⟩ = some (.slice x.a1 x.k1 x.c1) ∧ w'.cell? ⟨b, o + k * 4 + 2, none⟩ = some (.bool x.n2) ∧ w'.cell? ⟨b, o + k * 4 + 3, none⟩ = some (.slice x.a2 x.k2 x.c2) ∧ w'.cell? ⟨b2, o2 + k * 4, none⟩ = some (.bool y.n1) ∧ w'.cell? ⟨b2, o2 + k * 4 + 1, none⟩ = some (.slice y.a1 y.k1 y.c1) ∧ w'.cell? ⟨b2, o2 + k * 4 + 2, none⟩ = some (.bool y.n2) ∧ w'.cell? ⟨b2, o2 + k * 4 + 3, none⟩ = some (.slice y.a2 y.k2 y.c2))
          (first | assumption | with_reducible exact HL.out _ (Below.drew HS.out) | with_reducible exact HL.out _ (bt (HI.out _ (by assumption)) (by assumption)))
          (first | (go_at_call 16; (with_reducible refine (ratcmp_any (HX.out.below (HI.out _ (by assumption))) (HY.out.below (HI.out _ (by assumption))) r1 r2 hNN).mono ?_); rintro e w1 ⟨rfl, hb1⟩; rw [HCV.out]))
        have HB1 := Lib.hid (bt HB.out (bt (Below.drew HS.out) hb1))
        clear x0 x1 x2 x3 y0 y1 y2 y3 hb1 HL HI HS
        go_wp2
        refine ⟨⟨k + 1, by go_num, by omega, HA2.out, HB1.out⟩, ?_⟩
        simp [intOf]; omega
      · have hz : ¬ cv = 0 := fun e => he (cmpQ_zero.1 (by rw [← e, ← hcv]; rfl))
        have hz1 : (cv == 0) = false := by rw [beq_eq_false_iff_ne]; exact hz
        have hz2 : (cv != 0) = true := by rw [bne, hz1]; rfl
        obtain rfl : X = false := by
          rcases hx : X with _ | _
          · rfl
          · exact absurd ((HXX.out.1 hx).2 k hkl) he
        clear hcv he hz
        go_wp2_with fail
        have HL := Lib.hid (fun (w' : World) (hb : Below wr.heap.size wr w') => (⟨hb, keepc hb x0, keepc hb x1, keepc hb x2, keepc hb x3, keepc hb y0, keepc hb y1, keepc hb y2, keepc hb y3⟩ : Below wr.heap.size wr w' ∧ w'.cell? ⟨b, o + k * 4, none⟩ = some (.bool x.n1) ∧ w'.cell? ⟨b, o + k * 4 + 1, none⟩ = some (.slice x.a1 x.k1 x.c1) ∧ w'.cell? ⟨b, o + k * 4 + 2, none⟩ = some (.bool x.n2) ∧ w'.cell? ⟨b, o + k * 4 + 3, none⟩ = some (.slice x.a2 x.k2 x.c2) ∧ w'.cell? ⟨b2, o2 + k * 4, none⟩ = some (.bool y.n1) ∧ w'.cell? ⟨b2, o2 + k * 4 + 1, none⟩ = some (.slice y.a1 y.k1 y.c1) ∧ w'.cell? ⟨b2, o2 + k * 4 + 2, none⟩ = some (.bool y.n2) ∧ w'.cell? ⟨b2, o2 + k * 4 + 3, none⟩ = some (.slice y.a2 y.k2 y.c2)))
        have HI := Lib.hid (fun (w' : World) (hs : Below wr.heap.size wr w' ∧ w'.cell? ⟨b, o + k * 4, none⟩ = some (.bool x.n1) ∧ w'.cell? ⟨b, o + k * 4 + 1, none⟩ = some (.slice x.a1 x.k1 x.c1) ∧ w'.cell? ⟨b, o + k * 4 + 2, none⟩ = some (.bool x.n2) ∧ w'.cell? ⟨b, o + k * 4 + 3, none⟩ = some (.slice x.a2 x.k2 x.c2) ∧ w'.cell? ⟨b2, o2 + k * 4, none⟩ = some (.bool y.n1) ∧ w'.cell? ⟨b2, o2 + k * 4 + 1, none⟩ = some (.slice y.a1 y.k1 y.c1) ∧ w'.cell? ⟨b2, o2 + k * 4 + 2, none⟩ = some (.bool y.n2) ∧ w'.cell? ⟨b2, o2 + k * 4 + 3, none⟩ = some (.slice y.a2 y.k2 y.c2)) => hs.1)
        have HS := Lib.hid (Below.refl wr.heap.size wr)
        go_region_held3 (fun w' => Below wr.heap.size wr w' ∧ w'.cell? ⟨b, o + k * 4, none⟩ = some (.bool x.n1) ∧ w'.cell? ⟨b, o + k * 4 + 1, none⟩ = some (.slice x.a1 x.k1 x.c1) ∧ w'.cell? ⟨b, o + k * 4 + 2, none⟩ = some (.bool x.n2) ∧ w'.cell? ⟨b, o + k * 4 + 3, none⟩ = some (.slice x.a2 x.k2 x.c2) ∧ w'.cell? ⟨b2, o2 + k * 4, none⟩ = some (.bool y.n1) ∧ w'.cell? ⟨b2, o2 + k * 4 + 1, none⟩ = some (.slice y.a1 y.k1 y.c1) ∧ w'.cell? ⟨b2, o2 + k * 4 + 2, none⟩ = some (.bool y.n2) ∧ w'.cell? ⟨b2, o2 + k * 4 + 3, none⟩ = some (.slice y.a2 y.k2 y.c2))
          (first | assumption | with_reducible exact HL.out _ (Below.drew HS.out) | with_reducible exact HL.out _ (bt (HI.out _ (by assumption)) (by assumption)))
          (first | (go_at_call 16; (with_reducible refine (ratcmp_any (HX.out.below (HI.out _ (by assumption))) (HY.out.below (HI.out _ (by assumption))) r1 r2 hNN).mono ?_); rintro e w1 ⟨rfl, hb1⟩; rw [HCV.out]))
        have HB1 := Lib.hid (bt HB.out (bt (Below.drew HS.out) hb1))
        clear x0 x1 x2 x3 y0 y1 y2 y3 hb1 HL HI HS
        go_wp2
        go_ret
        exact ⟨rfl, HB1.out⟩
  · have hq : ((n : Int) == (m : Int)) = false := by rw [beq_eq_false_iff_ne]; omega
    have hq2 : ((n : Int) != (m : Int)) = true := by rw [bne_iff_ne]; omega
    obtain rfl : X = false := by
      rcases hx : X with _ | _
      · rfl
      · exact absurd (HXX.out.1 hx).1 hnm
    go_enter Tryd.func13, Tryd.ntmps13
    go_wp2
    go_ret
    exact ⟨rfl, Below.refl _ _⟩
end Go.Proofs.YtjphfdlpcakpeaaDoor
