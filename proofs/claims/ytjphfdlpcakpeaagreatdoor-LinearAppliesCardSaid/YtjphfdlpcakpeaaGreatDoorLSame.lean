/- The law package's same of layer 22: equal vectors. -/
import Derived.Test.YtjphfdlpcakpeaaGreatDoorRMat
import Derived.Test.YtjphfdlpcakpeaaGreatDoorRRatT
import Derived.Test.YtjphfdlpcakpeaaGreatDoorLinE
namespace Go.Proofs.YtjphfdlpcakpeaaGreatDoor
open Go.RowKit Tally

set_option maxHeartbeats 4000000 in
set_option maxRecDepth 100000 in
theorem lsame_yes {w : World} {v u : Value} {n N : Nat} {f : Nat → Rat} (hx : RatsR w v n f) (hy : rRatsR w u n f) (rf : ∀ k, k < n → Rg N (f k)) (hN : N ≤ 1000000000000) (ht : Tab w) :
    Calls Tryz.prog 13 #[v, u] w fun e w' => e = .returned (.bool true) ∧ Below w.heap.size w w' := by
  obtain ⟨a, c, rfl⟩ := hx.shape
  obtain ⟨a2, c2, rfl⟩ := hy.shape
  obtain ⟨h1, h2, b, o, h3, h4⟩ := hx.parts
  obtain ⟨k1, k2, b2, o2, k3, k4⟩ := hy.parts
  have H3 := Lib.hid h3
  have H4 := Lib.hid h4
  have K3 := Lib.hid k3
  have K4 := Lib.hid k4
  have RF := Lib.hid rf
  have HT := Lib.hid ht
  clear hx hy h3 h4 k3 k4 rf ht
  have hq : ((n : Int) == (n : Int)) = true := beq_self_eq_true _
  go_enter Tryz.func13, Tryz.ntmps13
  go_wp2_with fail
  go_loopw [5] (fun i wr => ∃ (k : Nat), i = .int .i64 k ∧ k ≤ n ∧ Below w.heap.size w wr) (fun i _ => n - (intOf i).toNat)
  case atStart => exact ⟨0, rfl, by omega, Below.refl _ _⟩
  case round =>
    obtain ⟨k, rfl, hk, hbr⟩ := hrel
    have HB := Lib.hid hbr
    clear hbr
    by_cases hkn : k = n
    · obtain rfl : n = k := hkn.symm
      go_wp2
      go_ret
      exact ⟨rfl, HB.out⟩
    have hkl : k < n := by omega
    have hki : (k : Int) < (n : Int) := by omega
    obtain rfl := H3.out (by omega)
    obtain rfl := K3.out (by omega)
    obtain ⟨x, hx4, hxq⟩ := H4.out k hkl
    obtain ⟨y, hy4, hyq⟩ := K4.out k hkl
    obtain ⟨x0, x1, x2, x3⟩ := hx4.at HB.out
    obtain ⟨y0, y1, y2, y3⟩ := hy4.at HB.out
    have HX := Lib.hid (show RatR wr (.agg #[.bool x.n1, .slice x.a1 x.k1 x.c1, .bool x.n2, .slice x.a2 x.k2 x.c2]) (f k) from RatR.below hxq HB.out)
    have HY := Lib.hid (show RRatR wr (.agg #[.bool y.n1, .slice y.a1 y.k1 y.c1, .bool y.n2, .slice y.a2 y.k2 y.c2]) (f k) from RRatR.below hyq HB.out)
    have r1 := RF.out k hkl
    have HTr := Lib.hid (HT.out.below HB.out)
    obtain ⟨X, hX⟩ : ∃ X : ByteArray, ratText (f k) = X := ⟨_, rfl⟩
    have HXX := Lib.hid hX
    clear hx4 hxq hy4 hyq hX
    go_wp2_with fail
    have HL := Lib.hid (fun (w' : World) (hb : Below wr.heap.size wr w') => (⟨hb, keepc hb x0, keepc hb x1, keepc hb x2, keepc hb x3, keepc hb y0, keepc hb y1, keepc hb y2, keepc hb y3⟩ : Below wr.heap.size wr w' ∧ w'.cell? ⟨b, o + k * 4, none⟩ = some (.bool x.n1) ∧ w'.cell? ⟨b, o + k * 4 + 1, none⟩ = some (.slice x.a1 x.k1 x.c1) ∧ w'.cell? ⟨b, o + k * 4 + 2, none⟩ = some (.bool x.n2) ∧ w'.cell? ⟨b, o + k * 4 + 3, none⟩ = some (.slice x.a2 x.k2 x.c2) ∧ w'.cell? ⟨b2, o2 + k * 4, none⟩ = some (.bool y.n1) ∧ w'.cell? ⟨b2, o2 + k * 4 + 1, none⟩ = some (.slice y.a1 y.k1 y.c1) ∧ w'.cell? ⟨b2, o2 + k * 4 + 2, none⟩ = some (.bool y.n2) ∧ w'.cell? ⟨b2, o2 + k * 4 + 3, none⟩ = some (.slice y.a2 y.k2 y.c2)))
    have HI := Lib.hid (fun (w' : World) (hs : Below wr.heap.size wr w' ∧ w'.cell? ⟨b, o + k * 4, none⟩ = some (.bool x.n1) ∧ w'.cell? ⟨b, o + k * 4 + 1, none⟩ = some (.slice x.a1 x.k1 x.c1) ∧ w'.cell? ⟨b, o + k * 4 + 2, none⟩ = some (.bool x.n2) ∧ w'.cell? ⟨b, o + k * 4 + 3, none⟩ = some (.slice x.a2 x.k2 x.c2) ∧ w'.cell? ⟨b2, o2 + k * 4, none⟩ = some (.bool y.n1) ∧ w'.cell? ⟨b2, o2 + k * 4 + 1, none⟩ = some (.slice y.a1 y.k1 y.c1) ∧ w'.cell? ⟨b2, o2 + k * 4 + 2, none⟩ = some (.bool y.n2) ∧ w'.cell? ⟨b2, o2 + k * 4 + 3, none⟩ = some (.slice y.a2 y.k2 y.c2)) => hs.1)
    have HS := Lib.hid (Below.refl wr.heap.size wr)
    go_region_held3 (fun w' => Below wr.heap.size wr w' ∧ w'.cell? ⟨b, o + k * 4, none⟩ = some (.bool x.n1) ∧ w'.cell? ⟨b, o + k * 4 + 1, none⟩ = some (.slice x.a1 x.k1 x.c1) ∧ w'.cell? ⟨b, o + k * 4 + 2, none⟩ = some (.bool x.n2) ∧ w'.cell? ⟨b, o + k * 4 + 3, none⟩ = some (.slice x.a2 x.k2 x.c2) ∧ w'.cell? ⟨b2, o2 + k * 4, none⟩ = some (.bool y.n1) ∧ w'.cell? ⟨b2, o2 + k * 4 + 1, none⟩ = some (.slice y.a1 y.k1 y.c1) ∧ w'.cell? ⟨b2, o2 + k * 4 + 2, none⟩ = some (.bool y.n2) ∧ w'.cell? ⟨b2, o2 + k * 4 + 3, none⟩ = some (.slice y.a2 y.k2 y.c2))
      (first | assumption | with_reducible exact HL.out _ (Below.drew HS.out) | with_reducible exact HL.out _ (bt (HI.out _ (by assumption)) (by assumption)))
      (first | (go_at_call 24; (with_reducible refine (rattext_any (HX.out.below (HI.out _ (by assumption))) (HTr.out.below (HI.out _ (by assumption))) r1 hN).mono ?_); rintro e w1 ⟨rfl, hb1⟩; rw [HXX.out]) | (go_at_call 33; (with_reducible refine (rrattext_any (HY.out.below (HI.out _ (by assumption))) r1 hN).mono ?_); rintro e w2 ⟨rfl, hb2⟩; rw [HXX.out]))
    have HB1 := Lib.hid (bt HB.out (bt (bt (Below.drew HS.out) hb1) hb2))
    clear x0 x1 x2 x3 y0 y1 y2 y3 hb1 hb2 HL HI HS
    go_wp2
    refine ⟨⟨k + 1, by go_num, by omega, HB1.out⟩, ?_⟩
    simp [intOf]; omega
end Go.Proofs.YtjphfdlpcakpeaaGreatDoor
