/- equal of layer 02. -/
import Derived.Test.YtikpafocankggaaGreatDoorRatOps
namespace Go.Proofs.YtikpafocankggaaGreatDoor
open Go.RowKit Tally Go.Lib
set_option maxHeartbeats 2000000 in
set_option maxRecDepth 100000 in
theorem ratequal_any {w : World} {v u : Value} {q : Rat} {N : Nat} (h : RatR w v q) (k : RatR w u q) (ht : Tab w) (hq : Rg N q) (hN : 2 * N + 2 ≤ 999999999990) :
  Calls Tryz.prog 33 #[v, u] w (fun e w' => e = .returned (.bool true) ∧ Below w.heap.size w w') := by
 obtain ⟨n1, a1, k1, c1, n2, a2, k2, c2, rfl⟩ := h.shape
 obtain ⟨n3, a3, k3, c3, n4, a4, k4, c4, rfl⟩ := k.shape
 have HT := hid ht
 clear ht
 obtain ⟨X, hX⟩ : ∃ X : ByteArray, ratText q = X := ⟨_, rfl⟩
 have HX := hid hX
 have E0 := hid (cmpQ_self q)
 clear hX
 have HP := hid h
 have HQ := hid k
 clear h k
 go_enter Tryz.func33, Tryz.ntmps33
 go_wp2_with fail
 obtain ⟨W1, hW, hs, hb, b0, b1⟩ := alloc2 w (.cells #[.bool n1, .slice a1 k1 c1, .bool n2, .slice a2 k2 c2] 27) (.cells #[.bool n3, .slice a3 k3 c3, .bool n4, .slice a4 k4 c4] 27)
 rw [← hW]
 have HB := hid hb
 replace HP := hid (HP.out.below hb)
 replace HQ := hid (HQ.out.below hb)
 replace HT := hid (HT.out.below hb)
 have BP := hid b0
 have BU := hid b1
 clear hW hs hb b0 b1
 have lt1_P : w.heap.size < W1.heap.size := (Array.getElem?_eq_some_iff.1 BP.out).1
 have lt2_U : w.heap.size + 1 < W1.heap.size := (Array.getElem?_eq_some_iff.1 BU.out).1
 obtain ⟨⟨cP0, cP1, cP2, cP3⟩, fP0, fP1, fP2, fP3⟩ := res4_facts BP.out
 obtain ⟨⟨cU0, cU1, cU2, cU3⟩, fU0, fU1, fU2, fU3⟩ := res4_facts BU.out
 have HL2 := hid (fun (w' : World) (hb : Below W1.heap.size W1 w') => (⟨hb, keepc hb cP0, keepc hb cP1, keepc hb cP2, keepc hb cP3, keepc hb cU0, keepc hb cU1, keepc hb cU2, keepc hb cU3⟩ : Below W1.heap.size W1 w' ∧ w'.cell? ⟨w.heap.size, 0, none⟩ = some (.bool n1) ∧ w'.cell? ⟨w.heap.size, 1, none⟩ = some (.slice a1 k1 c1) ∧ w'.cell? ⟨w.heap.size, 2, none⟩ = some (.bool n2) ∧ w'.cell? ⟨w.heap.size, 3, none⟩ = some (.slice a2 k2 c2) ∧ w'.cell? ⟨w.heap.size + 1, 0, none⟩ = some (.bool n3) ∧ w'.cell? ⟨w.heap.size + 1, 1, none⟩ = some (.slice a3 k3 c3) ∧ w'.cell? ⟨w.heap.size + 1, 2, none⟩ = some (.bool n4) ∧ w'.cell? ⟨w.heap.size + 1, 3, none⟩ = some (.slice a4 k4 c4)))
 have HI2 := hid (fun (w' : World) (hs : Below W1.heap.size W1 w' ∧ w'.cell? ⟨w.heap.size, 0, none⟩ = some (.bool n1) ∧ w'.cell? ⟨w.heap.size, 1, none⟩ = some (.slice a1 k1 c1) ∧ w'.cell? ⟨w.heap.size, 2, none⟩ = some (.bool n2) ∧ w'.cell? ⟨w.heap.size, 3, none⟩ = some (.slice a2 k2 c2) ∧ w'.cell? ⟨w.heap.size + 1, 0, none⟩ = some (.bool n3) ∧ w'.cell? ⟨w.heap.size + 1, 1, none⟩ = some (.slice a3 k3 c3) ∧ w'.cell? ⟨w.heap.size + 1, 2, none⟩ = some (.bool n4) ∧ w'.cell? ⟨w.heap.size + 1, 3, none⟩ = some (.slice a4 k4 c4)) => hs.1)
 have HS2 := hid (Below.refl W1.heap.size W1)
 have HC2 := hid (Below.drew (Below.refl W1.heap.size W1))
 go_region_held3 (fun w' => Below W1.heap.size W1 w' ∧ w'.cell? ⟨w.heap.size, 0, none⟩ = some (.bool n1) ∧ w'.cell? ⟨w.heap.size, 1, none⟩ = some (.slice a1 k1 c1) ∧ w'.cell? ⟨w.heap.size, 2, none⟩ = some (.bool n2) ∧ w'.cell? ⟨w.heap.size, 3, none⟩ = some (.slice a2 k2 c2) ∧ w'.cell? ⟨w.heap.size + 1, 0, none⟩ = some (.bool n3) ∧ w'.cell? ⟨w.heap.size + 1, 1, none⟩ = some (.slice a3 k3 c3) ∧ w'.cell? ⟨w.heap.size + 1, 2, none⟩ = some (.bool n4) ∧ w'.cell? ⟨w.heap.size + 1, 3, none⟩ = some (.slice a4 k4 c4))
  (first | exact HL2.out _ (Below.drew HS2.out) | exact HL2.out _ (bt (HI2.out _ (by assumption)) (by assumption)))
  (first | (go_at_call 40; (with_reducible refine (cmp_r (HP.out.below (HI2.out _ (by assumption))) (HQ.out.below (HI2.out _ (by assumption))) hq hq hN).mono ?_); rintro e w3 ⟨rfl, hbr3⟩; rw [E0.out]) | (go_at_call 20; (with_reducible refine (rattext_any (HP.out.below (HI2.out _ (by assumption))) (HT.out.below (HI2.out _ (by assumption))) hq (by omega)).mono ?_); rintro e w4 ⟨rfl, hbr4⟩; rw [HX.out]) | (go_at_call 20; (with_reducible refine (rattext_any (HQ.out.below (HI2.out _ (by assumption))) (HT.out.below (HI2.out _ (by assumption))) hq (by omega)).mono ?_); rintro e w5 ⟨rfl, hbr5⟩; rw [HX.out]))
 clear cP0 cP1 cP2 cP3 fP0 fP1 fP2 fP3 cU0 cU1 cU2 cU3 fU0 fU1 fU2 fU3
 have hbR := (bt (bt (bt HC2.out hbr3) hbr4) hbr5)
 replace HP := hid (HP.out.below hbR)
 replace HQ := hid (HQ.out.below hbR)
 replace HT := hid (HT.out.below hbR)
 replace HB := hid (bt HB.out hbR)
 replace BP := hid (blk_next BP.out hbR)
 replace BU := hid (blk_next BU.out hbR)
 clear hbR hbr3 hbr4 hbr5
 go_wp2
 go_ret
 exact ⟨by simp, HB.out⟩
end Go.Proofs.YtikpafocankggaaGreatDoor
