/- The law package's equal: equal integers are equal by order and by text. -/
import Derived.Test.YtihjaakkpnjolaaDoorLawProducts
import Derived.Test.YtihjaakkpnjolaaDoorRLimbs
namespace Go.Proofs.YtihjaakkpnjolaaDoor
open Go.RowKit Tally Go.Lib

theorem IntR.cast {w : World} {v : Value} {x y : Int} (h : IntR w v x) (e : x = y) : IntR w v y := e ▸ h
theorem RefR.cast {w : World} {v : Value} {x y : Int} (h : RefR w v x) (e : x = y) : RefR w v y := e ▸ h

set_option maxHeartbeats 1000000 in
set_option maxRecDepth 100000 in
theorem equal_any {w : World} {v u : Value} {z : Int} {N : Nat} (h : IntR w v z) (k : IntR w u z) (ht : Tab w) (hd : Dg N z) (hN : N ≤ 1000000000000) :
    Calls Tryd.prog 38 #[v, u] w fun e w' => e = .returned (.bool true) ∧ Below w.heap.size w w' := by
  have H := Lib.hid h
  have K := Lib.hid k
  have HT := Lib.hid ht
  obtain ⟨n1, s1, l1, rfl, lr1, c1, g1, z1, a1⟩ := h.parts
  obtain ⟨n2, s2, l2, rfl, lr2, c2, g2, z2, a2⟩ := k.parts
  clear h k z1 z2 g1 g2 a1 a2 c1 c2 lr1 lr2 ht
  obtain ⟨X, hX⟩ : ∃ X : ByteArray, (⟨(itoa z).toArray⟩ : ByteArray) = X := ⟨_, rfl⟩
  have BF := Lib.hid (two_boxes w n1 n2 s1 s2 25 25)
  have HX := Lib.hid hX
  have E0 := Lib.hid (show (z - z).sign = 0 by simp)
  clear hX
  go_enter Tryd.func38, Tryd.ntmps38
  go_wp2_with fail
  revert BF
  generalize ((w.alloc (.cells #[.bool n1, s1] 25)).alloc (.cells #[.bool n2, s2] 25)) = W
  intro BF
  have HQ := Lib.hid BF.out.1
  have HL := Lib.hid (fun (w' : World) (hb : Below W.heap.size W w') => (⟨hb, keepc hb BF.out.2.2.1, keepc hb BF.out.2.2.2.1, keepc hb BF.out.2.2.2.2.1, keepc hb BF.out.2.2.2.2.2⟩ : Below W.heap.size W w' ∧ w'.cell? ⟨w.heap.size, 0, none⟩ = some (.bool n1) ∧ w'.cell? ⟨w.heap.size, 1, none⟩ = some s1 ∧ w'.cell? ⟨w.heap.size + 1, 0, none⟩ = some (.bool n2) ∧ w'.cell? ⟨w.heap.size + 1, 1, none⟩ = some s2))
  have HW0 := Lib.hid (fun (w' : World) (hs : Below W.heap.size W w' ∧ w'.cell? ⟨w.heap.size, 0, none⟩ = some (.bool n1) ∧ w'.cell? ⟨w.heap.size, 1, none⟩ = some s1 ∧ w'.cell? ⟨w.heap.size + 1, 0, none⟩ = some (.bool n2) ∧ w'.cell? ⟨w.heap.size + 1, 1, none⟩ = some s2) => bt HQ.out hs.1)
  go_region_held3 (fun w' => Below W.heap.size W w' ∧ w'.cell? ⟨w.heap.size, 0, none⟩ = some (.bool n1) ∧ w'.cell? ⟨w.heap.size, 1, none⟩ = some s1 ∧ w'.cell? ⟨w.heap.size + 1, 0, none⟩ = some (.bool n2) ∧ w'.cell? ⟨w.heap.size + 1, 1, none⟩ = some s2)
    (first | exact HL.out _ (Below.drew (Below.refl _ _)) | exact HL.out _ (bt (And.left (by assumption)) (by assumption)))
    (first | (go_at_call 36; (with_reducible refine (cmp_any (H.out.below (HW0.out _ (by assumption))) (K.out.below (HW0.out _ (by assumption)))).mono ?_); rintro e w1 ⟨rfl, hb1⟩; rw [E0.out]) | (go_at_call 24; (with_reducible refine (text_any (H.out.below (HW0.out _ (by assumption))) (HT.out.below (HW0.out _ (by assumption))) hd hN).mono ?_); rintro e w2 ⟨rfl, hb2⟩; rw [HX.out]) | (go_at_call 24; (with_reducible refine (text_any (K.out.below (HW0.out _ (by assumption))) (HT.out.below (HW0.out _ (by assumption))) hd hN).mono ?_); rintro e w3 ⟨rfl, hb3⟩; rw [HX.out]))
  go_wp2
  go_ret
  first
  | exact ⟨by simp, bt HQ.out (bt (bt (bt (Below.drew (Below.refl _ _)) hb1) hb2) hb3)⟩
  | exact ⟨by simp, bt HQ.out (bt (bt (bt (Below.drew (Below.refl _ _)) hb1) (by assumption)) (by assumption))⟩
end Go.Proofs.YtihjaakkpnjolaaDoor
