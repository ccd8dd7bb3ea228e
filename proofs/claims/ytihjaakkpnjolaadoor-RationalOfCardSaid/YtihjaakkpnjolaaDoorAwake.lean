/- The law package's awake, same, both. -/
import Derived.Test.YtihjaakkpnjolaaDoorText
namespace Go.Proofs.YtihjaakkpnjolaaDoor
open Go.RowKit Tally Go.Lib

theorem lit1 : pcode [49, 48, 48, 48, 48, 48, 48, 48, 48, 48, 48] = 0 ∧ pval [49, 48, 48, 48, 48, 48, 48, 48, 48, 48, 48] = 10000000000 := by
  constructor <;> decide +kernel
theorem lit2 : itoa (10000000000 * 10000000000) = [49, 48, 48, 48, 48, 48, 48, 48, 48, 48, 48, 48, 48, 48, 48, 48, 48, 48, 48, 48, 48] := by
  have h1 : pcode [49, 48, 48, 48, 48, 48, 48, 48, 48, 48, 48, 48, 48, 48, 48, 48, 48, 48, 48, 48, 48] = 0 := by decide +kernel
  have h2 : pval [49, 48, 48, 48, 48, 48, 48, 48, 48, 48, 48, 48, 48, 48, 48, 48, 48, 48, 48, 48, 48] = 10000000000 * 10000000000 := by decide +kernel
  rw [← h2, itoa_pval h1]

theorem dg_lit1 : Dg 11 10000000000 := by unfold Dg; decide +kernel
theorem dg_lit2 : Dg 21 (10000000000 * 10000000000) := by unfold Dg; decide +kernel

theorem parse_lit {w : World} : Calls Tryd.prog 21 #[.string ⟨#[49, 48, 48, 48, 48, 48, 48, 48, 48, 48, 48]⟩] w (GivesZE w 10000000000 0) := by
  have := parse_any (w := w) ⟨#[49, 48, 48, 48, 48, 48, 48, 48, 48, 48, 48]⟩ (by decide)
  rw [lit1.1, lit1.2] at this
  exact this

set_option maxHeartbeats 1000000 in
set_option maxRecDepth 100000 in
theorem awake_any {w : World} (ht : Tab w) : Calls Tryd.prog 16 #[] w fun e w' => e = .returned (.bool true) ∧ Below w.heap.size w w' := by
  have HT := Lib.hid ht
  clear ht
  go_enter Tryd.func16, Tryd.ntmps16
  go_wp2_with fail
  refine (parse_lit (w := w)).mono ?_
  rintro e w1 ⟨n, a, k, cp, rfl, hu, hb1⟩
  have HU := Lib.hid hu
  have HB1 := Lib.hid hb1
  clear hu hb1
  go_wp2_with fail
  have hbw : Below w.heap.size w (w1.alloc (.cells #[.bool n, .slice a k cp] 25)) := HB1.out.alloc HB1.out.size _
  have hu1 := HU.out.below ((Below.refl w1.heap.size w1).alloc (Nat.le_refl _) (.cells #[.bool n, .slice a k cp] 25))
  refine (mul_any hu1 hu1 dg_lit1 dg_lit1 (by omega)).mono ?_
  rintro e w2 ⟨n2, a2, k2, c2, rfl, hu2, hb2⟩
  have HU2 := Lib.hid hu2
  have HB2 := Lib.hid (bt hbw hb2)
  clear hu2 hb2 hbw hu1
  go_wp2_with fail
  refine (text_any HU2.out (HT.out.below HB2.out) dg_lit2 (by omega)).mono ?_
  rintro e w3 ⟨rfl, hb3⟩
  rw [lit2]
  have HB3 := Lib.hid (bt HB2.out hb3)
  clear hb3
  go_wp2
  go_ret
  exact ⟨rfl, HB3.out⟩

theorem two_boxes (w : World) (n1 n2 : Bool) (s1 s2 : Value) (T T2 : TypeId) :
    Below w.heap.size w ((w.alloc (.cells #[.bool n1, s1] T)).alloc (.cells #[.bool n2, s2] T2)) ∧
    ((w.alloc (.cells #[.bool n1, s1] T)).alloc (.cells #[.bool n2, s2] T2)).heap.size = w.heap.size + 1 + 1 ∧
    ((w.alloc (.cells #[.bool n1, s1] T)).alloc (.cells #[.bool n2, s2] T2)).cell? ⟨w.heap.size, 0, none⟩ = some (.bool n1) ∧
    ((w.alloc (.cells #[.bool n1, s1] T)).alloc (.cells #[.bool n2, s2] T2)).cell? ⟨w.heap.size, 1, none⟩ = some s1 ∧
    ((w.alloc (.cells #[.bool n1, s1] T)).alloc (.cells #[.bool n2, s2] T2)).cell? ⟨w.heap.size + 1, 0, none⟩ = some (.bool n2) ∧
    ((w.alloc (.cells #[.bool n1, s1] T)).alloc (.cells #[.bool n2, s2] T2)).cell? ⟨w.heap.size + 1, 1, none⟩ = some s2 :=
  ⟨((Below.refl _ _).alloc (Nat.le_refl _) _).alloc (by simp) _, by simp, by go_simp, by go_simp, by go_simp, by go_simp⟩

set_option maxHeartbeats 1000000 in
set_option maxRecDepth 100000 in
theorem same_any {w : World} {v u : Value} {z : Int} {N : Nat} (h : IntR w v z) (k : RefR w u z) (ht : Tab w) (hd : Dg N z) (hN : N ≤ 1000000000000) :
    Calls Tryd.prog 18 #[v, u] w fun e w' => e = .returned (.bool true) ∧ Below w.heap.size w w' := by
  have H := Lib.hid h
  have K := Lib.hid k
  have HT := Lib.hid ht
  obtain ⟨n1, s1, l1, rfl, lr1, c1, g1, z1, a1⟩ := h.parts
  obtain ⟨n2, s2, l2, rfl, lr2, c2, g2, z2, a2⟩ := k.parts
  clear h k z1 z2 g1 g2 a1 a2 c1 c2 lr1 lr2 ht
  obtain ⟨X, hX⟩ : ∃ X : ByteArray, (⟨(itoa z).toArray⟩ : ByteArray) = X := ⟨_, rfl⟩
  have BF := Lib.hid (two_boxes w n1 n2 s1 s2 25 28)
  have HX := Lib.hid hX
  clear hX
  go_enter Tryd.func18, Tryd.ntmps18
  go_wp2_with fail
  revert BF
  generalize ((w.alloc (.cells #[.bool n1, s1] 25)).alloc (.cells #[.bool n2, s2] 28)) = W
  intro BF
  have HQ := Lib.hid BF.out.1
  have HL := Lib.hid (fun (w' : World) (hb : Below W.heap.size W w') => (⟨hb, keepc hb BF.out.2.2.1, keepc hb BF.out.2.2.2.1, keepc hb BF.out.2.2.2.2.1, keepc hb BF.out.2.2.2.2.2⟩ : Below W.heap.size W w' ∧ w'.cell? ⟨w.heap.size, 0, none⟩ = some (.bool n1) ∧ w'.cell? ⟨w.heap.size, 1, none⟩ = some s1 ∧ w'.cell? ⟨w.heap.size + 1, 0, none⟩ = some (.bool n2) ∧ w'.cell? ⟨w.heap.size + 1, 1, none⟩ = some s2))
  have HW0 := Lib.hid (fun (w' : World) (hs : Below W.heap.size W w' ∧ w'.cell? ⟨w.heap.size, 0, none⟩ = some (.bool n1) ∧ w'.cell? ⟨w.heap.size, 1, none⟩ = some s1 ∧ w'.cell? ⟨w.heap.size + 1, 0, none⟩ = some (.bool n2) ∧ w'.cell? ⟨w.heap.size + 1, 1, none⟩ = some s2) => bt HQ.out hs.1)
  go_region_held3 (fun w' => Below W.heap.size W w' ∧ w'.cell? ⟨w.heap.size, 0, none⟩ = some (.bool n1) ∧ w'.cell? ⟨w.heap.size, 1, none⟩ = some s1 ∧ w'.cell? ⟨w.heap.size + 1, 0, none⟩ = some (.bool n2) ∧ w'.cell? ⟨w.heap.size + 1, 1, none⟩ = some s2)
    (first | exact HL.out _ (Below.drew (Below.refl _ _)) | exact HL.out _ (bt (And.left (by assumption)) (by assumption)))
    (first | (go_at_call 24; (with_reducible refine (text_any (H.out.below (HW0.out _ (by assumption))) (HT.out.below (HW0.out _ (by assumption))) hd hN).mono ?_); rintro e w1 ⟨rfl, hb1⟩; rw [HX.out]) | (go_at_call 50; (with_reducible refine (rtext_any (K.out.below (HW0.out _ (by assumption))) hd hN).mono ?_); rintro e w2 ⟨rfl, hb2⟩; rw [HX.out]))
  go_wp2
  go_ret
  exact ⟨by simp, bt HQ.out (bt (bt (Below.drew (Below.refl _ _)) hb1) hb2)⟩
end Go.Proofs.YtihjaakkpnjolaaDoor
