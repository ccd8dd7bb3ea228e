/- The law IntegerProducts answers true. -/
import Derived.Test.YtihjaakkpnjolaaDoorBoth
namespace Go.Proofs.YtihjaakkpnjolaaDoor
open Go.RowKit Tally Go.Lib

theorem cells4_of (w : World) (x0 x1 y0 y1 a0 a1 b0 b1 : Value) : Cells4 w.heap.size ((((w.alloc (.cells #[x0, x1] 25)).alloc (.cells #[y0, y1] 25)).alloc (.cells #[a0, a1] 28)).alloc (.cells #[b0, b1] 28)) x0 x1 y0 y1 a0 a1 b0 b1 ∧
    Below w.heap.size w ((((w.alloc (.cells #[x0, x1] 25)).alloc (.cells #[y0, y1] 25)).alloc (.cells #[a0, a1] 28)).alloc (.cells #[b0, b1] 28)) := by
  refine ⟨⟨?_, ?_, ?_, ?_⟩, ((((Below.refl _ _).alloc (Nat.le_refl _) _).alloc (by simp) _).alloc (by simp; try omega) _).alloc (by simp; try omega) _⟩
  · rw [Lib.alloc_old _ _ _ (by simp; try omega), Lib.alloc_old _ _ _ (by simp; try omega), Lib.alloc_old _ _ _ (by simp)]; exact heap_alloc_new _ _
  · rw [Lib.alloc_old _ _ _ (by simp; try omega), Lib.alloc_old _ _ _ (by simp)]; simpa using heap_alloc_new (w.alloc (.cells #[x0, x1] 25)) (.cells #[y0, y1] 25)
  · rw [Lib.alloc_old _ _ _ (by simp)]; simpa using heap_alloc_new ((w.alloc (.cells #[x0, x1] 25)).alloc (.cells #[y0, y1] 25)) (.cells #[a0, a1] 28)
  · simpa using heap_alloc_new (((w.alloc (.cells #[x0, x1] 25)).alloc (.cells #[y0, y1] 25)).alloc (.cells #[a0, a1] 28)) (.cells #[b0, b1] 28)

/-- a law's answer -/
def True1 (w : World) (e : Ending) (w' : World) : Prop := e = .returned (.bool true) ∧ Below w.heap.size w w'

theorem dg_of {s : ByteArray} {N : Nat} (h : s.size ≤ N) : Dg N (pval s.data.toList) := by
  unfold Dg
  refine Nat.lt_of_lt_of_le (pval_few _) (Nat.pow_le_pow_right (by decide) ?_)
  rw [Array.length_toList]; exact h

set_option maxHeartbeats 4000000 in
set_option maxRecDepth 100000 in
theorem products_any {w : World} (s t : ByteArray) (hs : s.size ≤ 9223372036854775807) (ht : t.size ≤ 9223372036854775807) (htab : Tab w) :
    Calls Tryd.prog 3 #[.string s, .string t] w (True1 w) := by
  have HT := Lib.hid htab
  clear htab
  go_enter Tryd.func3, Tryd.ntmps3
  go_wp2_with fail
  refine (awake_any HT.out).mono ?_
  rintro e w1 ⟨rfl, hb1⟩
  have HB1 := Lib.hid hb1
  clear hb1
  go_wp2_with fail
  refine (both_any (w := w1) s t hs ht).mono ?_
  rintro e w2 ⟨n1, a1, k1, c1, n2, a2, k2, c2, n3, a3, k3, c3, n4, a4, k4, c4, ok, rfl, hok, hb2⟩
  have HOK := Lib.hid hok
  have HB2 := Lib.hid (bt HB1.out hb2)
  clear hok hb2
  have BF := Lib.hid (cells4_of w2 (.bool n1) (.slice a1 k1 c1) (.bool n2) (.slice a2 k2 c2) (.bool n3) (.slice a3 k3 c3) (.bool n4) (.slice a4 k4 c4))
  cases ok
  · go_wp2
    go_ret
    exact ⟨rfl, bt HB2.out BF.out.2⟩
  · obtain ⟨s6, t6, cs, ct, hx, hy, ha, hb⟩ := HOK.out (by simp)
    have HX := Lib.hid hx
    have HY := Lib.hid hy
    have HA := Lib.hid ha
    have HBB := Lib.hid hb
    have dg1 := dg_of s6
    have dg2 := dg_of t6
    have dgm := dg1.mul dg2
    clear HOK cs ct hx hy ha hb
    generalize pval s.data.toList = x at *
    generalize pval t.data.toList = y at *
    go_wp2_with fail
    revert BF
    generalize ((((w2.alloc (.cells #[.bool n1, .slice a1 k1 c1] 25)).alloc (.cells #[.bool n2, .slice a2 k2 c2] 25)).alloc (.cells #[.bool n3, .slice a3 k3 c3] 28)).alloc (.cells #[.bool n4, .slice a4 k4 c4] 28)) = W
    intro BF
    have HL := Lib.hid (fun (w' : World) (hb : Below W.heap.size W w') => (⟨hb, (BF.out.1.next hb).cells⟩ : Below W.heap.size W w' ∧ w'.cell? ⟨w2.heap.size, 0, none⟩ = some (.bool n1) ∧ w'.cell? ⟨w2.heap.size, 1, none⟩ = some (.slice a1 k1 c1) ∧ w'.cell? ⟨w2.heap.size + 1, 0, none⟩ = some (.bool n2) ∧ w'.cell? ⟨w2.heap.size + 1, 1, none⟩ = some (.slice a2 k2 c2) ∧ w'.cell? ⟨w2.heap.size + 1 + 1, 0, none⟩ = some (.bool n3) ∧ w'.cell? ⟨w2.heap.size + 1 + 1, 1, none⟩ = some (.slice a3 k3 c3) ∧ w'.cell? ⟨w2.heap.size + 1 + 1 + 1, 0, none⟩ = some (.bool n4) ∧ w'.cell? ⟨w2.heap.size + 1 + 1 + 1, 1, none⟩ = some (.slice a4 k4 c4)))
    have HI1 := Lib.hid (fun (w' : World) (hs : Below W.heap.size W w' ∧ w'.cell? ⟨w2.heap.size, 0, none⟩ = some (.bool n1) ∧ w'.cell? ⟨w2.heap.size, 1, none⟩ = some (.slice a1 k1 c1) ∧ w'.cell? ⟨w2.heap.size + 1, 0, none⟩ = some (.bool n2) ∧ w'.cell? ⟨w2.heap.size + 1, 1, none⟩ = some (.slice a2 k2 c2) ∧ w'.cell? ⟨w2.heap.size + 1 + 1, 0, none⟩ = some (.bool n3) ∧ w'.cell? ⟨w2.heap.size + 1 + 1, 1, none⟩ = some (.slice a3 k3 c3) ∧ w'.cell? ⟨w2.heap.size + 1 + 1 + 1, 0, none⟩ = some (.bool n4) ∧ w'.cell? ⟨w2.heap.size + 1 + 1 + 1, 1, none⟩ = some (.slice a4 k4 c4)) => HX.out.below (bt BF.out.2 hs.1))
    have HI2 := Lib.hid (fun (w' : World) (hs : Below W.heap.size W w' ∧ w'.cell? ⟨w2.heap.size, 0, none⟩ = some (.bool n1) ∧ w'.cell? ⟨w2.heap.size, 1, none⟩ = some (.slice a1 k1 c1) ∧ w'.cell? ⟨w2.heap.size + 1, 0, none⟩ = some (.bool n2) ∧ w'.cell? ⟨w2.heap.size + 1, 1, none⟩ = some (.slice a2 k2 c2) ∧ w'.cell? ⟨w2.heap.size + 1 + 1, 0, none⟩ = some (.bool n3) ∧ w'.cell? ⟨w2.heap.size + 1 + 1, 1, none⟩ = some (.slice a3 k3 c3) ∧ w'.cell? ⟨w2.heap.size + 1 + 1 + 1, 0, none⟩ = some (.bool n4) ∧ w'.cell? ⟨w2.heap.size + 1 + 1 + 1, 1, none⟩ = some (.slice a4 k4 c4)) => HY.out.below (bt BF.out.2 hs.1))
    have HR1 := Lib.hid (fun (w' : World) (hs : Below W.heap.size W w' ∧ w'.cell? ⟨w2.heap.size, 0, none⟩ = some (.bool n1) ∧ w'.cell? ⟨w2.heap.size, 1, none⟩ = some (.slice a1 k1 c1) ∧ w'.cell? ⟨w2.heap.size + 1, 0, none⟩ = some (.bool n2) ∧ w'.cell? ⟨w2.heap.size + 1, 1, none⟩ = some (.slice a2 k2 c2) ∧ w'.cell? ⟨w2.heap.size + 1 + 1, 0, none⟩ = some (.bool n3) ∧ w'.cell? ⟨w2.heap.size + 1 + 1, 1, none⟩ = some (.slice a3 k3 c3) ∧ w'.cell? ⟨w2.heap.size + 1 + 1 + 1, 0, none⟩ = some (.bool n4) ∧ w'.cell? ⟨w2.heap.size + 1 + 1 + 1, 1, none⟩ = some (.slice a4 k4 c4)) => HA.out.below (bt BF.out.2 hs.1))
    have HR2 := Lib.hid (fun (w' : World) (hs : Below W.heap.size W w' ∧ w'.cell? ⟨w2.heap.size, 0, none⟩ = some (.bool n1) ∧ w'.cell? ⟨w2.heap.size, 1, none⟩ = some (.slice a1 k1 c1) ∧ w'.cell? ⟨w2.heap.size + 1, 0, none⟩ = some (.bool n2) ∧ w'.cell? ⟨w2.heap.size + 1, 1, none⟩ = some (.slice a2 k2 c2) ∧ w'.cell? ⟨w2.heap.size + 1 + 1, 0, none⟩ = some (.bool n3) ∧ w'.cell? ⟨w2.heap.size + 1 + 1, 1, none⟩ = some (.slice a3 k3 c3) ∧ w'.cell? ⟨w2.heap.size + 1 + 1 + 1, 0, none⟩ = some (.bool n4) ∧ w'.cell? ⟨w2.heap.size + 1 + 1 + 1, 1, none⟩ = some (.slice a4 k4 c4)) => HBB.out.below (bt BF.out.2 hs.1))
    have HT0 := Lib.hid (fun (w' : World) (hs : Below W.heap.size W w' ∧ w'.cell? ⟨w2.heap.size, 0, none⟩ = some (.bool n1) ∧ w'.cell? ⟨w2.heap.size, 1, none⟩ = some (.slice a1 k1 c1) ∧ w'.cell? ⟨w2.heap.size + 1, 0, none⟩ = some (.bool n2) ∧ w'.cell? ⟨w2.heap.size + 1, 1, none⟩ = some (.slice a2 k2 c2) ∧ w'.cell? ⟨w2.heap.size + 1 + 1, 0, none⟩ = some (.bool n3) ∧ w'.cell? ⟨w2.heap.size + 1 + 1, 1, none⟩ = some (.slice a3 k3 c3) ∧ w'.cell? ⟨w2.heap.size + 1 + 1 + 1, 0, none⟩ = some (.bool n4) ∧ w'.cell? ⟨w2.heap.size + 1 + 1 + 1, 1, none⟩ = some (.slice a4 k4 c4)) => HT.out.below (bt HB2.out (bt BF.out.2 hs.1)))
    go_region_held3 (fun w' => Below W.heap.size W w' ∧ w'.cell? ⟨w2.heap.size, 0, none⟩ = some (.bool n1) ∧ w'.cell? ⟨w2.heap.size, 1, none⟩ = some (.slice a1 k1 c1) ∧ w'.cell? ⟨w2.heap.size + 1, 0, none⟩ = some (.bool n2) ∧ w'.cell? ⟨w2.heap.size + 1, 1, none⟩ = some (.slice a2 k2 c2) ∧ w'.cell? ⟨w2.heap.size + 1 + 1, 0, none⟩ = some (.bool n3) ∧ w'.cell? ⟨w2.heap.size + 1 + 1, 1, none⟩ = some (.slice a3 k3 c3) ∧ w'.cell? ⟨w2.heap.size + 1 + 1 + 1, 0, none⟩ = some (.bool n4) ∧ w'.cell? ⟨w2.heap.size + 1 + 1 + 1, 1, none⟩ = some (.slice a4 k4 c4))
      (first | exact HL.out _ (Below.drew (Below.refl _ _)) | exact HL.out _ (bt (And.left (by assumption)) (by assumption)))
      (first | (go_at_call 19; (with_reducible refine (mul_any (HI1.out _ (by assumption)) (HI2.out _ (by assumption)) dg1 dg2 (by omega)).mono ?_); rintro e w3 ⟨n5, a5, k5, c5, rfl, hu3, hb3⟩; have HU3 := Lib.hid hu3; clear hu3) | (go_at_call 20; (with_reducible refine (rmul_any (HR1.out _ (by assumption)) (HR2.out _ (by assumption)) dg1 dg2 (by omega)).mono ?_); rintro e w4 ⟨n6, a6, k6, c6, rfl, hu4, hb4⟩; have HU4 := Lib.hid hu4; clear hu4) | (go_at_call 18; (with_reducible refine (same_any (HU3.out.below hb4) HU4.out (HT0.out _ (by assumption)) dgm (by omega)).mono ?_); rintro e w5 ⟨rfl, hb5⟩) | (go_at_call 18; (with_reducible refine (same_any (HI1.out _ (by assumption)) (HR1.out _ (by assumption)) (HT0.out _ (by assumption)) dg1 (by omega)).mono ?_); rintro e w6 ⟨rfl, hb6⟩) | (go_at_call 18; (with_reducible refine (same_any (HI2.out _ (by assumption)) (HR2.out _ (by assumption)) (HT0.out _ (by assumption)) dg2 (by omega)).mono ?_); rintro e w7 ⟨rfl, hb7⟩))
    go_wp2
    go_ret
    exact ⟨rfl, bt HB2.out (bt BF.out.2 (bt (bt (bt (bt (bt (Below.drew (Below.refl _ _)) hb3) hb4) hb5) hb6) hb7))⟩
end Go.Proofs.YtihjaakkpnjolaaDoor
