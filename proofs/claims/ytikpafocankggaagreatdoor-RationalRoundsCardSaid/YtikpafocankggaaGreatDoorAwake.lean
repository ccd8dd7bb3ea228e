/- The law package's awake, same, both. -/
import Derived.Test.YtikpafocankggaaGreatDoorText
namespace Go.Proofs.YtikpafocankggaaGreatDoor
open Go.RowKit Tally Go.Lib
theorem lit1 : pcode [49, 48, 48, 48, 48, 48, 48, 48, 48, 48, 48] = 0 ∧ pval [49, 48, 48, 48, 48, 48, 48, 48, 48, 48, 48] = 10000000000 := by
 constructor <;> decide +kernel
theorem lit2 : itoa (10000000000 * 10000000000) = [49, 48, 48, 48, 48, 48, 48, 48, 48, 48, 48, 48, 48, 48, 48, 48, 48, 48, 48, 48, 48] := by
 have h1 : pcode [49, 48, 48, 48, 48, 48, 48, 48, 48, 48, 48, 48, 48, 48, 48, 48, 48, 48, 48, 48, 48] = 0 := by decide +kernel
 have h2 : pval [49, 48, 48, 48, 48, 48, 48, 48, 48, 48, 48, 48, 48, 48, 48, 48, 48, 48, 48, 48, 48] = 10000000000 * 10000000000 := by decide +kernel
 rw [← h2, itoa_pval h1]
theorem dg_lit1 : Dg 11 10000000000 := by unfold Dg; decide +kernel
theorem dg_lit2 : Dg 21 (10000000000 * 10000000000) := by unfold Dg; decide +kernel
theorem parse_lit {w : World} : Calls Tryz.prog 27 #[.string ⟨#[49, 48, 48, 48, 48, 48, 48, 48, 48, 48, 48]⟩] w (GivesZE w 10000000000 0) := by
 have := parse_any (w := w) ⟨#[49, 48, 48, 48, 48, 48, 48, 48, 48, 48, 48]⟩ (by decide)
 rw [lit1.1, lit1.2] at this
 exact this
theorem two_boxes (w : World) (n1 n2 : Bool) (s1 s2 : Value) (T T2 : TypeId) :
  Below w.heap.size w ((w.alloc (.cells #[.bool n1, s1] T)).alloc (.cells #[.bool n2, s2] T2)) ∧
  ((w.alloc (.cells #[.bool n1, s1] T)).alloc (.cells #[.bool n2, s2] T2)).heap.size = w.heap.size + 1 + 1 ∧
  ((w.alloc (.cells #[.bool n1, s1] T)).alloc (.cells #[.bool n2, s2] T2)).cell? ⟨w.heap.size, 0, none⟩ = some (.bool n1) ∧
  ((w.alloc (.cells #[.bool n1, s1] T)).alloc (.cells #[.bool n2, s2] T2)).cell? ⟨w.heap.size, 1, none⟩ = some s1 ∧
  ((w.alloc (.cells #[.bool n1, s1] T)).alloc (.cells #[.bool n2, s2] T2)).cell? ⟨w.heap.size + 1, 0, none⟩ = some (.bool n2) ∧
  ((w.alloc (.cells #[.bool n1, s1] T)).alloc (.cells #[.bool n2, s2] T2)).cell? ⟨w.heap.size + 1, 1, none⟩ = some s2 :=
 ⟨((Below.refl _ _).alloc (Nat.le_refl _) _).alloc (by simp) _, by simp, by go_simp, by go_simp, by go_simp, by go_simp⟩
end Go.Proofs.YtikpafocankggaaGreatDoor
