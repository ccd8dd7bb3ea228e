/- The law IntegerProducts answers true. -/
import Derived.Test.YtikpafocankggaaGreatDoorBoth
namespace Go.Proofs.YtikpafocankggaaGreatDoor
open Go.RowKit Tally Go.Lib
theorem cells4_of (w : World) (x0 x1 y0 y1 a0 a1 b0 b1 : Value) : Cells4 w.heap.size ((((w.alloc (.cells #[x0, x1] 25)).alloc (.cells #[y0, y1] 25)).alloc (.cells #[a0, a1] 30)).alloc (.cells #[b0, b1] 30)) x0 x1 y0 y1 a0 a1 b0 b1 ∧
  Below w.heap.size w ((((w.alloc (.cells #[x0, x1] 25)).alloc (.cells #[y0, y1] 25)).alloc (.cells #[a0, a1] 30)).alloc (.cells #[b0, b1] 30)) := by
 refine ⟨⟨?_, ?_, ?_, ?_⟩, ((((Below.refl _ _).alloc (Nat.le_refl _) _).alloc (by simp) _).alloc (by simp; try omega) _).alloc (by simp; try omega) _⟩
 ·rw [Lib.alloc_old _ _ _ (by simp; try omega), Lib.alloc_old _ _ _ (by simp; try omega), Lib.alloc_old _ _ _ (by simp)]; exact heap_alloc_new _ _
 ·rw [Lib.alloc_old _ _ _ (by simp; try omega), Lib.alloc_old _ _ _ (by simp)]; simpa using heap_alloc_new (w.alloc (.cells #[x0, x1] 25)) (.cells #[y0, y1] 25)
 ·rw [Lib.alloc_old _ _ _ (by simp)]; simpa using heap_alloc_new ((w.alloc (.cells #[x0, x1] 25)).alloc (.cells #[y0, y1] 25)) (.cells #[a0, a1] 30)
 ·simpa using heap_alloc_new (((w.alloc (.cells #[x0, x1] 25)).alloc (.cells #[y0, y1] 25)).alloc (.cells #[a0, a1] 30)) (.cells #[b0, b1] 30)
def True1 (w : World) (e : Ending) (w' : World) : Prop := e = .returned (.bool true) ∧ Below w.heap.size w w'
theorem dg_of {s : ByteArray} {N : Nat} (h : s.size ≤ N) : Dg N (pval s.data.toList) := by
 unfold Dg
 refine Nat.lt_of_lt_of_le (pval_few _) (Nat.pow_le_pow_right (by decide) ?_)
 rw [Array.length_toList]; exact h
end Go.Proofs.YtikpafocankggaaGreatDoor
