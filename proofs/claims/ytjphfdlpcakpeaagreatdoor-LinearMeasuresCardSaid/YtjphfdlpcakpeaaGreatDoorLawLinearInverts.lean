/- LinearInverts, walked. -/
import Derived.Test.YtjphfdlpcakpeaaGreatDoorLinY
import Derived.Test.YtjphfdlpcakpeaaGreatDoorLinPZ
import Derived.Test.YtjphfdlpcakpeaaGreatDoorPlainZ
namespace Go.Proofs.YtjphfdlpcakpeaaGreatDoor
open Go.RowKit Tally

/-- a vector of the law's numbers -/
def ratV (d : Nat) (x : Nat → Int) : Nat → Rat := fun i => Rat.divInt (x i) (max 1 (d : Int))
def Small (n : Nat) (x : Nat → Int) : Prop := ∀ k, k < n → -32768 ≤ x k ∧ x k ≤ 32767
/-- the vector's header as a slice of slices -/
theorem heads_one {w : World} {g n c : Nat} {a : Option Addr} {T : TypeId} (h : w.heap[g]? = some (.cells #[.slice a n c] T (0, 0))) : HeadsR w (.slice (some ⟨g, 0, none⟩) 1 1) 1 (fun _ => n) := by
  refine ⟨_, g, 0, 1, rfl, Nat.le_refl _, by decide, fun _ => rfl, fun i hi => ⟨a, c, ?_⟩⟩
  obtain rfl : i = 0 := by omega
  rw [Lib.cell_of_heap h]; rfl

end Go.Proofs.YtjphfdlpcakpeaaGreatDoor
