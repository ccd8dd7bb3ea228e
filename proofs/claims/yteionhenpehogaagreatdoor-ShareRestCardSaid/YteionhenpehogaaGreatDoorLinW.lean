/- The law package's few: the sizes of a matrix and of vectors. -/
import Derived.Test.YteionhenpehogaaGreatDoorMat
import Derived.Test.YteionhenpehogaaGreatDoorRatB
namespace Go.Proofs.YteionhenpehogaaGreatDoor
open Go.RowKit Tally

/-- the lengths of the rows of a slice of slices -/
def HeadsR (w : World) (v : Value) (m : Nat) (L : Nat → Nat) : Prop :=
  ∃ (a : Option Addr) (b o c : Nat), v = .slice a m c ∧ m ≤ c ∧ c ≤ 9223372036854775807 ∧ (0 < m → a = some ⟨b, o, none⟩) ∧ ∀ i, i < m → ∃ a' c', w.cell? ⟨b, o + i, none⟩ = some (.slice a' (L i) c')
theorem HeadsR.below {w w' : World} {v : Value} {m : Nat} {L : Nat → Nat} (h : HeadsR w v m L) (hb : Below w.heap.size w w') : HeadsR w' v m L := by
  obtain ⟨a, b, o, c, h1, h2, h3, h4, h5⟩ := h
  exact ⟨a, b, o, c, h1, h2, h3, h4, fun i hi => by obtain ⟨a', c', q⟩ := h5 i hi; exact ⟨a', c', keepc hb q⟩⟩

end Go.Proofs.YteionhenpehogaaGreatDoor
