/- Plain laws: what one entity holds, or none. -/
import Derived.Test.YteionhenpehogaaGreatDoorSolveZ
namespace Tally
open Graph.Plain (ReachF IsReach)
open Go.Proofs.YteionhenpehogaaGreatDoor (dirE dirE_pos)

/-- the holders of k among the first h: how many, the last -/
def Hol (Z : Nat → Nat → Int) (k h c l : Nat) : Prop :=
  (c = 0 ∧ l = 0 ∧ ∀ i, i < h → Z i k ≤ 0) ∨ (c = 1 ∧ l < h ∧ 0 < Z l k ∧ ∀ i, i < h → i ≠ l → Z i k ≤ 0) ∨ (2 ≤ c ∧ c ≤ h ∧ l < h)
theorem Hol.start {Z : Nat → Nat → Int} {k : Nat} : Hol Z k 0 0 0 := .inl ⟨rfl, rfl, fun _ h => absurd h (Nat.not_lt_zero _)⟩
theorem Hol.no {Z : Nat → Nat → Int} {k h c l : Nat} (s : Hol Z k h c l) (hz : Z h k ≤ 0) : Hol Z k (h + 1) c l := by
  rcases s with ⟨h1, h2, h3⟩ | ⟨h1, h2, h3, h4⟩ | ⟨h1, h2, h3⟩
  · exact .inl ⟨h1, h2, fun i hi => by by_cases e : i = h; · subst e; exact hz
                                       · exact h3 i (by omega)⟩
  · exact .inr (.inl ⟨h1, by omega, h3, fun i hi hl => by by_cases e : i = h; · subst e; exact hz
                                                          · exact h4 i (by omega) hl⟩)
  · exact .inr (.inr ⟨h1, by omega, by omega⟩)
theorem Hol.yes {Z : Nat → Nat → Int} {k h c l : Nat} (s : Hol Z k h c l) (hz : 0 < Z h k) : Hol Z k (h + 1) (c + 1) h := by
  rcases s with ⟨rfl, h2, h3⟩ | ⟨rfl, h2, h3, h4⟩ | ⟨h1, h2, h3⟩
  · exact .inr (.inl ⟨rfl, by omega, hz, fun i hi hl => h3 i (by omega)⟩)
  · exact .inr (.inr ⟨by omega, by omega, by omega⟩)
  · exact .inr (.inr ⟨by omega, by omega, by omega⟩)
theorem Hol.le {Z : Nat → Nat → Int} {k h c l : Nat} (s : Hol Z k h c l) : c ≤ h ∧ (l < h ∨ l = 0) := by
  rcases s with ⟨h1, h2, h3⟩ | ⟨h1, h2, h3, h4⟩ | ⟨h1, h2, h3⟩ <;> omega
section
variable {N : Nat} {Z : Nat → Nat → Int} {o : Nat → Bool} {x : Nat → Rat} {k c l : Nat}
theorem sol_none (hs : Shares N Z (dirE N Z)) (ho : IsReach N (inner Z) (direct N (dirE N Z)) o) (hx : Sol N Z (dirE N Z) o x) (h1 : 1 ≤ k) (hk : k < N) (hz : ∀ i, i < N → Z i k ≤ 0) : x k = 0 := by
  have z0 : ∀ i, i < N → Z i k = 0 := fun i hi => by have := hs.pos i k hi hk; have := hz i hi; omega
  rw [Sol.eq hs ho hx h1 hk, dirE_pos h1, z0 0 (by omega), part_zero]
  cases N with
  | zero => omega
  | succ n =>
    rw [sumTo_one (j := 0) (by omega) (fun i hi _ => by rw [z0 i hi, part_zero]; exact Rat.zero_mul _), z0 0 (by omega), part_zero]
    grind
theorem sol_one (hs : Shares N Z (dirE N Z)) (ho : IsReach N (inner Z) (direct N (dirE N Z)) o) (hx : Sol N Z (dirE N Z) o x) (h1 : 1 ≤ k) (hk : k < N) (hl : l < N) (hz : ∀ i, i < N → i ≠ l → Z i k ≤ 0) : x k = (if l = 0 then 1 else x l) * part (Z l k) := by
  have z0 : ∀ i, i < N → i ≠ l → Z i k = 0 := fun i hi he => by have := hs.pos i k hi hk; have := hz i hi he; omega
  have o0 : x 0 = 0 := hx.1 0 (by omega) (by
    cases h : o 0 with
    | false => rfl
    | true => exact absurd (reach_pos ho (by omega) h) (by decide))
  rw [Sol.eq hs ho hx h1 hk, dirE_pos h1, sumTo_one hl (fun i hi he => by rw [z0 i hi he, part_zero]; exact Rat.zero_mul _)]
  by_cases e : l = 0
  · subst e
    rw [if_pos rfl, o0]
    grind
  · rw [if_neg e, z0 0 (by omega) (fun q => e q.symm), part_zero]
    grind
end
end Tally
