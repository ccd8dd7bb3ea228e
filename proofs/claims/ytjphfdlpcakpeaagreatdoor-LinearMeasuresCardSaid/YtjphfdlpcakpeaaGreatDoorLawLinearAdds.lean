/- LinearAdds, walked. -/
import Derived.Test.YtjphfdlpcakpeaaGreatDoorLawLinearCramer
import Derived.Test.YtjphfdlpcakpeaaGreatDoorLinT
namespace Go.Proofs.YtjphfdlpcakpeaaGreatDoor
open Go.RowKit Tally

/-- two vectors' headers as a slice of slices -/
theorem heads_two {w : World} {g n c n2 c2 : Nat} {a a2 : Option Addr} {T : TypeId} (h : w.heap[g]? = some (.cells #[.slice a n c, .slice a2 n2 c2] T (0, 0))) : HeadsR w (.slice (some ⟨g, 0, none⟩) 2 2) 2 (fun i => if i = 0 then n else n2) := by
  obtain ⟨h0, h1⟩ := two_cells h
  refine ⟨_, g, 0, 2, rfl, Nat.le_refl _, by decide, fun _ => rfl, fun i hi => ?_⟩
  match i, hi with
  | 0, _ => exact ⟨a, c, h0⟩
  | 1, _ => exact ⟨a2, c2, h1⟩
/-- one number as a vector -/
theorem row_one16 {w : World} {g : Nat} {z : Int} {T : TypeId} (h : w.heap[g]? = some (.cells #[.int .i16 z] T (0, 0))) : RowR w (.slice (some ⟨g, 0, none⟩) 1 1) 1 fun _ => .int .i16 z := by
  refine ⟨_, g, 0, 1, rfl, Nat.le_refl _, by decide, fun _ => rfl, fun i hi => ?_⟩
  obtain rfl : i = 0 := by omega
  rw [Lib.cell_of_heap h]; rfl

/-- Solve's code for a matrix and the length of the vector -/
noncomputable def solCode (m n : Nat) (L : Nat → Nat) (A : Mx) : Int :=
  open Classical in if IsMat m L ∧ m = colsN m L ∧ n = m then (if ∃ (y : Nat → Rat) (s : St), Run upR m (wideM m A y) m s ∧ s.rank = m then 0 else 14) else 1
/-- what Solve gives for a small matrix and a small vector -/
def GivesSol (w : World) (m n : Nat) (A : Mx) (y : Nat → Rat) (cd : Int) (e : Ending) (w' : World) : Prop :=
  ∃ (a : Option Addr) (k c : Nat) (f : Nat → Rat), e = .returned (.tuple #[.slice a k c, .int .i64 cd]) ∧ Below w.heap.size w w' ∧ RatsR w' (.slice a k c) k f ∧ (∀ i, i < k → Rg 14000000000 (f i)) ∧
    (cd = 0 → k = m ∧ n = m ∧ (∀ i, i < m → sumTo m (fun j => A i j * f j) = y i) ∧ ∀ g : Nat → Rat, (∀ i, i < m → sumTo m (fun j => A i j * g j) = y i) → ∀ i, i < m → g i = f i)
theorem rats_nil (w : World) (f : Nat → Rat) : RatsR w (.slice none 0 0) 0 f := ⟨[], rfl, ⟨none, 0, 0, 0, rfl, Nat.le_refl _, Nat.zero_le _, fun h => absurd h (by decide), fun k x h => by simp at h⟩, fun k x h => by simp at h⟩
theorem solve_some {w : World} {v u : Value} {m n d M : Nat} {L : Nat → Nat} {Z : Nat → Nat → Int} {y : Nat → Rat} (h : MatsR w v m L (ratM d Z)) (hz : ∀ i, i < m → Small (L i) (Z i)) (hd : d ≤ 255) (hy : RatsR w u n y) (hf : ∀ i, i < n → FewD M (y i)) (hM : M ≤ 90) :
    Calls Tryz.prog 9 #[v, u] w (GivesSol w m n (ratM d Z) y (solCode m n L (ratM d Z))) := by
  by_cases hok : IsMat m L ∧ m = colsN m L ∧ n = m
  · obtain ⟨hi, hc, rfl⟩ := hok
    have hW := wide_rows (N := 5) (M := M) (fun i hi2 => (rowD_num (fun k hk => hz i hi2 k (by have := hi.1 i hi2; omega)) hd : RowD 5 n (ratM d Z i))) hf
    refine (solve_yes h hi hc hy hW (by omega)).mono ?_
    rintro e w' ⟨s, hrun, hb, hor⟩
    have h24 := hi.2.1
    have hsm := dgs_small (N := 5 + M) (c := n) (by omega) (by omega)
    rcases hor with ⟨hlt, rfl⟩ | ⟨hr, a, c, rfl, hx⟩
    · refine ⟨none, 0, 0, fun _ => 0, ?_, hb, rats_nil _ _, fun i hi => absurd hi (Nat.not_lt_zero _), ?_⟩
      · have : solCode n n L (ratM d Z) = 14 := by
          unfold solCode
          rw [if_pos ⟨hi, hc, rfl⟩, if_neg]
          rintro ⟨y2, s2, h2, h3⟩
          have := wide_rank2 hrun h2
          omega
        rw [this]
      · intro h0
        exfalso
        have : solCode n n L (ratM d Z) = 14 := by
          unfold solCode
          rw [if_pos ⟨hi, hc, rfl⟩, if_neg]
          rintro ⟨y2, s2, h2, h3⟩
          have := wide_rank2 hrun h2
          omega
        rw [this] at h0
        exact absurd h0 (by decide)
    · have h0 : solCode n n L (ratM d Z) = 0 := by
        unfold solCode
        rw [if_pos ⟨hi, hc, rfl⟩, if_pos ⟨y, s, hrun, hr⟩]
      refine ⟨a, n, c, fun i => s.A i n / s.A i i, by rw [h0], hb, hx, fun i hi2 => Rg.mono (Rg.of (sol_fw hrun hr hW i hi2)) (by omega), fun _ => ⟨rfl, rfl, solve_sum hrun hr, fun g hg i hi2 => solve_law hrun hr hg i hi2⟩⟩
  · refine (solve_no h hy (fun q => hok q)).mono ?_
    rintro e w' ⟨rfl, hb⟩
    have h1 : solCode m n L (ratM d Z) = 1 := by unfold solCode; rw [if_neg hok]
    exact ⟨none, 0, 0, fun _ => 0, by rw [h1], hb, rats_nil _ _, fun i hi => absurd hi (Nat.not_lt_zero _), fun h0 => by rw [h1] at h0; exact absurd h0 (by decide)⟩

end Go.Proofs.YtjphfdlpcakpeaaGreatDoor
