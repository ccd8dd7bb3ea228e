/- SameBools and SameCodes answer true where both lists read alike. -/
import Derived.Test.YtnkdcmloehandaaMem
namespace Go.Proofs.Ytnkdcmloehandaa
open Go.RowKit

set_option maxHeartbeats 400000 in
theorem sameBools_any {w : World} {v1 v2 : Value} {n : Nat} {f : Nat → Bool} (h1 : RowR w v1 n fun i => .bool (f i)) (h2 : RowR w v2 n fun i => .bool (f i)) :
    Calls Try.prog 14 #[v1, v2] w fun e w' => e = .returned (.bool true) ∧ Below w.heap.size w w' := by
  obtain ⟨a1, b1, o1, c1, rfl, l1, m1, s1, r1⟩ := h1
  obtain ⟨a2, b2, o2, c2, rfl, l2, m2, s2, r2⟩ := h2
  go_enter Try.func14, Try.ntmps14
  go_wp2
  go_loopw [5] (fun i wr => ∃ k : Nat, k ≤ n ∧ i = .int .i64 k ∧ Below w.heap.size w wr) (fun i _ => n - (intOf i).toNat)
  case atStart => exact ⟨0, Nat.zero_le _, rfl, Below.refl _ _⟩
  case round =>
    obtain ⟨k, hk, rfl, hb⟩ := hrel
    by_cases hkn : k < n
    · obtain rfl := s1 (by omega)
      obtain rfl := s2 (by omega)
      have t1 : wr.cell? ⟨b1, o1 + k, none⟩ = some (.bool (f k)) := by rw [hb.cell (p := ⟨b1, o1 + k, none⟩) (World.block_lt_of_cell? _ _ (r1 k hkn))]; exact r1 k hkn
      have t2 : wr.cell? ⟨b2, o2 + k, none⟩ = some (.bool (f k)) := by rw [hb.cell (p := ⟨b2, o2 + k, none⟩) (World.block_lt_of_cell? _ _ (r2 k hkn))]; exact r2 k hkn
      clear r1 r2 s1 s2
      have hkz : (k : Int) < (n : Int) := by omega
      go_wp2
      go_quiet (fail)
      go_wp2
      go_roundw
      case rel => exact ⟨k + 1, by omega, by go_num, below_drewN hb _⟩
      case measure => simp [intOf]; omega
    · have hkz : ¬ (k : Int) < (n : Int) := by omega
      go_wp2
      go_ret
      exact ⟨rfl, hb⟩
end Go.Proofs.Ytnkdcmloehandaa
