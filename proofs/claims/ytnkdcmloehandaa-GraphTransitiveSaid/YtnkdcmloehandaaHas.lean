/- Has. -/
import Derived.Test.YtnkdcmloehandaaComps
import Derived.Test.YtnkdcmloehandaaLawClosed
namespace Go.Proofs.Ytnkdcmloehandaa
open Go.RowKit Plain

set_option maxHeartbeats 400000 in
theorem has_any {w : World} {v : Value} {n : Nat} {f : Nat → Int} {x : Int} {hb : Bool} (hh : hb = true ↔ ∃ i, i < n ∧ f i = x) (h : RowR w v n fun i => .int .i64 (f i)) :
    Calls Try.prog 28 #[v, .int .i64 x] w fun e w' => e = .returned (.bool hb) ∧ w = w' := by
  obtain ⟨a, b, o, c, rfl, l1, m1, s1, r1⟩ := h
  have HH := Lib.hid hh
  have R1 := Lib.hid r1
  clear hh r1
  go_enter Try.func28, Try.ntmps28
  go_wp2
  go_loopg [5] n (fun g s wr => ∃ k : Nat, k ≤ n ∧ g = n - k ∧ s = .int .i64 k ∧ wr = w ∧ ∀ i, i < k → f i ≠ x)
  case atStart => exact ⟨0, Nat.zero_le _, rfl, rfl, rfl, fun i hi => absurd hi (Nat.not_lt_zero _)⟩
  case round =>
    obtain ⟨k, hk, rfl, rfl, rfl, hno⟩ := hrel
    have HN := Lib.hid hno
    clear hno
    by_cases hkn : k < n
    · obtain rfl := s1 (by omega)
      have hkz : (k : Int) < (n : Int) := by omega
      have t1 := R1.out k hkn
      obtain ⟨z, hz⟩ : ∃ z, z = f k := ⟨_, rfl⟩
      rw [← hz] at t1
      have HZ := Lib.hid hz
      clear hz
      by_cases hzx : z = x
      · have hf : hb = true := HH.out.2 ⟨k, hkn, by rw [← HZ.out]; exact hzx⟩
        subst hf
        have he : (z == x) = true := by simp [hzx]
        clear HH hzx
        go_wp2
        go_ret
        exact ⟨rfl, rfl⟩
      · have he : (z == x) = false := by simp [hzx]
        have HZX := Lib.hid hzx
        clear hzx
        go_wp2
        go_roundg (n - (k + 1))
        case measure => go_light; omega
        case rel =>
          go_light
          refine ⟨k + 1, by omega, rfl, by simp, rfl, fun i hi => ?_⟩
          by_cases e1 : i = k
          · subst e1; rw [← HZ.out]; exact HZX.out
          · exact HN.out i (by omega)
    · have hkz : ¬ (k : Int) < (n : Int) := by omega
      have hf : hb = false := by
        cases hb
        · rfl
        · obtain ⟨i, hi, hfi⟩ := HH.out.1 rfl
          exact absurd hfi (HN.out i (by omega))
      subst hf
      clear HH
      go_wp2
      go_ret
      exact ⟨rfl, rfl⟩
end Go.Proofs.Ytnkdcmloehandaa
