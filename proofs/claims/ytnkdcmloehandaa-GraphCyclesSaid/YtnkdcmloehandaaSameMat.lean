/- SameMatrix answers true where both matrices read alike; the reference's Cyclic. -/
import Derived.Test.YtnkdcmloehandaaClosed
namespace Go.Proofs.Ytnkdcmloehandaa
open Go.RowKit Plain

set_option maxHeartbeats 1000000 in
theorem sameMatrix_any {w : World} {v1 v2 : Value} {G : Nat} {L : Nat → Nat} {Z : Nat → Nat → Int} (h1 : MatR w v1 G L Z) (h2 : MatR w v2 G L Z) :
    Calls Try.prog 19 #[v1, v2] w fun e w' => e = .returned (.bool true) ∧ Below w.heap.size w w' := by
  obtain ⟨a1, b1, o1, c1, A1, B1, O1, C1, rfl, l1, m1, s1, r1⟩ := h1
  obtain ⟨a2, b2, o2, c2, A2, B2, O2, C2, rfl, l2, m2, s2, r2⟩ := h2
  have R1 := Lib.hid r1
  have R2 := Lib.hid r2
  clear r1 r2
  have hne0 : ((G : Int) != (G : Int)) = false := by simp
  go_enter Try.func19, Try.ntmps19
  go_wp2
  go_loopg [5] G (fun g s wr => ∃ k : Nat, k ≤ G ∧ g = G - k ∧ s = .int .i64 k ∧ Below w.heap.size w wr)
  case atStart => go_light; exact ⟨0, Nat.zero_le _, rfl, rfl, Below.refl _ _⟩
  case round =>
    obtain ⟨k, hk, rfl, rfl, hb⟩ := hrel
    by_cases hkG : k < G
    · obtain rfl := s1 (by omega)
      obtain rfl := s2 (by omega)
      have hkz : (k : Int) < (G : Int) := by omega
      obtain ⟨p1, p2, p3, p4, p5⟩ := R1.out k hkG
      obtain ⟨q1, q2, q3, q4, q5⟩ := R2.out k hkG
      obtain ⟨n, hn⟩ : ∃ n, n = L k := ⟨_, rfl⟩
      obtain ⟨x, hx⟩ : ∃ x, x = A1 k := ⟨_, rfl⟩
      obtain ⟨y, hy⟩ : ∃ y, y = A2 k := ⟨_, rfl⟩
      rw [← hn, ← hx] at p1
      rw [← hn, ← hy] at q1
      rw [← hn] at p2 p4 p5 q2 q4 q5
      rw [← hx] at p4
      rw [← hy] at q4
      have t1 := keepc hb p1
      have t2 := keepc hb q1
      have hnn : ((n : Int) != (n : Int)) = false := by simp
      have P5 := Lib.hid p5
      have Q5 := Lib.hid q5
      have P4 := Lib.hid p4
      have Q4 := Lib.hid q4
      clear hn hx hy p1 q1 p4 p5 q4 q5
      have HB := Lib.hid hb
      clear hb
      go_wp2
      go_quiet (fail)
      go_wp2
      go_loopg [6] n (fun g s wi => ∃ i : Nat, i ≤ n ∧ g = n - i ∧ s = .int .i64 i ∧ Below w.heap.size w wi ∧ wi.cell? ⟨b1, o1 + k, none⟩ = some (.slice x n (C1 k)) ∧ wi.cell? ⟨b2, o2 + k, none⟩ = some (.slice y n (C2 k)))
      case atStart => go_light; exact ⟨0, Nat.zero_le _, rfl, rfl, below_drewN HB.out _, by simpa using t1, by simpa using t2⟩
      case round =>
        obtain ⟨i, hi, rfl, rfl, hbi, u1, u2⟩ := hrel
        clear t1 t2
        by_cases hin : i < n
        · have hiz : (i : Int) < (n : Int) := by omega
          obtain rfl := P4.out (by omega)
          obtain rfl := Q4.out (by omega)
          have x1 := keepc hbi (P5.out i hin)
          have x2 := keepc hbi (Q5.out i hin)
          obtain ⟨z, hz⟩ : ∃ z, z = Z k i := ⟨_, rfl⟩
          rw [← hz] at x1 x2
          have hzz : (z != z) = false := by simp
          have HBI := Lib.hid hbi
          clear hz hbi
          go_wp2
          go_quiet (fail)
          go_wp2
          go_roundg (n - (i + 1))
          case measure => go_light; omega
          case rel => go_light; exact ⟨i + 1, by omega, rfl, by simp, below_drewN HBI.out _, by simpa using u1, by simpa using u2⟩
        · have hiz : ¬ (i : Int) < (n : Int) := by omega
          have HBI := Lib.hid hbi
          clear hbi
          go_wp2
          go_roundg (G - (k + 1))
          case measure => go_light; omega
          case rel => go_light; exact ⟨k + 1, by omega, rfl, by simp, HBI.out⟩
    · have hkz : ¬ (k : Int) < (G : Int) := by omega
      go_wp2
      go_ret
      exact ⟨rfl, hb⟩
end Go.Proofs.Ytnkdcmloehandaa
