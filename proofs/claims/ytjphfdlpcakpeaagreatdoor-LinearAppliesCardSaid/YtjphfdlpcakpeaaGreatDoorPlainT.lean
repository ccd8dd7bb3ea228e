/- Sizes of the products of small matrices and vectors. -/
import Derived.Test.YtjphfdlpcakpeaaGreatDoorPlainW
namespace Tally

theorem divInt_step {s z x d e : Int} (hd : d ≠ 0) (he : e ≠ 0) : Rat.divInt s (d * e) + Rat.divInt z d * Rat.divInt x e = Rat.divInt (s + z * x) (d * e) := by
  have nz : ∀ z : Int, z ≠ 0 → (z : Rat) ≠ 0 := fun z hz h => hz (by exact_mod_cast h)
  have h1 := nz d hd
  have h2 := nz e he
  simp only [Rat.divInt_eq_div, Rat.intCast_mul, Rat.intCast_add]
  grind

theorem small_mul {z x : Int} (hz : -32768 ≤ z ∧ z ≤ 32767) (hx : -32768 ≤ x ∧ x ≤ 32767) : (z * x).natAbs ≤ 1073741824 := by
  rw [Int.natAbs_mul]
  have h1 : z.natAbs ≤ 32768 := by omega
  have h2 : x.natAbs ≤ 32768 := by omega
  exact Nat.le_trans (Nat.mul_le_mul h1 h2) (by decide)

theorem sum_num {d e n : Nat} {z x : Nat → Int} (hz : ∀ k, k < n → -32768 ≤ z k ∧ z k ≤ 32767) (hx : ∀ k, k < n → -32768 ≤ x k ∧ x k ≤ 32767) : ∀ k, k ≤ n →
    ∃ s : Int, s.natAbs ≤ k * 1073741824 ∧ sumTo k (fun j => Rat.divInt (z j) (max 1 (d : Int)) * Rat.divInt (x j) (max 1 (e : Int))) = Rat.divInt s (max 1 (d : Int) * max 1 (e : Int)) := by
  intro k
  induction k with
  | zero => intro _; exact ⟨0, by decide, by rw [Rat.zero_divInt]; rfl⟩
  | succ k ih =>
    intro hk
    obtain ⟨s, h1, h2⟩ := ih (by omega)
    have h3 := small_mul (hz k (by omega)) (hx k (by omega))
    refine ⟨s + z k * x k, by omega, ?_⟩
    simp only [sumTo]
    rw [h2, divInt_step (by omega) (by omega)]

theorem den_small {d e : Nat} (hd : d ≤ 255) (he : e ≤ 255) : (max 1 (d : Int) * max 1 (e : Int)).natAbs ≤ 65025 ∧ max 1 (d : Int) * max 1 (e : Int) ≠ 0 := by
  constructor
  · rw [Int.natAbs_mul]
    have h1 : (max 1 (d : Int)).natAbs ≤ 255 := by omega
    have h2 : (max 1 (e : Int)).natAbs ≤ 255 := by omega
    exact Nat.le_trans (Nat.mul_le_mul h1 h2) (by decide)
  · exact Int.mul_ne_zero (by omega) (by omega)

theorem sum_few {d e n : Nat} {z x : Nat → Int} (hn : n ≤ 64) (hd : d ≤ 255) (he : e ≤ 255) (hz : ∀ k, k < n → -32768 ≤ z k ∧ z k ≤ 32767) (hx : ∀ k, k < n → -32768 ≤ x k ∧ x k ≤ 32767) : ∀ k, k ≤ n →
    FewD 11 (sumTo k (fun j => Rat.divInt (z j) (max 1 (d : Int)) * Rat.divInt (x j) (max 1 (e : Int)))) := by
  intro k hk
  obtain ⟨s, h1, h2⟩ := sum_num (d := d) (e := e) hz hx k hk
  have e11 : (10 : Nat) ^ 11 = 100000000000 := by decide
  obtain ⟨h3, h4⟩ := den_small hd he
  exact ⟨s, _, h4, by omega, by omega, h2⟩
theorem FewD.fw {N : Nat} {q : Rat} (h : FewD N q) : Fw N q := by
  obtain ⟨a, e, h1, h2, h3, rfl⟩ := h
  exact fw_divInt h1 h2 h3
theorem FewD.mono {N M : Nat} {q : Rat} (h : FewD N q) (hm : N ≤ M) : FewD M q := by
  obtain ⟨a, e, h1, h2, h3, rfl⟩ := h
  have hp : 10 ^ N ≤ 10 ^ M := Nat.pow_le_pow_right (by decide) hm
  exact ⟨a, e, h1, by omega, by omega, rfl⟩
theorem mul_lt_pow {N M : Nat} {x y : Int} (hx : x.natAbs < 10 ^ N) (hy : y.natAbs < 10 ^ M) : (x * y).natAbs < 10 ^ (N + M) := by
  rw [Int.natAbs_mul, Nat.pow_add]
  by_cases hz : x.natAbs = 0
  · rw [hz, Nat.zero_mul]; exact Nat.mul_pos (Nat.pow_pos (by decide)) (Nat.pow_pos (by decide))
  · exact Nat.lt_of_lt_of_le (Nat.mul_lt_mul_of_pos_left hy (by omega)) (Nat.mul_le_mul_right _ (by omega))
theorem FewD.mul {N M : Nat} {p q : Rat} (h : FewD N p) (k : FewD M q) : FewD (N + M) (p * q) := by
  obtain ⟨a, e, h1, h2, h3, rfl⟩ := h
  obtain ⟨b, f, k1, k2, k3, rfl⟩ := k
  exact ⟨a * b, e * f, Int.mul_ne_zero h1 k1, mul_lt_pow h2 k2, mul_lt_pow h3 k3, by rw [Rat.divInt_mul_divInt]⟩
theorem FewD.add {N M : Nat} {p q : Rat} (h : FewD N p) (k : FewD M q) : FewD (N + M + 1) (p + q) := by
  obtain ⟨a, e, h1, h2, h3, rfl⟩ := h
  obtain ⟨b, f, k1, k2, k3, rfl⟩ := k
  have l1 := mul_lt_pow h2 k3
  have l2 := mul_lt_pow h3 k2
  have l3 := mul_lt_pow h3 k3
  have e1 : (10 : Nat) ^ (N + M + 1) = 10 * 10 ^ (N + M) := by rw [Nat.pow_succ]; omega
  refine ⟨a * f + e * b, e * f, Int.mul_ne_zero h1 k1, by omega, by omega, ?_⟩
  have nz : ∀ z : Int, z ≠ 0 → (z : Rat) ≠ 0 := fun z hz h => hz (by exact_mod_cast h)
  have n1 := nz e h1
  have n2 := nz f k1
  simp only [Rat.divInt_eq_div, Rat.intCast_mul, Rat.intCast_add]
  grind
end Tally
