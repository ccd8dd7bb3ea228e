/- Plain steps of limb arithmetic: what one round of each loop does to the values. -/
import Derived.Test.YtihjaakkpnjolaaDoorPlain
namespace Tally

/-- A limb is changed: the value changes by the difference at its place. -/
theorem val_set (B : Nat) (l : List Nat) (i : Nat) (x : Nat) (h : i < l.length) :
    val B (l.set i x) + B ^ i * l[i] = val B l + B ^ i * x := by
  induction l generalizing i with
  | nil => simp at h
  | cons y l ih =>
    cases i with
    | zero => simp; omega
    | succ i =>
      have := ih i (by simpa using h)
      simp only [List.set_cons_succ, val_cons, List.getElem_cons_succ, Nat.pow_succ]
      have e1 : B ^ i * B * l[i]'(by simpa using h) = B * (B ^ i * l[i]'(by simpa using h)) := by
        rw [Nat.mul_comm (B ^ i) B, Nat.mul_assoc]
      have e2 : B ^ i * B * x = B * (B ^ i * x) := by rw [Nat.mul_comm (B ^ i) B, Nat.mul_assoc]
      rw [e1, e2]
      have e3 : B * val B (l.set i x) + B * (B ^ i * l[i]'(by simpa using h)) = B * val B l + B * (B ^ i * x) := by
        rw [← Nat.mul_add, ← Nat.mul_add, this]
      omega

/-- the sum's round: carry and limb -/
theorem add_step (B P s t c a b out c' : Nat) (h : s + P * c = t) (e : a + b + c = out + B * c') :
    s + P * out + P * B * c' + P * c = t + P * (a + b) + P * c := by
  have h1 : P * (a + b + c) = P * (out + B * c') := by rw [e]
  rw [Nat.mul_add P (a + b) c, Nat.mul_add P out (B * c'), ← Nat.mul_assoc] at h1
  omega

/-- the remainder and the quotient put together -/
theorem div_put (n B : Nat) : n % B + B * (n / B) = n := Nat.mod_add_div n B

/-- A product's limb never overflows 64 bits. -/
theorem mul_fits (x y o c : Nat) (hx : x < 1000000000) (hy : y < 1000000000) (ho : o < 1000000000) (hc : c < 1000000000) :
    x * y + o + c < 1000000000 * 1000000000 := by
  have : x * y ≤ 999999999 * 999999999 := Nat.mul_le_mul (by omega) (by omega)
  omega

theorem mul_carry (x y o c : Nat) (hx : x < 1000000000) (hy : y < 1000000000) (ho : o < 1000000000) (hc : c < 1000000000) :
    (x * y + o + c) / 1000000000 < 1000000000 :=
  Nat.div_lt_of_lt_mul (mul_fits x y o c hx hy ho hc)

/-- Knuth's theorem, part one: a guess from the first two limbs is not too small. -/
theorem guess_ge (B u1 u0 v1 : Nat) (lowU lowV D q : Nat) (hv : 0 < v1)
    (hq : q * (v1 * D + lowV) ≤ (u1 * B + u0) * D + lowU) (hU : lowU < D) : q ≤ (u1 * B + u0) / v1 := by
  rw [Nat.le_div_iff_mul_le hv]
  have h1 : q * v1 * D ≤ (u1 * B + u0) * D + lowU := by
    refine Nat.le_trans ?_ hq
    rw [Nat.mul_add, ← Nat.mul_assoc]; omega
  have h2 : q * v1 * D < (u1 * B + u0 + 1) * D := by
    rw [Nat.add_mul (u1 * B + u0) 1 D, Nat.one_mul]; omega
  have := Nat.lt_of_mul_lt_mul_right h2
  omega

end Tally
