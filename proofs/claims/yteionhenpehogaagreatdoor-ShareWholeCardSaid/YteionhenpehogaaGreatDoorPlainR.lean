import Derived.Test.YteionhenpehogaaGreatDoorPlainN
import Derived.Lib.CutLaws
namespace Tally
theorem num_neg {q : Rat} : q.num < 0 ↔ q < 0 := by
 rw [Rat.lt_iff]
 show q.num < 0 ↔ q.num * 1 < 0 * _
 omega
theorem num_pos {q : Rat} : 0 < q.num ↔ 0 < q := by
 rw [Rat.lt_iff]
 show 0 < q.num ↔ 0 * _ < q.num * 1
 omega
theorem cmp_sign (p q : Rat) : (p.num * q.den - q.num * p.den).sign = (p - q).num.sign := by
 have h1 := Rat.lt_iff p q
 have h2 := Rat.lt_iff q p
 have h3 : p - q < 0 ↔ p < q := by constructor <;> intro h <;> grind
 have h4 : 0 < p - q ↔ q < p := by constructor <;> intro h <;> grind
 have n1 : (p - q).num < 0 ↔ p - q < 0 := num_neg
 have n2 : 0 < (p - q).num ↔ 0 < p - q := num_pos
 rcases Int.lt_trichotomy (p.num * q.den - q.num * p.den) 0 with k | k | k
 ·rw [Int.sign_eq_neg_one_of_neg k, Int.sign_eq_neg_one_of_neg (n1.2 (h3.2 (h1.2 (by omega))))]
 ·have x1 : ¬ (p - q).num < 0 := fun h => by have := h1.1 (h3.1 (n1.1 h)); omega
  have x2 : ¬ 0 < (p - q).num := fun h => by have := h2.1 (h4.1 (n2.1 h)); omega
  have : (p - q).num = 0 := by omega
  rw [k, this]
 ·rw [Int.sign_eq_one_of_pos k, Int.sign_eq_one_of_pos (n2.2 (h4.2 (h2.2 (by omega))))]
def cmpQ (p q : Rat) : Int := (p.num * q.den - q.num * p.den).sign
theorem cmpQ_eq (p q : Rat) : cmpQ p q = (p - q).num.sign := cmp_sign p q
theorem cmpQ_zero {p q : Rat} : cmpQ p q = 0 ↔ p = q := by
 rw [cmpQ_eq, Int.sign_eq_zero_iff_zero, Rat.num_eq_zero]
 constructor <;> intro h <;> grind
theorem cmpQ_neg {p q : Rat} : cmpQ p q < 0 ↔ p < q := by
 unfold cmpQ
 rw [Rat.lt_iff, Int.sign_neg_iff]
 omega
theorem cmpQ_three (p q : Rat) : cmpQ p q = -1 ∨ cmpQ p q = 0 ∨ cmpQ p q = 1 := by
 unfold cmpQ
 generalize p.num * q.den - q.num * p.den = x
 rcases Int.lt_trichotomy x 0 with k | k | k
 ·left; exact Int.sign_eq_neg_one_of_neg k
 ·right; left; rw [k]; rfl
 ·right; right; exact Int.sign_eq_one_of_pos k
end Tally
namespace Tally
def Fw (N : Nat) (q : Rat) : Prop := q.num.natAbs < 10 ^ N ∧ q.den < 10 ^ N
theorem fw_mono {N M : Nat} {q : Rat} (h : Fw N q) (hm : N ≤ M) : Fw M q :=
 ⟨Nat.lt_of_lt_of_le h.1 (Nat.pow_le_pow_right (by decide) hm), Nat.lt_of_lt_of_le h.2 (Nat.pow_le_pow_right (by decide) hm)⟩
theorem fw_divInt {N : Nat} {n d : Int} (hd : d ≠ 0) (h1 : n.natAbs < 10 ^ N) (h2 : d.natAbs < 10 ^ N) : Fw N (Rat.divInt n d) :=
 ⟨Nat.lt_of_le_of_lt (num_le n d) h1, Nat.lt_of_le_of_lt (den_le hd) h2⟩
theorem pw_mul {N M x y : Nat} (h : x < 10 ^ N) (k : y < 10 ^ M) : x * y < 10 ^ (N + M) := by
 rw [Nat.pow_add]; exact Nat.mul_lt_mul'' h k
theorem fw_neg {N : Nat} {q : Rat} (h : Fw N q) : Fw N (-q) := by
 unfold Fw; rw [Rat.neg_num, Rat.neg_den, Int.natAbs_neg]; exact h
theorem fw_mul {N M : Nat} {p q : Rat} (h : Fw N p) (k : Fw M q) : Fw (N + M) (p * q) := by
 rw [rat_mul]
 refine fw_divInt (Int.mul_ne_zero (by have := p.den_nz; omega) (by have := q.den_nz; omega)) ?_ ?_
 ·rw [Int.natAbs_mul]; exact pw_mul h.1 k.1
 ·rw [Int.natAbs_mul]; exact pw_mul h.2 k.2
theorem fw_zero (N : Nat) : Fw (N + 1) 0 := by
 have : 1 ≤ 10 ^ N := Nat.pow_pos (by decide)
 refine ⟨?_, ?_⟩
 ·show 0 < _; exact Nat.pow_pos (by decide)
 ·show 1 < _; rw [Nat.pow_succ]; omega
theorem fw_div {N M : Nat} {p q : Rat} (h : Fw N p) (k : Fw M q) : Fw (N + M + 1) (p / q) := by
 by_cases hq : q = 0
 ·subst hq; rw [Rat.div_def, Rat.inv_zero, Rat.mul_zero]; exact fw_zero _
 ·refine fw_mono ?_ (show N + M ≤ N + M + 1 by omega)
  rw [rat_div]
  refine fw_divInt (Int.mul_ne_zero (by have := p.den_nz; omega) (fun e => hq ((sign_num q).1 e))) ?_ ?_
  ·rw [Int.natAbs_mul]; exact pw_mul h.1 k.2
  ·rw [Int.natAbs_mul]; exact pw_mul h.2 k.1
theorem fw_add {N M : Nat} {p q : Rat} (h : Fw N p) (k : Fw M q) : Fw (N + M + 1) (p + q) := by
 rw [rat_add]
 have a := pw_mul h.1 k.2
 have b := pw_mul k.1 h.2
 have c := pw_mul h.2 k.2
 rw [Nat.add_comm M N] at b
 have e : 10 ^ (N + M + 1) = 10 * 10 ^ (N + M) := by rw [Nat.pow_succ]; omega
 refine fw_divInt (Int.mul_ne_zero (by have := p.den_nz; omega) (by have := q.den_nz; omega)) ?_ ?_
 ·refine Nat.lt_of_le_of_lt (Int.natAbs_add_le _ _) ?_
  rw [Int.natAbs_mul, Int.natAbs_mul, Int.natAbs_natCast, Int.natAbs_natCast]
  omega
 ·rw [Int.natAbs_mul, Int.natAbs_natCast, Int.natAbs_natCast]; omega
end Tally
namespace Tally
open Go.Lib
end Tally
namespace Tally
open Go.Lib
end Tally
