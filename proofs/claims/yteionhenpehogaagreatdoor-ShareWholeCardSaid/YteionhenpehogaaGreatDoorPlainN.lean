import Derived.Test.YteionhenpehogaaGreatDoorPlain
import Derived.Lib.ItoaNum
import Derived.Lib.Repeat
import Derived.Lib.Strings
import Derived.Lib.ItoaMem
namespace Tally
open Go.Lib
def pad : Nat → Nat → List UInt8
 | 0, _ => []
 | w + 1, x => pad w (x / 10) ++ [UInt8.ofNat (48 + x % 10)]
theorem pad_length (w x : Nat) : (pad w x).length = w := by
 induction w generalizing x with
 | zero => rfl
 | succ w ih => simp [pad, ih]
theorem pad_zero (w : Nat) : pad w 0 = List.replicate w 48 := by
 induction w with
 | zero => rfl
 | succ w ih =>
  rw [pad, Nat.zero_div, ih, List.replicate_succ']
  rfl
theorem pad_left (w x : Nat) : pad (w + 1) x = UInt8.ofNat (48 + x / 10 ^ w % 10) :: pad w x := by
 induction w generalizing x with
 | zero => simp [pad]
 | succ w ih =>
  rw [pad, ih (x / 10), pad, Nat.div_div_eq_div_mul, Nat.pow_succ, Nat.mul_comm 10]
  rfl
theorem decDigits_join (n : Nat) (hn : 0 < n) (w x : Nat) (hx : x < 10 ^ w) :
  decDigits (n * 10 ^ w + x) = decDigits n ++ pad w x := by
 induction w generalizing x with
 | zero =>
  have : x = 0 := by simpa using hx
  subst this
  simp [pad]
 | succ w ih =>
  rw [Nat.pow_succ] at hx
  have hp : 1 ≤ 10 ^ w := Nat.one_le_pow _ _ (by decide)
  have hle : 10 ^ w ≤ n * 10 ^ w := Nat.le_mul_of_pos_left _ hn
  have e : n * 10 ^ (w + 1) + x = 10 * (n * 10 ^ w) + x := by
   rw [Nat.pow_succ, ← Nat.mul_assoc, Nat.mul_comm]
  have q1 : (n * 10 ^ (w + 1) + x) / 10 = n * 10 ^ w + x / 10 := by rw [e]; omega
  have q2 : (n * 10 ^ (w + 1) + x) % 10 = x % 10 := by rw [e]; omega
  rw [decDigits, dif_neg (by rw [e]; omega), q1, q2, ih (x / 10) (by omega), pad, List.append_assoc]
theorem pad_eq (w x : Nat) (hw : 0 < w) (hx : x < 10 ^ w) :
  pad w x = List.replicate (w - nDigits x) 48 ++ decDigits x := by
 obtain ⟨w, rfl⟩ : ∃ k, w = k + 1 := ⟨w - 1, by omega⟩
 induction w generalizing x with
 | zero =>
  have hx' : x < 10 := by simpa using hx
  rw [decDigits_one hx', nDigits_small hx', pad, pad, Nat.mod_eq_of_lt hx']
  rfl
 | succ w ih =>
  rw [pad]
  by_cases h : x < 10
  ·rw [decDigits_one h, nDigits_small h, Nat.div_eq_of_lt h, pad_zero, Nat.mod_eq_of_lt h]
   rfl
  ·rw [ih (x / 10) (by omega) (by rw [Nat.pow_succ] at hx; omega), nDigits_big h]
   conv => rhs; rw [decDigits, dif_neg h]
   rw [List.append_assoc]
   congr 2
   omega
theorem pad_whole (w x : Nat) (h1 : 10 ^ w ≤ x) (h2 : x < 10 ^ (w + 1)) : pad (w + 1) x = decDigits x := by
 rw [pad_eq (w + 1) x (by omega) h2, nDigits_unique w x h1 h2]
 simp
theorem repeat_zero (k : Nat) : repeatL [48] k = List.replicate k 48 := by
 induction k with
 | zero => rfl
 | succ k ih => simp [repeatL, ih, List.replicate_succ]
end Tally
namespace Tally
open Go.Lib
end Tally
namespace Tally
open Go.Lib
end Tally
