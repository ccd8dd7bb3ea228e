import Derived.Test.YteionhenpehogaaGreatDoorPlainL
namespace Tally
def upIn (A : Mx) (r c i k0 : Nat) : Mx := fun a k => if a < i ∨ (a = i ∧ k < k0) then upR A r c a k else A a k
section
variable {A : Mx} {r c i k0 n m a k : Nat}
theorem upIn_start (A : Mx) (r c : Nat) : upIn A r c 0 0 = A := by
 funext a k
 simp [upIn]
theorem upIn_done (a : Nat) {k : Nat} (hk : k < n) : upIn A r c i n a k = upIn A r c (i + 1) 0 a k := by
 unfold upIn
 by_cases h : a < i ∨ a = i
 ·rw [if_pos (by omega), if_pos (by omega)]
 ·rw [if_neg (by omega), if_neg (by omega)]
theorem upR_self (A : Mx) (r c k : Nat) : upR A r c r k = A r k := by unfold upR; rw [if_pos rfl]
theorem upIn_pivot (a k : Nat) : upIn A i c i 0 a k = upIn A i c (i + 1) 0 a k := by
 unfold upIn
 by_cases h : a < i
 ·rw [if_pos (by omega), if_pos (by omega)]
 ·rw [if_neg (by omega)]
  by_cases e : a = i
  ·subst e; rw [if_pos (by omega), upR_self]
  ·rw [if_neg (by omega)]
theorem upIn_zero (h0 : A i c = 0) (a k : Nat) : upIn A r c i 0 a k = upIn A r c (i + 1) 0 a k := by
 unfold upIn
 by_cases h : a < i
 ·rw [if_pos (by omega), if_pos (by omega)]
 ·rw [if_neg (by omega)]
  by_cases e : a = i
  ·subst e
   rw [if_pos (by omega)]
   unfold upR
   by_cases e2 : a = r
   ·rw [if_pos e2]
   ·rw [if_neg e2, h0, Rat.div_def, Rat.zero_mul, Rat.zero_mul]; grind
  ·rw [if_neg (by omega)]
theorem upIn_end (ha : a < m) (k : Nat) : upIn A r c m 0 a k = upR A r c a k := by
 unfold upIn; rw [if_pos (by omega)]
theorem upIn_here (hk : k0 ≤ k) : upIn A r c i k0 i k = A i k := by
 unfold upIn; rw [if_neg (by omega)]
theorem upIn_row (k : Nat) : upIn A r c i k0 r k = A r k := by
 unfold upIn
 split
 ·exact upR_self _ _ _ _
 ·rfl
theorem upIn_put (hi : i ≠ r) (a b : Nat) : (if a = i ∧ b = k then A i k - A i c / A r c * A r k else upIn A r c i k a b) = upIn A r c i (k + 1) a b := by
 unfold upIn
 by_cases h : a = i ∧ b = k
 ·obtain ⟨rfl, rfl⟩ := h
  rw [if_pos ⟨rfl, rfl⟩, if_pos (by omega)]
  unfold upR
  rw [if_neg hi]
 ·rw [if_neg h]
  by_cases h2 : a < i ∨ (a = i ∧ b < k)
  ·rw [if_pos h2, if_pos (by omega)]
  ·rw [if_neg h2, if_neg (by omega)]
end
end Tally
