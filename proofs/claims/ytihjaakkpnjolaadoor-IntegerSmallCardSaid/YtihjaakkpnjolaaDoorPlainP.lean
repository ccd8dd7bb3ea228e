/- Plain law of reading decimal texts: which texts are integers, and what they say. -/
import Derived.Test.YtihjaakkpnjolaaDoorPlain
import Derived.Test.YtihjaakkpnjolaaDoorPlainT
namespace Tally
open Go.Lib

/-- The number that digits say. -/
def decVal (l : List UInt8) : Nat := l.foldl (fun n c => 10 * n + (c.toNat - 48)) 0

theorem decVal_foldl (l : List UInt8) (n : Nat) : l.foldl (fun n c => 10 * n + (c.toNat - 48)) n = n * 10 ^ l.length + decVal l := by
  induction l generalizing n with
  | nil => simp [decVal]
  | cons c l ih =>
    unfold decVal
    rw [List.foldl_cons, List.foldl_cons, ih, ih (10 * 0 + (c.toNat - 48)), List.length_cons, Nat.pow_succ, Nat.add_mul, Nat.mul_zero, Nat.zero_add, Nat.mul_comm 10 n, Nat.mul_assoc, Nat.mul_comm 10, Nat.add_assoc]

theorem decVal_nil : decVal [] = 0 := rfl

theorem decVal_append (a b : List UInt8) : decVal (a ++ b) = decVal a * 10 ^ b.length + decVal b := by
  conv => lhs; unfold decVal
  rw [List.foldl_append, decVal_foldl]
  rfl

theorem decVal_snoc (a : List UInt8) (c : UInt8) : decVal (a ++ [c]) = 10 * decVal a + (c.toNat - 48) := by
  rw [decVal_append]
  simp [decVal]
  omega

def isDigit (c : UInt8) : Prop := 48 ≤ c.toNat ∧ c.toNat ≤ 57

theorem decVal_lt (l : List UInt8) (h : ∀ c ∈ l, isDigit c) : decVal l < 10 ^ l.length := by
  refine list_snoc_ind (P := fun l => (∀ c ∈ l, isDigit c) → decVal l < 10 ^ l.length) (fun _ => by simp [decVal]) ?_ l h
  intro l c ih h
  have h1 := ih (fun x hx => h x (by simp [hx]))
  have h2 := h c (by simp)
  unfold isDigit at h2
  rw [decVal_snoc, List.length_append, List.length_singleton, Nat.pow_succ]
  omega

/-- The digits of a number say it, and nothing else has the same text. -/
theorem decDigits_of (l : List UInt8) (h : ∀ c ∈ l, isDigit c) (h0 : l ≠ []) (h1 : l.head? = some 48 → l = [48]) : decDigits (decVal l) = l := by
  revert h h0 h1
  refine list_snoc_ind (P := fun l => (∀ c ∈ l, isDigit c) → l ≠ [] → (l.head? = some 48 → l = [48]) → decDigits (decVal l) = l) (fun _ h => absurd rfl h) ?_ l
  intro l c ih h _ h1
  have hc := h c (by simp)
  unfold isDigit at hc
  by_cases hl : l = []
  · subst hl
    rw [decVal_snoc]
    simp only [decVal_nil, Nat.mul_zero, Nat.zero_add, List.nil_append]
    rw [decDigits_one (by omega)]
    congr 1
    rw [show 48 + (c.toNat - 48) = c.toNat by omega]
    simp
  · have hh : (l ++ [c]).head? = l.head? := by cases l with | nil => exact absurd rfl hl | cons x l => rfl
    have hne : l.head? ≠ some 48 := by
      intro e
      have := h1 (by rw [hh, e])
      have h2 := congrArg List.length this
      have h3 := List.length_pos_iff.2 hl
      rw [List.length_append, List.length_singleton, List.length_singleton] at h2
      omega
    have h2 := ih (fun x hx => h x (by simp [hx])) hl (fun e => absurd e hne)
    have hpos : 0 < decVal l := by
      rcases Nat.eq_zero_or_pos (decVal l) with e | e
      · rw [e, decDigits_one (by omega)] at h2
        exact absurd (by rw [← h2]; rfl) hne
      · exact e
    rw [decVal_snoc, decDigits, dif_neg (by omega), show (10 * decVal l + (c.toNat - 48)) / 10 = decVal l by omega, h2]
    congr 2
    rw [show 48 + (10 * decVal l + (c.toNat - 48)) % 10 = c.toNat by omega]
    simp

end Tally
