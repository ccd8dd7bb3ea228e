/- Texts put together: PlainT, PlainP, PlainN. -/
import Derived.Test.YteionhenpehogaaGreatDoorPlain
import Derived.Lib.ItoaNum
import Derived.Lib.Repeat
import Derived.Lib.Strings
import Derived.Lib.ItoaMem

/- Plain law of decimal texts: the digits of a number cut into pieces of fixed width. -/

namespace Tally
open Go.Lib

/-- the last w decimal digits of x -/
def pad : Nat → Nat → List UInt8
  | 0, _ => []
  | w + 1, x => pad w (x / 10) ++ [UInt8.ofNat (48 + x % 10)]

theorem pad_length (w x : Nat) : (pad w x).length = w := by
  induction w generalizing x with
  | zero => rfl
  | succ w ih => simp [pad, ih]

theorem pad_zero (w : Nat) : pad w 0 = List.replicate w 48 := by
  induction w with
  | zero => rfl
  | succ w ih =>
    rw [pad, Nat.zero_div, ih, List.replicate_succ']
    rfl

/-- A digit is put ahead. -/
theorem pad_left (w x : Nat) : pad (w + 1) x = UInt8.ofNat (48 + x / 10 ^ w % 10) :: pad w x := by
  induction w generalizing x with
  | zero => simp [pad]
  | succ w ih =>
    rw [pad, ih (x / 10), pad, Nat.div_div_eq_div_mul, Nat.pow_succ, Nat.mul_comm 10]
    rfl

/-- A number with a part behind it. -/
theorem decDigits_join (n : Nat) (hn : 0 < n) (w x : Nat) (hx : x < 10 ^ w) :
    decDigits (n * 10 ^ w + x) = decDigits n ++ pad w x := by
  induction w generalizing x with
  | zero =>
    have : x = 0 := by simpa using hx
    subst this
    simp [pad]
  | succ w ih =>
    rw [Nat.pow_succ] at hx
    have hp : 1 ≤ 10 ^ w := Nat.one_le_pow _ _ (by decide)
    have hle : 10 ^ w ≤ n * 10 ^ w := Nat.le_mul_of_pos_left _ hn
    have e : n * 10 ^ (w + 1) + x = 10 * (n * 10 ^ w) + x := by
      rw [Nat.pow_succ, ← Nat.mul_assoc, Nat.mul_comm]
    have q1 : (n * 10 ^ (w + 1) + x) / 10 = n * 10 ^ w + x / 10 := by rw [e]; omega
    have q2 : (n * 10 ^ (w + 1) + x) % 10 = x % 10 := by rw [e]; omega
    rw [decDigits, dif_neg (by rw [e]; omega), q1, q2, ih (x / 10) (by omega), pad, List.append_assoc]

/-- Zeros ahead of a numeral. -/
theorem pad_eq (w x : Nat) (hw : 0 < w) (hx : x < 10 ^ w) :
    pad w x = List.replicate (w - nDigits x) 48 ++ decDigits x := by
  obtain ⟨w, rfl⟩ : ∃ k, w = k + 1 := ⟨w - 1, by omega⟩
  induction w generalizing x with
  | zero =>
    have hx' : x < 10 := by simpa using hx
    rw [decDigits_one hx', nDigits_small hx', pad, pad, Nat.mod_eq_of_lt hx']
    rfl
  | succ w ih =>
    rw [pad]
    by_cases h : x < 10
    · rw [decDigits_one h, nDigits_small h, Nat.div_eq_of_lt h, pad_zero, Nat.mod_eq_of_lt h]
      rfl
    · rw [ih (x / 10) (by omega) (by rw [Nat.pow_succ] at hx; omega), nDigits_big h]
      conv => rhs; rw [decDigits, dif_neg h]
      rw [List.append_assoc]
      congr 2
      omega

/-- The whole numeral as its last digits. -/
theorem pad_whole (w x : Nat) (h1 : 10 ^ w ≤ x) (h2 : x < 10 ^ (w + 1)) : pad (w + 1) x = decDigits x := by
  rw [pad_eq (w + 1) x (by omega) h2, nDigits_unique w x h1 h2]
  simp

theorem repeat_zero (k : Nat) : repeatL [48] k = List.replicate k 48 := by
  induction k with
  | zero => rfl
  | succ k ih => simp [repeatL, ih, List.replicate_succ]

end Tally

/- Plain law of reading decimal texts: which texts are integers, and what they say. -/

namespace Tally
open Go.Lib

/-- The number that digits say. -/
def decVal (l : List UInt8) : Nat := l.foldl (fun n c => 10 * n + (c.toNat - 48)) 0

theorem decVal_foldl (l : List UInt8) (n : Nat) : l.foldl (fun n c => 10 * n + (c.toNat - 48)) n = n * 10 ^ l.length + decVal l := by
  induction l generalizing n with
  | nil => simp [decVal]
  | cons c l ih =>
    unfold decVal
    rw [List.foldl_cons, List.foldl_cons, ih, ih (10 * 0 + (c.toNat - 48)), List.length_cons, Nat.pow_succ, Nat.add_mul, Nat.mul_zero, Nat.zero_add, Nat.mul_comm 10 n, Nat.mul_assoc, Nat.mul_comm 10, Nat.add_assoc]

theorem decVal_nil : decVal [] = 0 := rfl

theorem decVal_append (a b : List UInt8) : decVal (a ++ b) = decVal a * 10 ^ b.length + decVal b := by
  conv => lhs; unfold decVal
  rw [List.foldl_append, decVal_foldl]
  rfl

theorem decVal_snoc (a : List UInt8) (c : UInt8) : decVal (a ++ [c]) = 10 * decVal a + (c.toNat - 48) := by
  rw [decVal_append]
  simp [decVal]
  omega

def isDigit (c : UInt8) : Prop := 48 ≤ c.toNat ∧ c.toNat ≤ 57

theorem decVal_lt (l : List UInt8) (h : ∀ c ∈ l, isDigit c) : decVal l < 10 ^ l.length := by
  refine list_snoc_ind (P := fun l => (∀ c ∈ l, isDigit c) → decVal l < 10 ^ l.length) (fun _ => by simp [decVal]) ?_ l h
  intro l c ih h
  have h1 := ih (fun x hx => h x (by simp [hx]))
  have h2 := h c (by simp)
  unfold isDigit at h2
  rw [decVal_snoc, List.length_append, List.length_singleton, Nat.pow_succ]
  omega

end Tally

/- Plain law of reading an integer: the code of the error, the number, and its text again. -/

namespace Tally
open Go.Lib
/-! ### the digits cut into limbs, from the end -/

/-- z: how many digits are left (may be below zero at the end); L: the limbs that have been cut off -/
structure CutI (w : Nat) (D : List UInt8) (z : Int) (L : List Nat) : Prop where
  lim : Lim (10 ^ w) L
  left : z = (D.length : Int) - w * L.length
  sum : decVal D = decVal (D.take z.toNat) * (10 ^ w) ^ L.length + val (10 ^ w) L

theorem CutI.start (w : Nat) (D : List UInt8) : CutI w D D.length [] :=
  ⟨fun x hx => by simp at hx, by simp, by simp⟩

theorem decVal_take (D : List UInt8) {f e : Nat} (hf : f ≤ e) (he : e ≤ D.length) : decVal (D.take e) = decVal (D.take f) * 10 ^ (e - f) + decVal ((D.take e).drop f) := by
  have := decVal_append ((D.take e).take f) ((D.take e).drop f)
  rw [List.take_append_drop, List.length_drop, List.length_take, Nat.min_eq_left he, List.take_take, Nat.min_eq_left hf] at this
  exact this

theorem CutI.step {w : Nat} {D : List UInt8} {z : Int} {L : List Nat} (h : CutI w D z L) (hw : 0 < w) (hz : 0 < z) (hd : ∀ c ∈ D, isDigit c) :
    CutI w D (z - w) (L ++ [decVal ((D.take z.toNat).drop (z - w).toNat)]) := by
  have hl := h.left
  have he : z.toNat ≤ D.length := by
    have : (0 : Int) ≤ (w : Int) * (L.length : Int) := Int.mul_nonneg (by omega) (by omega)
    omega
  have hf : (z - w).toNat ≤ z.toNat := by omega
  have hlt : decVal ((D.take z.toNat).drop (z - w).toNat) < 10 ^ w := by
    refine Nat.lt_of_lt_of_le (decVal_lt _ fun c hc => hd c (List.mem_of_mem_take (List.mem_of_mem_drop hc))) (Nat.pow_le_pow_right (by decide) ?_)
    rw [List.length_drop, List.length_take]; omega
  refine ⟨h.lim.append (Lim.single hlt), ?_, ?_⟩
  · rw [List.length_append, List.length_singleton, Int.natCast_add, Int.mul_add]; simp; omega
  · rw [h.sum, decVal_take D hf he, val_snoc, List.length_append, List.length_singleton, Nat.pow_succ]
    by_cases hz2 : 0 ≤ z - w
    · rw [show z.toNat - (z - w).toNat = w by omega]
      generalize decVal (D.take (z - w).toNat) = a
      generalize decVal ((D.take z.toNat).drop (z - w).toNat) = b
      generalize 10 ^ w = B
      generalize B ^ L.length = P
      grind
    · rw [show (z - w).toNat = 0 by omega]
      simp [decVal_nil]
      grind

theorem CutI.done {w : Nat} {D : List UInt8} {z : Int} {L : List Nat} (h : CutI w D z L) (hz : z ≤ 0) : decVal D = val (10 ^ w) L := by
  have := h.sum
  rw [show z.toNat = 0 by omega] at this
  simpa [decVal_nil] using this

end Tally
