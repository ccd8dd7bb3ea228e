/- Plain laws of long texts of integers, in pieces. -/
import Derived.Test.YtikpafocankggaaGreatDoorPlainR
namespace Tally
open Go.Lib
theorem long_step {D : List UInt8} {j k : Nat} (hk : j + k ≤ D.length) (h : k = 15 ∨ j = 0) :
  (decVal (D.take j) : Int) * 1000000000000000 + decVal ((D.drop j).take k) = decVal (D.take (j + k)) := by
 have e : D.take (j + k) = D.take j ++ (D.drop j).take k := by rw [List.take_add]
 rw [e, decVal_append]
 have hl : ((D.drop j).take k).length = k := by rw [List.length_take, List.length_drop]; omega
 rw [hl]
 rcases h with rfl | rfl
 ·rw [Int.natCast_add, Int.natCast_mul]; rfl
 ·simp [decVal_nil]
theorem rlong_step {D : List UInt8} {j k : Nat} (hk : j + k ≤ D.length) :
  (decVal (D.take j) : Int) * ((10 ^ k : Nat) : Int) + decVal ((D.drop j).take k) = decVal (D.take (j + k)) := by
 have e : D.take (j + k) = D.take j ++ (D.drop j).take k := by rw [List.take_add]
 rw [e, decVal_append]
 have hl : ((D.drop j).take k).length = k := by rw [List.length_take, List.length_drop]; omega
 rw [hl, Int.natCast_add, Int.natCast_mul]
def pieceOf (n : Nat) : Nat := if n % 15 = 0 then 15 else n % 15
theorem piece_le {n : Nat} (h : 0 < n) : 1 ≤ pieceOf n ∧ pieceOf n ≤ 15 ∧ pieceOf n ≤ n ∧ (n - pieceOf n) % 15 = 0 := by
 unfold pieceOf
 split <;> omega
theorem piece_full {n : Nat} (h : n % 15 = 0) : pieceOf n = 15 := if_pos h
theorem digits_few {D : List UInt8} {N : Nat} (h : ∀ c ∈ D, isDigit c) (hl : D.length ≤ N) : decVal D < 10 ^ N :=
 Nat.lt_of_lt_of_le (decVal_lt D h) (Nat.pow_le_pow_right (by decide) hl)
theorem take_digits {D : List UInt8} (h : ∀ c ∈ D, isDigit c) (k : Nat) : ∀ c ∈ D.take k, isDigit c := fun c hc => h c (List.mem_of_mem_take hc)
theorem drop_digits {D : List UInt8} (h : ∀ c ∈ D, isDigit c) (k : Nat) : ∀ c ∈ D.drop k, isDigit c := fun c hc => h c (List.mem_of_mem_drop hc)
theorem take_next {D : List UInt8} {p : Nat} (hp : p < D.length) : decVal (D.take (p + 1)) = 10 * decVal (D.take p) + (D[p].toNat - 48) := by
 rw [List.take_add_one, List.getElem?_eq_getElem hp]
 exact decVal_snoc _ _
theorem body_digits {l : List UInt8} (h : pcode l ≠ 3) : ∀ c ∈ bodyOf l, isDigit c := by
 intro c hc
 by_cases ha : (bodyOf l).all digB = true
 ·exact digB_iff.1 (List.all_eq_true.1 ha c hc)
 ·exact absurd (pcode_syn (.inl (by simpa using ha))).1 h
theorem gcd_abs {l m : List UInt8} : (lval l).gcd (lval m) = (decVal (bodyOf l)).gcd (decVal (bodyOf m)) := by
 unfold lval Int.gcd
 split <;> split <;> simp
end Tally
namespace Tally
open Go.Lib
/-! ### the code of a text, case by case -/
theorem qv_bad {l : List UInt8} {c : Int} (h : qcode l = c) (hc : c ≠ 0) : qcode l = c ∧ qval l = 0 := ⟨h, by unfold qval; rw [if_neg (by rw [h]; exact hc)]⟩
theorem q_top3 {l : List UInt8} (h : pcode (topOf l) = 3) : qcode l = 3 ∧ qval l = 0 := qv_bad (by unfold qcode; rw [if_pos h]) (by decide)
theorem q_whole6 {l : List UInt8} (h : pcode (topOf l) = 6) (hs : slashed l = false) : qcode l = 6 ∧ qval l = 0 :=
 qv_bad (by unfold qcode; rw [if_neg (by rw [h]; decide), if_pos hs, if_pos h]) (by decide)
theorem q_whole0 {l : List UInt8} (h : pcode (topOf l) = 0) (hs : slashed l = false) : qcode l = 0 ∧ qval l = Rat.divInt (pval (topOf l)) 1 := by
 have e : qcode l = 0 := by unfold qcode; rw [if_neg (by rw [h]; decide), if_pos hs, if_neg (by rw [h]; decide)]
 exact ⟨e, by unfold qval; rw [if_pos e, if_neg (by rw [hs]; simp)]⟩
theorem q_bot {l : List UInt8} (h : pcode (topOf l) ≠ 3) (hs : slashed l = true) (hb : pcode (botOf l) = 3 ∨ negOf (botOf l) = true ∨ botOf l = [48] ∨ botOf l = [49]) : qcode l = 3 ∧ qval l = 0 :=
 qv_bad (by unfold qcode; rw [if_neg h, if_neg (by rw [hs]; simp), if_pos hb]) (by decide)
theorem q_lim {l : List UInt8} (h : pcode (topOf l) ≠ 3) (hs : slashed l = true) (hb : ¬ (pcode (botOf l) = 3 ∨ negOf (botOf l) = true ∨ botOf l = [48] ∨ botOf l = [49])) (h6 : pcode (topOf l) = 6 ∨ pcode (botOf l) = 6) :
  qcode l = (if (lval (topOf l)).gcd (lval (botOf l)) = 1 then 6 else 3) ∧ qval l = 0 :=
 qv_bad (by unfold qcode; rw [if_neg h, if_neg (by rw [hs]; simp), if_neg hb, if_pos h6]) (by split <;> decide)
theorem q_low {l : List UInt8} (h : pcode (topOf l) = 0) (hs : slashed l = true) (hb : ¬ (pcode (botOf l) = 3 ∨ negOf (botOf l) = true ∨ botOf l = [48] ∨ botOf l = [49])) (h0 : pcode (botOf l) = 0) (hg : (pval (topOf l)).gcd (pval (botOf l)) = 1) :
  qcode l = 0 ∧ qval l = Rat.divInt (pval (topOf l)) (pval (botOf l)) := by
 have e : qcode l = 0 := by unfold qcode; rw [if_neg (by rw [h]; decide), if_neg (by rw [hs]; simp), if_neg hb, if_neg (by rw [h, h0]; decide), if_pos hg]
 exact ⟨e, by unfold qval; rw [if_pos e, if_pos hs]⟩
theorem q_high {l : List UInt8} (h : pcode (topOf l) = 0) (hs : slashed l = true) (hb : ¬ (pcode (botOf l) = 3 ∨ negOf (botOf l) = true ∨ botOf l = [48] ∨ botOf l = [49])) (h0 : pcode (botOf l) = 0) (hg : (pval (topOf l)).gcd (pval (botOf l)) ≠ 1) :
  qcode l = 3 ∧ qval l = 0 :=
 qv_bad (by unfold qcode; rw [if_neg (by rw [h]; decide), if_neg (by rw [hs]; simp), if_neg hb, if_neg (by rw [h, h0]; decide), if_neg hg]) (by decide)
end Tally
