/- Texts put together: PlainT, PlainP, PlainN. -/
import Derived.Test.YtjphfdlpcakpeaaGreatDoorPlain
import Derived.Lib.ItoaNum
import Derived.Lib.Repeat
import Derived.Lib.Strings
import Derived.Lib.ItoaMem

/- Plain law of decimal texts: the digits of a number cut into pieces of fixed width. -/

namespace Tally
open Go.Lib

/-- the last w decimal digits of x -/
def pad : Nat → Nat → List UInt8
  | 0, _ => []
  | w + 1, x => pad w (x / 10) ++ [UInt8.ofNat (48 + x % 10)]

theorem pad_length (w x : Nat) : (pad w x).length = w := by
  induction w generalizing x with
  | zero => rfl
  | succ w ih => simp [pad, ih]

theorem pad_zero (w : Nat) : pad w 0 = List.replicate w 48 := by
  induction w with
  | zero => rfl
  | succ w ih =>
    rw [pad, Nat.zero_div, ih, List.replicate_succ']
    rfl

/-- A digit is put ahead. -/
theorem pad_left (w x : Nat) : pad (w + 1) x = UInt8.ofNat (48 + x / 10 ^ w % 10) :: pad w x := by
  induction w generalizing x with
  | zero => simp [pad]
  | succ w ih =>
    rw [pad, ih (x / 10), pad, Nat.div_div_eq_div_mul, Nat.pow_succ, Nat.mul_comm 10]
    rfl

/-- A number with a part behind it. -/
theorem decDigits_join (n : Nat) (hn : 0 < n) (w x : Nat) (hx : x < 10 ^ w) :
    decDigits (n * 10 ^ w + x) = decDigits n ++ pad w x := by
  induction w generalizing x with
  | zero =>
    have : x = 0 := by simpa using hx
    subst this
    simp [pad]
  | succ w ih =>
    rw [Nat.pow_succ] at hx
    have hp : 1 ≤ 10 ^ w := Nat.one_le_pow _ _ (by decide)
    have hle : 10 ^ w ≤ n * 10 ^ w := Nat.le_mul_of_pos_left _ hn
    have e : n * 10 ^ (w + 1) + x = 10 * (n * 10 ^ w) + x := by
      rw [Nat.pow_succ, ← Nat.mul_assoc, Nat.mul_comm]
    have q1 : (n * 10 ^ (w + 1) + x) / 10 = n * 10 ^ w + x / 10 := by rw [e]; omega
    have q2 : (n * 10 ^ (w + 1) + x) % 10 = x % 10 := by rw [e]; omega
    rw [decDigits, dif_neg (by rw [e]; omega), q1, q2, ih (x / 10) (by omega), pad, List.append_assoc]

/-- Zeros ahead of a numeral. -/
theorem pad_eq (w x : Nat) (hw : 0 < w) (hx : x < 10 ^ w) :
    pad w x = List.replicate (w - nDigits x) 48 ++ decDigits x := by
  obtain ⟨w, rfl⟩ : ∃ k, w = k + 1 := ⟨w - 1, by omega⟩
  induction w generalizing x with
  | zero =>
    have hx' : x < 10 := by simpa using hx
    rw [decDigits_one hx', nDigits_small hx', pad, pad, Nat.mod_eq_of_lt hx']
    rfl
  | succ w ih =>
    rw [pad]
    by_cases h : x < 10
    · rw [decDigits_one h, nDigits_small h, Nat.div_eq_of_lt h, pad_zero, Nat.mod_eq_of_lt h]
      rfl
    · rw [ih (x / 10) (by omega) (by rw [Nat.pow_succ] at hx; omega), nDigits_big h]
      conv => rhs; rw [decDigits, dif_neg h]
      rw [List.append_assoc]
      congr 2
      omega

/-- The whole numeral as its last digits. -/
theorem pad_whole (w x : Nat) (h1 : 10 ^ w ≤ x) (h2 : x < 10 ^ (w + 1)) : pad (w + 1) x = decDigits x := by
  rw [pad_eq (w + 1) x (by omega) h2, nDigits_unique w x h1 h2]
  simp

theorem repeat_zero (k : Nat) : repeatL [48] k = List.replicate k 48 := by
  induction k with
  | zero => rfl
  | succ k ih => simp [repeatL, ih, List.replicate_succ]

end Tally

/- Plain law of reading decimal texts: which texts are integers, and what they say. -/

namespace Tally
open Go.Lib

/-- The number that digits say. -/
def decVal (l : List UInt8) : Nat := l.foldl (fun n c => 10 * n + (c.toNat - 48)) 0

theorem decVal_foldl (l : List UInt8) (n : Nat) : l.foldl (fun n c => 10 * n + (c.toNat - 48)) n = n * 10 ^ l.length + decVal l := by
  induction l generalizing n with
  | nil => simp [decVal]
  | cons c l ih =>
    unfold decVal
    rw [List.foldl_cons, List.foldl_cons, ih, ih (10 * 0 + (c.toNat - 48)), List.length_cons, Nat.pow_succ, Nat.add_mul, Nat.mul_zero, Nat.zero_add, Nat.mul_comm 10 n, Nat.mul_assoc, Nat.mul_comm 10, Nat.add_assoc]

theorem decVal_nil : decVal [] = 0 := rfl

theorem decVal_append (a b : List UInt8) : decVal (a ++ b) = decVal a * 10 ^ b.length + decVal b := by
  conv => lhs; unfold decVal
  rw [List.foldl_append, decVal_foldl]
  rfl

theorem decVal_snoc (a : List UInt8) (c : UInt8) : decVal (a ++ [c]) = 10 * decVal a + (c.toNat - 48) := by
  rw [decVal_append]
  simp [decVal]
  omega

def isDigit (c : UInt8) : Prop := 48 ≤ c.toNat ∧ c.toNat ≤ 57

theorem decVal_lt (l : List UInt8) (h : ∀ c ∈ l, isDigit c) : decVal l < 10 ^ l.length := by
  refine list_snoc_ind (P := fun l => (∀ c ∈ l, isDigit c) → decVal l < 10 ^ l.length) (fun _ => by simp [decVal]) ?_ l h
  intro l c ih h
  have h1 := ih (fun x hx => h x (by simp [hx]))
  have h2 := h c (by simp)
  unfold isDigit at h2
  rw [decVal_snoc, List.length_append, List.length_singleton, Nat.pow_succ]
  omega

/-- The digits of a number say it, and nothing else has the same text. -/
theorem decDigits_of (l : List UInt8) (h : ∀ c ∈ l, isDigit c) (h0 : l ≠ []) (h1 : l.head? = some 48 → l = [48]) : decDigits (decVal l) = l := by
  revert h h0 h1
  refine list_snoc_ind (P := fun l => (∀ c ∈ l, isDigit c) → l ≠ [] → (l.head? = some 48 → l = [48]) → decDigits (decVal l) = l) (fun _ h => absurd rfl h) ?_ l
  intro l c ih h _ h1
  have hc := h c (by simp)
  unfold isDigit at hc
  by_cases hl : l = []
  · subst hl
    rw [decVal_snoc]
    simp only [decVal_nil, Nat.mul_zero, Nat.zero_add, List.nil_append]
    rw [decDigits_one (by omega)]
    congr 1
    rw [show 48 + (c.toNat - 48) = c.toNat by omega]
    simp
  · have hh : (l ++ [c]).head? = l.head? := by cases l with | nil => exact absurd rfl hl | cons x l => rfl
    have hne : l.head? ≠ some 48 := by
      intro e
      have := h1 (by rw [hh, e])
      have h2 := congrArg List.length this
      have h3 := List.length_pos_iff.2 hl
      rw [List.length_append, List.length_singleton, List.length_singleton] at h2
      omega
    have h2 := ih (fun x hx => h x (by simp [hx])) hl (fun e => absurd e hne)
    have hpos : 0 < decVal l := by
      rcases Nat.eq_zero_or_pos (decVal l) with e | e
      · rw [e, decDigits_one (by omega)] at h2
        exact absurd (by rw [← h2]; rfl) hne
      · exact e
    rw [decVal_snoc, decDigits, dif_neg (by omega), show (10 * decVal l + (c.toNat - 48)) / 10 = decVal l by omega, h2]
    congr 2
    rw [show 48 + (10 * decVal l + (c.toNat - 48)) % 10 = c.toNat by omega]
    simp

end Tally

/- Plain law of reading an integer: the code of the error, the number, and its text again. -/

namespace Tally
open Go.Lib

def digB (c : UInt8) : Bool := decide (48 ≤ c.toNat) && decide (c.toNat ≤ 57)
theorem digB_iff {c : UInt8} : digB c = true ↔ isDigit c := by simp [digB, isDigit]

def bodyOf (l : List UInt8) : List UInt8 := trimPrefix l [45]
def negOf (l : List UInt8) : Bool := hasPrefix l [45]

/-- the code that reading gives: 0, or a syntax error, or an error of the limit -/
def pcode (l : List UInt8) : Int :=
  if (bodyOf l).all digB = false ∨ bodyOf l = [] ∨ (1 < (bodyOf l).length ∧ (bodyOf l).head? = some 48) ∨ (negOf l = true ∧ bodyOf l = [48]) then 3
  else if 2000 < (bodyOf l).length then 6 else 0

/-- the number that is read -/
def pval (l : List UInt8) : Int := if pcode l = 0 then (if negOf l = true then -(decVal (bodyOf l) : Int) else decVal (bodyOf l)) else 0

theorem pcode_syn {l : List UInt8} (h : (bodyOf l).all digB = false ∨ bodyOf l = [] ∨ (1 < (bodyOf l).length ∧ (bodyOf l).head? = some 48) ∨ (negOf l = true ∧ bodyOf l = [48])) : pcode l = 3 ∧ pval l = 0 := by
  have : pcode l = 3 := by unfold pcode; rw [if_pos h]
  exact ⟨this, by unfold pval; rw [this]; rfl⟩

theorem pcode_lim {l : List UInt8} (h : ¬((bodyOf l).all digB = false ∨ bodyOf l = [] ∨ (1 < (bodyOf l).length ∧ (bodyOf l).head? = some 48) ∨ (negOf l = true ∧ bodyOf l = [48]))) (hl : 2000 < (bodyOf l).length) : pcode l = 6 ∧ pval l = 0 := by
  have : pcode l = 6 := by unfold pcode; rw [if_neg h, if_pos hl]
  exact ⟨this, by unfold pval; rw [this]; rfl⟩

theorem pcode_ok {l : List UInt8} (h : ¬((bodyOf l).all digB = false ∨ bodyOf l = [] ∨ (1 < (bodyOf l).length ∧ (bodyOf l).head? = some 48) ∨ (negOf l = true ∧ bodyOf l = [48]))) (hl : ¬ 2000 < (bodyOf l).length) :
    pcode l = 0 ∧ pval l = (if negOf l = true then -(decVal (bodyOf l) : Int) else decVal (bodyOf l)) := by
  have : pcode l = 0 := by unfold pcode; rw [if_neg h, if_neg hl]
  exact ⟨this, by unfold pval; rw [if_pos this]⟩

theorem pcode_zero {l : List UInt8} (h : pcode l = 0) : ¬((bodyOf l).all digB = false ∨ bodyOf l = [] ∨ (1 < (bodyOf l).length ∧ (bodyOf l).head? = some 48) ∨ (negOf l = true ∧ bodyOf l = [48])) ∧ ¬ 2000 < (bodyOf l).length := by
  unfold pcode at h
  split at h
  · simp at h
  · split at h
    · simp at h
    · exact ⟨by assumption, by assumption⟩

theorem body_split (l : List UInt8) : l = if negOf l = true then 45 :: bodyOf l else bodyOf l := by
  unfold negOf bodyOf trimPrefix
  by_cases h : hasPrefix l [45] = true
  · rw [if_pos h, if_pos h]
    unfold hasPrefix at h
    rw [List.isPrefixOf_iff_prefix] at h
    obtain ⟨t, rfl⟩ := h
    rfl
  · rw [if_neg h, if_neg h]

theorem body_length (l : List UInt8) : (bodyOf l).length ≤ l.length := by
  unfold bodyOf trimPrefix
  split
  · rw [List.length_drop]; omega
  · omega

/-- what was read has the text that was read -/
theorem itoa_pval {l : List UInt8} (h : pcode l = 0) : itoa (pval l) = l := by
  obtain ⟨h1, h2⟩ := pcode_zero h
  rw [(pcode_ok h1 h2).2]
  simp only [not_or] at h1
  obtain ⟨a1, a2, a3, a4⟩ := h1
  have hall : ∀ c ∈ bodyOf l, isDigit c := fun c hc => by
    have : (bodyOf l).all digB = true := by simpa using a1
    exact digB_iff.1 (List.all_eq_true.1 this c hc)
  have hlead : (bodyOf l).head? = some 48 → bodyOf l = [48] := fun e => by
    have hl1 : ¬ 1 < (bodyOf l).length := fun q => a3 ⟨q, e⟩
    match hb : bodyOf l with
    | [] => exact absurd hb a2
    | [x] => rw [hb] at e; simp at e; rw [e]
    | x :: y :: t => rw [hb] at hl1; simp at hl1
  have hd := decDigits_of (bodyOf l) hall a2 hlead
  have hs := body_split l
  by_cases hn : negOf l = true
  · rw [if_pos hn] at hs ⊢
    have hpos : 1 ≤ decVal (bodyOf l) := by
      rcases Nat.eq_zero_or_pos (decVal (bodyOf l)) with e | e
      · rw [e, decDigits_one (by omega)] at hd
        exact absurd ⟨hn, hd.symm⟩ a4
      · exact e
    rw [itoa_neg _ hpos, hd, ← hs]
  · rw [if_neg hn] at hs ⊢
    rw [itoa_nonneg, hd, ← hs]

theorem pval_abs {l : List UInt8} (h : pcode l = 0) : (pval l).natAbs = decVal (bodyOf l) := by
  obtain ⟨h1, h2⟩ := pcode_zero h
  rw [(pcode_ok h1 h2).2]
  split <;> simp

theorem pval_few (l : List UInt8) : (pval l).natAbs < 10 ^ l.length := by
  by_cases h : pcode l = 0
  · rw [pval_abs h]
    obtain ⟨h1, h2⟩ := pcode_zero h
    simp only [not_or] at h1
    refine Nat.lt_of_lt_of_le (decVal_lt _ fun c hc => ?_) (Nat.pow_le_pow_right (by decide) (body_length l))
    have : (bodyOf l).all digB = true := by simpa using h1.1
    exact digB_iff.1 (List.all_eq_true.1 this c hc)
  · unfold pval; rw [if_neg h]; exact Nat.pow_pos (by decide)

/-! ### the digits cut into limbs, from the end -/

/-- z: how many digits are left (may be below zero at the end); L: the limbs that have been cut off -/
structure CutI (w : Nat) (D : List UInt8) (z : Int) (L : List Nat) : Prop where
  lim : Lim (10 ^ w) L
  left : z = (D.length : Int) - w * L.length
  sum : decVal D = decVal (D.take z.toNat) * (10 ^ w) ^ L.length + val (10 ^ w) L

theorem CutI.start (w : Nat) (D : List UInt8) : CutI w D D.length [] :=
  ⟨fun x hx => by simp at hx, by simp, by simp⟩

theorem decVal_take (D : List UInt8) {f e : Nat} (hf : f ≤ e) (he : e ≤ D.length) : decVal (D.take e) = decVal (D.take f) * 10 ^ (e - f) + decVal ((D.take e).drop f) := by
  have := decVal_append ((D.take e).take f) ((D.take e).drop f)
  rw [List.take_append_drop, List.length_drop, List.length_take, Nat.min_eq_left he, List.take_take, Nat.min_eq_left hf] at this
  exact this

theorem CutI.step {w : Nat} {D : List UInt8} {z : Int} {L : List Nat} (h : CutI w D z L) (hw : 0 < w) (hz : 0 < z) (hd : ∀ c ∈ D, isDigit c) :
    CutI w D (z - w) (L ++ [decVal ((D.take z.toNat).drop (z - w).toNat)]) := by
  have hl := h.left
  have he : z.toNat ≤ D.length := by
    have : (0 : Int) ≤ (w : Int) * (L.length : Int) := Int.mul_nonneg (by omega) (by omega)
    omega
  have hf : (z - w).toNat ≤ z.toNat := by omega
  have hlt : decVal ((D.take z.toNat).drop (z - w).toNat) < 10 ^ w := by
    refine Nat.lt_of_lt_of_le (decVal_lt _ fun c hc => hd c (List.mem_of_mem_take (List.mem_of_mem_drop hc))) (Nat.pow_le_pow_right (by decide) ?_)
    rw [List.length_drop, List.length_take]; omega
  refine ⟨h.lim.append (Lim.single hlt), ?_, ?_⟩
  · rw [List.length_append, List.length_singleton, Int.natCast_add, Int.mul_add]; simp; omega
  · rw [h.sum, decVal_take D hf he, val_snoc, List.length_append, List.length_singleton, Nat.pow_succ]
    by_cases hz2 : 0 ≤ z - w
    · rw [show z.toNat - (z - w).toNat = w by omega]
      generalize decVal (D.take (z - w).toNat) = a
      generalize decVal ((D.take z.toNat).drop (z - w).toNat) = b
      generalize 10 ^ w = B
      generalize B ^ L.length = P
      grind
    · rw [show (z - w).toNat = 0 by omega]
      simp [decVal_nil]
      grind

theorem CutI.done {w : Nat} {D : List UInt8} {z : Int} {L : List Nat} (h : CutI w D z L) (hz : z ≤ 0) : decVal D = val (10 ^ w) L := by
  have := h.sum
  rw [show z.toNat = 0 by omega] at this
  simpa [decVal_nil] using this

end Tally
