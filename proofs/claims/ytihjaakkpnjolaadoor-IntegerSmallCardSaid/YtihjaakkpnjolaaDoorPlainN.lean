/- Plain law of reading an integer: the code of the error, the number, and its text again. -/
import Derived.Test.YtihjaakkpnjolaaDoorPlainP
import Derived.Test.YtihjaakkpnjolaaDoorPlainC
import Derived.Lib.Strings
import Derived.Lib.ItoaMem
namespace Tally
open Go.Lib

def digB (c : UInt8) : Bool := decide (48 ≤ c.toNat) && decide (c.toNat ≤ 57)
theorem digB_iff {c : UInt8} : digB c = true ↔ isDigit c := by simp [digB, isDigit]

def bodyOf (l : List UInt8) : List UInt8 := trimPrefix l [45]
def negOf (l : List UInt8) : Bool := hasPrefix l [45]

/-- the code that reading gives: 0, or a syntax error, or an error of the limit -/
def pcode (l : List UInt8) : Int :=
  if (bodyOf l).all digB = false ∨ bodyOf l = [] ∨ (1 < (bodyOf l).length ∧ (bodyOf l).head? = some 48) ∨ (negOf l = true ∧ bodyOf l = [48]) then 3
  else if 2000 < (bodyOf l).length then 6 else 0

/-- the number that is read -/
def pval (l : List UInt8) : Int := if pcode l = 0 then (if negOf l = true then -(decVal (bodyOf l) : Int) else decVal (bodyOf l)) else 0

theorem pcode_syn {l : List UInt8} (h : (bodyOf l).all digB = false ∨ bodyOf l = [] ∨ (1 < (bodyOf l).length ∧ (bodyOf l).head? = some 48) ∨ (negOf l = true ∧ bodyOf l = [48])) : pcode l = 3 ∧ pval l = 0 := by
  have : pcode l = 3 := by unfold pcode; rw [if_pos h]
  exact ⟨this, by unfold pval; rw [this]; rfl⟩

theorem pcode_lim {l : List UInt8} (h : ¬((bodyOf l).all digB = false ∨ bodyOf l = [] ∨ (1 < (bodyOf l).length ∧ (bodyOf l).head? = some 48) ∨ (negOf l = true ∧ bodyOf l = [48]))) (hl : 2000 < (bodyOf l).length) : pcode l = 6 ∧ pval l = 0 := by
  have : pcode l = 6 := by unfold pcode; rw [if_neg h, if_pos hl]
  exact ⟨this, by unfold pval; rw [this]; rfl⟩

theorem pcode_ok {l : List UInt8} (h : ¬((bodyOf l).all digB = false ∨ bodyOf l = [] ∨ (1 < (bodyOf l).length ∧ (bodyOf l).head? = some 48) ∨ (negOf l = true ∧ bodyOf l = [48]))) (hl : ¬ 2000 < (bodyOf l).length) :
    pcode l = 0 ∧ pval l = (if negOf l = true then -(decVal (bodyOf l) : Int) else decVal (bodyOf l)) := by
  have : pcode l = 0 := by unfold pcode; rw [if_neg h, if_neg hl]
  exact ⟨this, by unfold pval; rw [if_pos this]⟩

theorem pcode_zero {l : List UInt8} (h : pcode l = 0) : ¬((bodyOf l).all digB = false ∨ bodyOf l = [] ∨ (1 < (bodyOf l).length ∧ (bodyOf l).head? = some 48) ∨ (negOf l = true ∧ bodyOf l = [48])) ∧ ¬ 2000 < (bodyOf l).length := by
  unfold pcode at h
  split at h
  · simp at h
  · split at h
    · simp at h
    · exact ⟨by assumption, by assumption⟩

theorem body_split (l : List UInt8) : l = if negOf l = true then 45 :: bodyOf l else bodyOf l := by
  unfold negOf bodyOf trimPrefix
  by_cases h : hasPrefix l [45] = true
  · rw [if_pos h, if_pos h]
    unfold hasPrefix at h
    rw [List.isPrefixOf_iff_prefix] at h
    obtain ⟨t, rfl⟩ := h
    rfl
  · rw [if_neg h, if_neg h]

theorem body_length (l : List UInt8) : (bodyOf l).length ≤ l.length := by
  unfold bodyOf trimPrefix
  split
  · rw [List.length_drop]; omega
  · omega

/-- what was read has the text that was read -/
theorem itoa_pval {l : List UInt8} (h : pcode l = 0) : itoa (pval l) = l := by
  obtain ⟨h1, h2⟩ := pcode_zero h
  rw [(pcode_ok h1 h2).2]
  simp only [not_or] at h1
  obtain ⟨a1, a2, a3, a4⟩ := h1
  have hall : ∀ c ∈ bodyOf l, isDigit c := fun c hc => by
    have : (bodyOf l).all digB = true := by simpa using a1
    exact digB_iff.1 (List.all_eq_true.1 this c hc)
  have hlead : (bodyOf l).head? = some 48 → bodyOf l = [48] := fun e => by
    have hl1 : ¬ 1 < (bodyOf l).length := fun q => a3 ⟨q, e⟩
    match hb : bodyOf l with
    | [] => exact absurd hb a2
    | [x] => rw [hb] at e; simp at e; rw [e]
    | x :: y :: t => rw [hb] at hl1; simp at hl1
  have hd := decDigits_of (bodyOf l) hall a2 hlead
  have hs := body_split l
  by_cases hn : negOf l = true
  · rw [if_pos hn] at hs ⊢
    have hpos : 1 ≤ decVal (bodyOf l) := by
      rcases Nat.eq_zero_or_pos (decVal (bodyOf l)) with e | e
      · rw [e, decDigits_one (by omega)] at hd
        exact absurd ⟨hn, hd.symm⟩ a4
      · exact e
    rw [itoa_neg _ hpos, hd, ← hs]
  · rw [if_neg hn] at hs ⊢
    rw [itoa_nonneg, hd, ← hs]

theorem pval_abs {l : List UInt8} (h : pcode l = 0) : (pval l).natAbs = decVal (bodyOf l) := by
  obtain ⟨h1, h2⟩ := pcode_zero h
  rw [(pcode_ok h1 h2).2]
  split <;> simp

theorem pval_few (l : List UInt8) : (pval l).natAbs < 10 ^ l.length := by
  by_cases h : pcode l = 0
  · rw [pval_abs h]
    obtain ⟨h1, h2⟩ := pcode_zero h
    simp only [not_or] at h1
    refine Nat.lt_of_lt_of_le (decVal_lt _ fun c hc => ?_) (Nat.pow_le_pow_right (by decide) (body_length l))
    have : (bodyOf l).all digB = true := by simpa using h1.1
    exact digB_iff.1 (List.all_eq_true.1 this c hc)
  · unfold pval; rw [if_neg h]; exact Nat.pow_pos (by decide)

/-! ### the digits cut into limbs, from the end -/

/-- z: how many digits are left (may be below zero at the end); L: the limbs that have been cut off -/
structure CutI (w : Nat) (D : List UInt8) (z : Int) (L : List Nat) : Prop where
  lim : Lim (10 ^ w) L
  left : z = (D.length : Int) - w * L.length
  sum : decVal D = decVal (D.take z.toNat) * (10 ^ w) ^ L.length + val (10 ^ w) L

theorem CutI.start (w : Nat) (D : List UInt8) : CutI w D D.length [] :=
  ⟨fun x hx => by simp at hx, by simp, by simp⟩

theorem decVal_take (D : List UInt8) {f e : Nat} (hf : f ≤ e) (he : e ≤ D.length) : decVal (D.take e) = decVal (D.take f) * 10 ^ (e - f) + decVal ((D.take e).drop f) := by
  have := decVal_append ((D.take e).take f) ((D.take e).drop f)
  rw [List.take_append_drop, List.length_drop, List.length_take, Nat.min_eq_left he, List.take_take, Nat.min_eq_left hf] at this
  exact this

theorem CutI.step {w : Nat} {D : List UInt8} {z : Int} {L : List Nat} (h : CutI w D z L) (hw : 0 < w) (hz : 0 < z) (hd : ∀ c ∈ D, isDigit c) :
    CutI w D (z - w) (L ++ [decVal ((D.take z.toNat).drop (z - w).toNat)]) := by
  have hl := h.left
  have he : z.toNat ≤ D.length := by
    have : (0 : Int) ≤ (w : Int) * (L.length : Int) := Int.mul_nonneg (by omega) (by omega)
    omega
  have hf : (z - w).toNat ≤ z.toNat := by omega
  have hlt : decVal ((D.take z.toNat).drop (z - w).toNat) < 10 ^ w := by
    refine Nat.lt_of_lt_of_le (decVal_lt _ fun c hc => hd c (List.mem_of_mem_take (List.mem_of_mem_drop hc))) (Nat.pow_le_pow_right (by decide) ?_)
    rw [List.length_drop, List.length_take]; omega
  refine ⟨h.lim.append (Lim.single hlt), ?_, ?_⟩
  · rw [List.length_append, List.length_singleton, Int.natCast_add, Int.mul_add]; simp; omega
  · rw [h.sum, decVal_take D hf he, val_snoc, List.length_append, List.length_singleton, Nat.pow_succ]
    by_cases hz2 : 0 ≤ z - w
    · rw [show z.toNat - (z - w).toNat = w by omega]
      generalize decVal (D.take (z - w).toNat) = a
      generalize decVal ((D.take z.toNat).drop (z - w).toNat) = b
      generalize 10 ^ w = B
      generalize B ^ L.length = P
      grind
    · rw [show (z - w).toNat = 0 by omega]
      simp [decVal_nil]
      grind

theorem CutI.done {w : Nat} {D : List UInt8} {z : Int} {L : List Nat} (h : CutI w D z L) (hz : z ≤ 0) : decVal D = val (10 ^ w) L := by
  have := h.sum
  rw [show z.toNat = 0 by omega] at this
  simpa [decVal_nil] using this

end Tally
