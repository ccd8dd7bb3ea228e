/- Plain laws of the digits between two places of a text. -/
import Derived.Test.YtikpafocankggaaGreatDoorLong
namespace Go.Proofs.YtikpafocankggaaGreatDoor
open Go.RowKit Tally Go.Lib
def digV (S : List UInt8) (a b : Nat) : Nat := decVal ((S.take b).drop a)
theorem digV_same (S : List UInt8) (a : Nat) : digV S a a = 0 := by
 unfold digV
 rw [List.drop_of_length_le (by rw [List.length_take]; omega)]; rfl
theorem digV_join {S : List UInt8} {f a b : Nat} (h0 : f ≤ a) (h1 : a ≤ b) (h2 : b ≤ S.length) : (digV S f a : Int) * ((10 ^ (b - a) : Nat) : Int) + digV S a b = digV S f b := by
 unfold digV
 rw [List.drop_take, List.drop_take, List.drop_take]
 have e : S.drop a = (S.drop f).drop (a - f) := by rw [List.drop_drop]; congr 1; omega
 rw [e]
 have := rlong_step (D := S.drop f) (j := a - f) (k := b - a) (by rw [List.length_drop]; omega)
 rw [this]
 congr 3
 omega
theorem digV_next {S : List UInt8} {a i : Nat} (hi : i < S.length) (ha : a ≤ i) : digV S a (i + 1) = 10 * digV S a i + (S[i].toNat - 48) := by
 unfold digV
 rw [List.take_succ_eq_append_getElem hi, List.drop_append_of_le_length (by rw [List.length_take]; omega), decVal_snoc]
theorem digV_digits {S : List UInt8} {f a b : Nat} (h : ∀ c ∈ S.drop f, isDigit c) (hf : f ≤ a) : ∀ c ∈ (S.take b).drop a, isDigit c := fun c hc => by
 refine h c ?_
 have h1 := List.mem_of_mem_drop (i := a - f) (l := (S.take b).drop f) (a := c) (by rw [List.drop_drop]; rwa [show f + (a - f) = a by omega])
 rw [List.drop_take] at h1
 exact List.mem_of_mem_take h1
theorem digV_dg {S : List UInt8} {f a b N : Nat} (h : ∀ c ∈ S.drop f, isDigit c) (hf : f ≤ a) (hN : b - a ≤ N) : Dg N (digV S a b : Int) := by
 unfold digV
 exact all_dg (digV_digits h hf) (by rw [List.length_drop, List.length_take]; omega)
theorem digV_lt {S : List UInt8} {f a b : Nat} (h : ∀ c ∈ S.drop f, isDigit c) (hf : f ≤ a) (hN : b - a ≤ 12) : digV S a b < 1000000000000 := by
 have := digV_dg (N := 12) h hf hN
 unfold Dg at this
 rw [Int.natAbs_natCast] at this
 exact this
theorem body_drop (l : List UInt8) : bodyOf l = l.drop (if negOf l = true then 1 else 0) := by
 unfold bodyOf negOf trimPrefix
 split
 ·rfl
 ·rfl
theorem digV_body (l : List UInt8) {f : Nat} (hf : f = if negOf l = true then 1 else 0) : digV l f l.length = decVal (bodyOf l) := by
 unfold digV
 rw [List.take_length, body_drop, hf]
theorem neg_head {l : List UInt8} : negOf l = true ↔ ∃ h : 0 < l.length, l[0].toNat = 45 := by
 unfold negOf hasPrefix
 cases l with
 | nil => simp
 | cons x t =>
  constructor
  ·intro h
   have : (45 : UInt8) = x := by simpa [List.isPrefixOf] using h
   subst this
   exact ⟨by simp, rfl⟩
  ·rintro ⟨_, h⟩
   have : x = 45 := UInt8.toNat_inj.1 h
   subst this
   simp [List.isPrefixOf]
end Go.Proofs.YtikpafocankggaaGreatDoor
