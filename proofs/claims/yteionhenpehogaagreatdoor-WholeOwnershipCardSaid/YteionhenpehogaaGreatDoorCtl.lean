import Derived.Test.YteionhenpehogaaGreatDoorMatrixZ
import Derived.Test.YteionhenpehogaaGreatDoorAwakeZ
import Derived.Test.YteionhenpehogaaGreatDoorRHold
import Derived.Test.YteionhenpehogaaGreatDoorPlainCtl
namespace Go.Proofs.YteionhenpehogaaGreatDoor
open Go.RowKit Tally
def msk (s : Nat → Bool) : Nat → Nat
 | 0 => 0
 | n + 1 => msk s n + if s n = true then 2 ^ n else 0
theorem msk_lt (s : Nat → Bool) : ∀ n, msk s n < 2 ^ n
 | 0 => Nat.one_pos
 | n + 1 => by
  have := msk_lt s n
  unfold msk
  rw [Nat.pow_succ]
  split <;> omega
theorem msk_bit {s : Nat → Bool} {h : Nat} : ∀ n, h < n → msk s n / 2 ^ h % 2 = if s h = true then 1 else 0
 | 0, hn => absurd hn (Nat.not_lt_zero _)
 | n + 1, hn => by
  unfold msk
  by_cases e : h = n
  ·subst e
   have h1 := msk_lt s h
   split
   ·rw [Nat.add_div_right _ (Nat.pow_pos (by decide)), Nat.div_eq_of_lt h1]
   ·rw [Nat.add_zero, Nat.div_eq_of_lt h1]
  ·have ih := msk_bit (s := s) n (show h < n by omega)
   split
   ·have h2 : 2 ^ n = 2 ^ h * (2 * 2 ^ (n - h - 1)) := by
     rw [← Nat.mul_assoc, ← Nat.pow_succ, ← Nat.pow_add]
     congr 1
     omega
    rw [h2, Nat.add_mul_div_left _ _ (Nat.pow_pos (by decide)), Nat.add_mul_mod_self_left]
    exact ih
   ·rw [Nat.add_zero]; exact ih
theorem bits_and_u16_nat (a b : Nat) (ha : a < 65536) (hb : b < 65536) : bits .and .u16 (a : Int) (b : Int) = ((a &&& b : Nat) : Int) := by
 have hx : a &&& b < 2 ^ 16 := Nat.and_lt_two_pow _ (by omega)
 have h1 : (BitVec.ofInt 16 (a : Int)).toNat = a := by
  rw [BitVec.ofInt_natCast, BitVec.toNat_ofNat]; exact Nat.mod_eq_of_lt (by omega)
 have h2 : (BitVec.ofInt 16 (b : Int)).toNat = b := by
  rw [BitVec.ofInt_natCast, BitVec.toNat_ofNat]; exact Nat.mod_eq_of_lt (by omega)
 show IntKind.u16.wrap ((BitVec.ofInt 16 (a : Int) &&& BitVec.ofInt 16 (b : Int)).toNat : Int) = _
 rw [BitVec.toNat_and, h1, h2, IntKind.wrap_u16]
 omega
theorem bits_or_u16_nat (a b : Nat) (ha : a < 65536) (hb : b < 65536) : bits .or .u16 (a : Int) (b : Int) = ((a ||| b : Nat) : Int) := by
 have hx : a ||| b < 2 ^ 16 := Nat.or_lt_two_pow (by omega) (by omega)
 have h1 : (BitVec.ofInt 16 (a : Int)).toNat = a := by
  rw [BitVec.ofInt_natCast, BitVec.toNat_ofNat]; exact Nat.mod_eq_of_lt (by omega)
 have h2 : (BitVec.ofInt 16 (b : Int)).toNat = b := by
  rw [BitVec.ofInt_natCast, BitVec.toNat_ofNat]; exact Nat.mod_eq_of_lt (by omega)
 show IntKind.u16.wrap ((BitVec.ofInt 16 (a : Int) ||| BitVec.ofInt 16 (b : Int)).toNat : Int) = _
 rw [BitVec.toNat_or, h1, h2, IntKind.wrap_u16]
 omega
theorem msk_and {s : Nat → Bool} {N q : Nat} (hN : N ≤ 12) (hq : q < N) : bits .and .u16 ((msk s N : Int) / 2 ^ q) 1 = if s q = true then 1 else 0 := by
 have h1 := msk_lt s N
 have h2 : 2 ^ N ≤ 2 ^ 12 := Nat.pow_le_pow_right (by decide) hN
 have h3 : msk s N / 2 ^ q ≤ msk s N := Nat.div_le_self _ _
 have e1 : ((msk s N : Nat) : Int) / 2 ^ q = ((msk s N / 2 ^ q : Nat) : Int) := by
  rw [Int.natCast_ediv, Int.natCast_pow]
  rfl
 rw [e1, show (1 : Int) = ((1 : Nat) : Int) from rfl, bits_and_u16_nat _ _ (by omega) (by decide), Nat.and_one_is_mod, msk_bit N hq]
 split
 ·rfl
 ·rfl
theorem msk_testBit (s : Nat → Bool) : ∀ n h, (msk s n).testBit h = (decide (h < n) && s h)
 | n, h => by
  by_cases hn : h < n
  ·rw [Nat.testBit_eq_decide_div_mod_eq, msk_bit n hn]
   cases s h <;> simp [hn]
  ·rw [Nat.testBit_lt_two_pow (Nat.lt_of_lt_of_le (msk_lt s n) (Nat.pow_le_pow_right (by decide) (by omega)))]
   simp [hn]
theorem msk_or (s t : Nat → Bool) (n : Nat) : msk s n ||| msk t n = msk (orB s t) n := by
 refine Nat.eq_of_testBit_eq fun i => ?_
 rw [Nat.testBit_or, msk_testBit, msk_testBit, msk_testBit]
 unfold orB
 cases decide (i < n) <;> rfl
theorem msk_congr {s t : Nat → Bool} : ∀ n, (∀ e, e < n → s e = t e) → msk s n = msk t n
 | 0, _ => rfl
 | n + 1, h => by
  unfold msk
  rw [msk_congr n (fun e he => h e (by omega)), h n (Nat.lt_succ_self n)]
theorem msk_none {s : Nat → Bool} : ∀ n, msk s n = 0 → ∀ e, e < n → s e = false
 | 0, _, e, he => absurd he (Nat.not_lt_zero _)
 | n + 1, h, e, he => by
  unfold msk at h
  have h2 : 0 < 2 ^ n := Nat.pow_pos (by decide)
  by_cases q : s n = true
  ·rw [if_pos q] at h; omega
  ·by_cases e1 : e = n
   ·subst e1; simpa using q
   ·exact msk_none n (by omega) e (by omega)
theorem msk_zero {s : Nat → Bool} {n : Nat} (h : ∀ e, e < n → s e = false) : msk s n = 0 := by
 rw [msk_congr n h]
 induction n with
 | zero => rfl
 | succ n ih => unfold msk; rw [ih (fun e he => h e (by omega))]; rfl
theorem msk_put (s : Nat → Bool) (q : Nat) : msk s q ||| 2 ^ q = msk s q + 2 ^ q := by
 rw [Nat.or_comm, show 2 ^ q = 2 ^ q * 1 from (Nat.mul_one _).symm, ← Nat.two_pow_add_eq_or_of_lt (msk_lt s q)]
 omega
theorem msk_grow {s t : Nat → Bool} : ∀ n, (∀ e, e < n → t e = true → s e = false) → msk (orB s t) n = msk s n + msk t n
 | 0, _ => rfl
 | n + 1, h => by
  unfold msk
  rw [msk_grow n (fun e he => h e (by omega))]
  have := h n (Nat.lt_succ_self n)
  unfold orB
  cases q : t n
  ·simp; omega
  ·rw [this q]; simp; omega
theorem msk_start : ∀ n, 1 ≤ n → msk (fun e => e == 0) n = 1
 | 0, h => absurd h (by decide)
 | 1, _ => by decide
 | n + 2, _ => by
  unfold msk
  rw [msk_start (n + 1) (by omega)]
  rfl
theorem msk_small (s : Nat → Bool) {N : Nat} (hN : N ≤ 12) : msk s N < 4096 := by
 have h1 := msk_lt s N
 have h2 : 2 ^ N ≤ 2 ^ 12 := Nat.pow_le_pow_right (by decide) hN
 omega
set_option maxRecDepth 100000 in
set_option maxHeartbeats 4000000 in
theorem votes_any {w : World} {v : Value} {N e : Nat} {Z : Nat → Nat → Int} {s : Nat → Bool} (h : MatZ w v N N Z) (hN : N ≤ 12) (he : e < N) (hz : ∀ i k, i < N → k < N → 0 ≤ Z i k ∧ Z i k ≤ 10000) :
  Calls Tryz.prog 120 #[v, .int .u16 (msk s N : Nat), .int .i64 (e : Nat)] w fun en w' => en = .returned (.int .i64 (isum N fun h => if s h = true then Z h e else 0)) ∧ w' = w := by
 obtain ⟨a, _, _, c, rfl, _⟩ := id h
 obtain ⟨b, o, rfl, hml⟩ := h.look (by omega)
 have HML := Lib.hid hml
 have HZ := Lib.hid hz
 clear hml h hz
 go_enter Tryz.func120, Tryz.ntmps120
 go_wp2_with fail
 go_loopw [7, 12] (fun sm i wr => ∃ (q : Nat) (S : Int), q ≤ N ∧ i = .int .i64 q ∧ sm = .int .i64 S ∧ S = isum q (fun h => if s h = true then Z h e else 0) ∧ 0 ≤ S ∧ S ≤ 10000 * q ∧ wr = w) (fun _ i _ => N - (RowKit.intOf i).toNat)
 case atStart => exact ⟨0, 0, Nat.zero_le _, rfl, rfl, rfl, Int.le_refl _, by decide, rfl⟩
 case round =>
  obtain ⟨q, S, hq, rfl, rfl, hS, hs0, hs1, hw⟩ := hrel
  subst hw
  have HS := Lib.hid hS
  clear hS
  by_cases hlt : q < N
  case neg =>
   obtain rfl : q = N := by omega
   go_wp2
   go_ret
   exact ⟨by rw [HS.out] <;> rfl, rfl⟩
  have hqi : (q : Int) < (N : Int) := by omega
  obtain ⟨b', o', c', x1, x2⟩ := HML.out q e hlt he
  have hzr := HZ.out q e hlt he
  have hb := msk_and (s := s) hN hlt
  cases hs : s q
  ·have hb2 : (bits BinOp.and IntKind.u16 ((msk s N : Int) / 2 ^ q) 1 == 1) = false := by rw [hb, hs]; rfl
   have HS2 := Lib.hid (show S = isum (q + 1) (fun h => if s h = true then Z h e else 0) from by rw [isum_step, HS.out]; show _ = _ + (if s q = true then Z q e else 0); rw [hs]; exact (Int.add_zero _).symm)
   clear hb hs
   go_wp2
   go_roundw
   case rel => exact ⟨q + 1, S, by omega, by go_num, rfl, HS2.out, hs0, by omega, trivial⟩
   case measure => simp [RowKit.intOf]; omega
  ·have hb2 : (bits BinOp.and IntKind.u16 ((msk s N : Int) / 2 ^ q) 1 == 1) = true := by rw [hb, hs]; rfl
   have HS2 := Lib.hid (show S + Z q e = isum (q + 1) (fun h => if s h = true then Z h e else 0) from by rw [isum_step, ← HS.out]; show _ = _ + (if s q = true then Z q e else 0); rw [hs]; rfl)
   clear hb hs
   go_wp2
   go_roundw
   case rel => exact ⟨q + 1, _, by omega, by go_num, by go_num, HS2.out, by omega, by omega, trivial⟩
   case measure => simp [RowKit.intOf]; omega
end Go.Proofs.YteionhenpehogaaGreatDoor
