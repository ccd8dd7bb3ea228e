import Derived.Test.YteionhenpehogaaGreatDoorPlain
import Derived.Lib.ItoaNum
import Derived.Lib.Repeat
import Derived.Lib.Strings
import Derived.Lib.ItoaMem
import Derived.Lib.CutLaws
namespace Tally
open Go.Lib
def pad : Nat → Nat → List UInt8
 | 0, _ => []
 | w + 1, x => pad w (x / 10) ++ [UInt8.ofNat (48 + x % 10)]
theorem pad_length (w x : Nat) : (pad w x).length = w := by
 induction w generalizing x with
 | zero => rfl
 | succ w ih => simp [pad, ih]
theorem pad_zero (w : Nat) : pad w 0 = List.replicate w 48 := by
 induction w with
 | zero => rfl
 | succ w ih =>
  rw [pad, Nat.zero_div, ih, List.replicate_succ']
  rfl
theorem decDigits_join (n : Nat) (hn : 0 < n) (w x : Nat) (hx : x < 10 ^ w) :
  decDigits (n * 10 ^ w + x) = decDigits n ++ pad w x := by
 induction w generalizing x with
 | zero =>
  have : x = 0 := by simpa using hx
  subst this
  simp [pad]
 | succ w ih =>
  rw [Nat.pow_succ] at hx
  have hp : 1 ≤ 10 ^ w := Nat.one_le_pow _ _ (by decide)
  have hle : 10 ^ w ≤ n * 10 ^ w := Nat.le_mul_of_pos_left _ hn
  have e : n * 10 ^ (w + 1) + x = 10 * (n * 10 ^ w) + x := by
   rw [Nat.pow_succ, ← Nat.mul_assoc, Nat.mul_comm]
  have q1 : (n * 10 ^ (w + 1) + x) / 10 = n * 10 ^ w + x / 10 := by rw [e]; omega
  have q2 : (n * 10 ^ (w + 1) + x) % 10 = x % 10 := by rw [e]; omega
  rw [decDigits, dif_neg (by rw [e]; omega), q1, q2, ih (x / 10) (by omega), pad, List.append_assoc]
theorem pad_eq (w x : Nat) (hw : 0 < w) (hx : x < 10 ^ w) :
  pad w x = List.replicate (w - nDigits x) 48 ++ decDigits x := by
 obtain ⟨w, rfl⟩ : ∃ k, w = k + 1 := ⟨w - 1, by omega⟩
 induction w generalizing x with
 | zero =>
  have hx' : x < 10 := by simpa using hx
  rw [decDigits_one hx', nDigits_small hx', pad, pad, Nat.mod_eq_of_lt hx']
  rfl
 | succ w ih =>
  rw [pad]
  by_cases h : x < 10
  ·rw [decDigits_one h, nDigits_small h, Nat.div_eq_of_lt h, pad_zero, Nat.mod_eq_of_lt h]
   rfl
  ·rw [ih (x / 10) (by omega) (by rw [Nat.pow_succ] at hx; omega), nDigits_big h]
   conv => rhs; rw [decDigits, dif_neg h]
   rw [List.append_assoc]
   congr 2
   omega
theorem repeat_zero (k : Nat) : repeatL [48] k = List.replicate k 48 := by
 induction k with
 | zero => rfl
 | succ k ih => simp [repeatL, ih, List.replicate_succ]
end Tally
namespace Tally
open Go.Lib
end Tally
namespace Tally
open Go.Lib
end Tally
namespace Tally
theorem num_neg {q : Rat} : q.num < 0 ↔ q < 0 := by
 rw [Rat.lt_iff]
 show q.num < 0 ↔ q.num * 1 < 0 * _
 omega
theorem num_pos {q : Rat} : 0 < q.num ↔ 0 < q := by
 rw [Rat.lt_iff]
 show 0 < q.num ↔ 0 * _ < q.num * 1
 omega
theorem cmp_sign (p q : Rat) : (p.num * q.den - q.num * p.den).sign = (p - q).num.sign := by
 have h1 := Rat.lt_iff p q
 have h2 := Rat.lt_iff q p
 have h3 : p - q < 0 ↔ p < q := by constructor <;> intro h <;> grind
 have h4 : 0 < p - q ↔ q < p := by constructor <;> intro h <;> grind
 have n1 : (p - q).num < 0 ↔ p - q < 0 := num_neg
 have n2 : 0 < (p - q).num ↔ 0 < p - q := num_pos
 rcases Int.lt_trichotomy (p.num * q.den - q.num * p.den) 0 with k | k | k
 ·rw [Int.sign_eq_neg_one_of_neg k, Int.sign_eq_neg_one_of_neg (n1.2 (h3.2 (h1.2 (by omega))))]
 ·have x1 : ¬ (p - q).num < 0 := fun h => by have := h1.1 (h3.1 (n1.1 h)); omega
  have x2 : ¬ 0 < (p - q).num := fun h => by have := h2.1 (h4.1 (n2.1 h)); omega
  have : (p - q).num = 0 := by omega
  rw [k, this]
 ·rw [Int.sign_eq_one_of_pos k, Int.sign_eq_one_of_pos (n2.2 (h4.2 (h2.2 (by omega))))]
def cmpQ (p q : Rat) : Int := (p.num * q.den - q.num * p.den).sign
theorem cmpQ_eq (p q : Rat) : cmpQ p q = (p - q).num.sign := cmp_sign p q
theorem cmpQ_zero {p q : Rat} : cmpQ p q = 0 ↔ p = q := by
 rw [cmpQ_eq, Int.sign_eq_zero_iff_zero, Rat.num_eq_zero]
 constructor <;> intro h <;> grind
theorem cmpQ_neg {p q : Rat} : cmpQ p q < 0 ↔ p < q := by
 unfold cmpQ
 rw [Rat.lt_iff, Int.sign_neg_iff]
 omega
theorem cmpQ_three (p q : Rat) : cmpQ p q = -1 ∨ cmpQ p q = 0 ∨ cmpQ p q = 1 := by
 unfold cmpQ
 generalize p.num * q.den - q.num * p.den = x
 rcases Int.lt_trichotomy x 0 with k | k | k
 ·left; exact Int.sign_eq_neg_one_of_neg k
 ·right; left; rw [k]; rfl
 ·right; right; exact Int.sign_eq_one_of_pos k
end Tally
namespace Tally
def Fw (N : Nat) (q : Rat) : Prop := q.num.natAbs < 10 ^ N ∧ q.den < 10 ^ N
theorem fw_mono {N M : Nat} {q : Rat} (h : Fw N q) (hm : N ≤ M) : Fw M q :=
 ⟨Nat.lt_of_lt_of_le h.1 (Nat.pow_le_pow_right (by decide) hm), Nat.lt_of_lt_of_le h.2 (Nat.pow_le_pow_right (by decide) hm)⟩
theorem fw_divInt {N : Nat} {n d : Int} (hd : d ≠ 0) (h1 : n.natAbs < 10 ^ N) (h2 : d.natAbs < 10 ^ N) : Fw N (Rat.divInt n d) :=
 ⟨Nat.lt_of_le_of_lt (num_le n d) h1, Nat.lt_of_le_of_lt (den_le hd) h2⟩
theorem pw_mul {N M x y : Nat} (h : x < 10 ^ N) (k : y < 10 ^ M) : x * y < 10 ^ (N + M) := by
 rw [Nat.pow_add]; exact Nat.mul_lt_mul'' h k
theorem fw_neg {N : Nat} {q : Rat} (h : Fw N q) : Fw N (-q) := by
 unfold Fw; rw [Rat.neg_num, Rat.neg_den, Int.natAbs_neg]; exact h
theorem fw_mul {N M : Nat} {p q : Rat} (h : Fw N p) (k : Fw M q) : Fw (N + M) (p * q) := by
 rw [rat_mul]
 refine fw_divInt (Int.mul_ne_zero (by have := p.den_nz; omega) (by have := q.den_nz; omega)) ?_ ?_
 ·rw [Int.natAbs_mul]; exact pw_mul h.1 k.1
 ·rw [Int.natAbs_mul]; exact pw_mul h.2 k.2
theorem fw_zero (N : Nat) : Fw (N + 1) 0 := by
 have : 1 ≤ 10 ^ N := Nat.pow_pos (by decide)
 refine ⟨?_, ?_⟩
 ·show 0 < _; exact Nat.pow_pos (by decide)
 ·show 1 < _; rw [Nat.pow_succ]; omega
theorem fw_div {N M : Nat} {p q : Rat} (h : Fw N p) (k : Fw M q) : Fw (N + M + 1) (p / q) := by
 by_cases hq : q = 0
 ·subst hq; rw [Rat.div_def, Rat.inv_zero, Rat.mul_zero]; exact fw_zero _
 ·refine fw_mono ?_ (show N + M ≤ N + M + 1 by omega)
  rw [rat_div]
  refine fw_divInt (Int.mul_ne_zero (by have := p.den_nz; omega) (fun e => hq ((sign_num q).1 e))) ?_ ?_
  ·rw [Int.natAbs_mul]; exact pw_mul h.1 k.2
  ·rw [Int.natAbs_mul]; exact pw_mul h.2 k.1
theorem fw_add {N M : Nat} {p q : Rat} (h : Fw N p) (k : Fw M q) : Fw (N + M + 1) (p + q) := by
 rw [rat_add]
 have a := pw_mul h.1 k.2
 have b := pw_mul k.1 h.2
 have c := pw_mul h.2 k.2
 rw [Nat.add_comm M N] at b
 have e : 10 ^ (N + M + 1) = 10 * 10 ^ (N + M) := by rw [Nat.pow_succ]; omega
 refine fw_divInt (Int.mul_ne_zero (by have := p.den_nz; omega) (by have := q.den_nz; omega)) ?_ ?_
 ·refine Nat.lt_of_le_of_lt (Int.natAbs_add_le _ _) ?_
  rw [Int.natAbs_mul, Int.natAbs_mul, Int.natAbs_natCast, Int.natAbs_natCast]
  omega
 ·rw [Int.natAbs_mul, Int.natAbs_natCast, Int.natAbs_natCast]; omega
end Tally
namespace Tally
open Go.Lib
end Tally
namespace Tally
open Go.Lib
end Tally
namespace Tally
def sumTo : Nat → (Nat → Rat) → Rat
 | 0, _ => 0
 | n + 1, f => sumTo n f + f n
theorem sumTo_congr {n : Nat} {f g : Nat → Rat} (h : ∀ k, k < n → f k = g k) : sumTo n f = sumTo n g := by
 induction n with
 | zero => rfl
 | succ n ih => simp only [sumTo]; rw [ih (fun k hk => h k (by omega)), h n (by omega)]
theorem sumTo_zero {n : Nat} {f : Nat → Rat} (h : ∀ k, k < n → f k = 0) : sumTo n f = 0 := by
 induction n with
 | zero => rfl
 | succ n ih => simp only [sumTo]; rw [ih (fun k hk => h k (by omega)), h n (by omega)]; exact Rat.add_zero 0
theorem sumTo_add {n : Nat} (f g : Nat → Rat) : sumTo n (fun k => f k + g k) = sumTo n f + sumTo n g := by
 induction n with
 | zero => exact (Rat.add_zero 0).symm
 | succ n ih => simp only [sumTo]; rw [ih]; grind
theorem sumTo_mul {n : Nat} (c : Rat) (f : Nat → Rat) : sumTo n (fun k => c * f k) = c * sumTo n f := by
 induction n with
 | zero => exact (Rat.mul_zero c).symm
 | succ n ih => simp only [sumTo]; rw [ih]; grind
theorem sumTo_one {n j : Nat} {f : Nat → Rat} (hj : j < n) (h : ∀ k, k < n → k ≠ j → f k = 0) : sumTo n f = f j := by
 induction n with
 | zero => omega
 | succ n ih =>
  simp only [sumTo]
  by_cases e : j = n
  ·subst e; rw [sumTo_zero (fun k hk => h k (by omega) (by omega))]; exact Rat.zero_add _
  ·rw [ih (by omega) (fun k hk hn => h k (by omega) hn), h n (by omega) (fun q => e q.symm)]; exact Rat.add_zero _
theorem sumTo_two {n i j : Nat} {f : Nat → Rat} (hi : i < j) (hj : j < n) (h : ∀ k, k < n → k ≠ i → k ≠ j → f k = 0) : sumTo n f = f i + f j := by
 induction n with
 | zero => omega
 | succ n ih =>
  simp only [sumTo]
  by_cases e : j = n
  ·subst e; rw [sumTo_one (j := i) hi (fun k hk hn => h k (by omega) hn (by omega))]
  ·rw [ih (by omega) (fun k hk h1 h2 => h k (by omega) h1 h2), h n (by omega) (by omega) (fun q => e q.symm)]; exact Rat.add_zero _
abbrev Mx := Nat → Nat → Rat
def swapI (i j a : Nat) : Nat := if a = i then j else if a = j then i else a
def swapR (A : Mx) (i j : Nat) : Mx := fun a => A (swapI i j a)
def upR (A : Mx) (r c : Nat) : Mx := fun i k => if i = r then A i k else A i k - A i c / A r c * A r k
theorem swapR_self (A : Mx) (i : Nat) : swapR A i i = A := by
 funext a; simp only [swapR, swapI]; split
 ·rename_i h; rw [h]
 ·rfl
structure St where
 A : Mx
 rank : Nat
 det : Rat
inductive IsStep (f : Mx → Nat → Nat → Mx) (m c : Nat) (s : St) : St → Prop
 | none : (∀ j, s.rank ≤ j → j < m → s.A j c = 0) → IsStep f m c s s
 | piv (i : Nat) : s.rank ≤ i → i < m → (∀ j, s.rank ≤ j → j < i → s.A j c = 0) → s.A i c ≠ 0 →
   IsStep f m c s ⟨f (swapR s.A i s.rank) s.rank c, s.rank + 1, (if i = s.rank then s.det else -s.det) * s.A i c⟩
inductive Run (f : Mx → Nat → Nat → Mx) (m : Nat) (A : Mx) : Nat → St → Prop
 | zero : Run f m A 0 ⟨A, 0, 1⟩
 | succ {c : Nat} {s t : St} : Run f m A c s → IsStep f m c s t → Run f m A (c + 1) t
section
variable {f g : Mx → Nat → Nat → Mx} {m c w n : Nat} {A B : Mx} {s t : St}
theorem Run.rank_le (h : Run f m A c s) : s.rank ≤ c ∧ s.rank ≤ m := by
 induction h with
 | zero => exact ⟨Nat.le_refl _, Nat.zero_le _⟩
 | succ _ e ih =>
  cases e with
  | none _ => exact ⟨by omega, ih.2⟩
  | piv i h1 h2 _ _ => exact ⟨by show _ + 1 ≤ _; omega, by show _ + 1 ≤ _; omega⟩
end
end Tally
namespace Tally
def Null (m w : Nat) (A : Mx) (x : Nat → Rat) : Prop := ∀ i, i < m → sumTo w (fun k => A i k * x k) = 0
section
variable {f : Mx → Nat → Nat → Mx} {m c w n : Nat} {A B : Mx} {s t : St} {x : Nat → Rat}
theorem swapI_lt {i j a : Nat} (hi : i < m) (hj : j < m) (ha : a < m) : swapI i j a < m := by
 unfold swapI; split
 ·exact hj
 ·split
  ·exact hi
  ·exact ha
theorem swapI_swapI (i j a : Nat) : swapI i j (swapI i j a) = a := by
 unfold swapI; split
 ·rename_i h; split
  ·rename_i h2; omega
  ·simp [h]
 ·rename_i h; split
  ·rename_i h2; simp [h2]
  ·rfl
theorem null_swap {i j : Nat} (hi : i < m) (hj : j < m) : Null m w (swapR A i j) x ↔ Null m w A x := by
 constructor
 ·intro h a ha
  have := h (swapI i j a) (swapI_lt hi hj ha)
  simpa only [swapR, swapI_swapI] using this
 ·intro h a ha
  exact h _ (swapI_lt hi hj ha)
theorem row_up {A : Mx} {i r c w : Nat} {x : Nat → Rat} (hi : i ≠ r) : sumTo w (fun k => upR A r c i k * x k) = sumTo w (fun k => A i k * x k) + (-(A i c / A r c)) * sumTo w (fun k => A r k * x k) := by
 rw [← sumTo_mul, ← sumTo_add]
 refine sumTo_congr fun k _ => ?_
 simp only [upR, if_neg hi]
 grind
theorem null_up {r : Nat} (hr : r < m) : Null m w (upR A r c) x ↔ Null m w A x := by
 have e0 : ∀ k, upR A r c r k = A r k := fun k => by simp [upR]
 constructor
 ·intro h i hi
  have h0 := h r hr
  simp only [e0] at h0
  by_cases e : i = r
  ·subst e; exact h0
  ·have := h i hi
   rw [row_up e, h0] at this
   grind
 ·intro h i hi
  by_cases e : i = r
  ·subst e; simp only [e0]; exact h i hi
  ·rw [row_up e, h i hi, h r hr]; grind
theorem run_null (h : Run upR m A c s) : Null m w s.A x ↔ Null m w A x := by
 induction h with
 | zero => exact Iff.rfl
 | @succ c s s' _ e ih =>
  cases e with
  | none _ => exact ih
  | piv i h1 h2 h3 h4 =>
   rw [null_up (by omega), null_swap h2 (by omega)]
   exact ih
theorem run_diag (h : Run upR m A c s) (hr : s.rank = c) : (∀ j, j < c → s.A j j ≠ 0) ∧ ∀ i j, j < c → i ≠ j → s.A i j = 0 := by
 induction h with
 | zero => exact ⟨fun j hj => absurd hj (by omega), fun i j hj => absurd hj (by omega)⟩
 | @succ c s s' h e ih =>
  have hle := h.rank_le
  cases e with
  | none _ => omega
  | piv i h1 h2 h3 h4 =>
   have hrc : s.rank = c := by have : s.rank + 1 = c + 1 := hr; omega
   obtain ⟨d1, d2⟩ := ih hrc
   subst hrc
   obtain ⟨r, hrr⟩ : ∃ r, s.rank = r := ⟨_, rfl⟩
   rw [hrr] at h1 h3 h4 d1 d2 ⊢
   have p : swapR s.A i r r r = s.A i r := by
    simp only [swapR, swapI]
    by_cases e : r = i
    ·rw [if_pos e, e]
    ·rw [if_neg e]; simp
   have zl : ∀ a j, j < r → a ≠ j → swapR s.A i r a j = 0 := fun a j hj ha => by
    simp only [swapR, swapI]
    by_cases e : a = i
    ·rw [if_pos e]; exact d2 _ _ hj (by omega)
    ·rw [if_neg e]
     by_cases e2 : a = r
     ·rw [if_pos e2]; exact d2 _ _ hj (by omega)
     ·rw [if_neg e2]; exact d2 _ _ hj ha
   have dl : ∀ j, j < r → swapR s.A i r j j = s.A j j := fun j hj => by
    simp only [swapR, swapI]
    rw [if_neg (by omega), if_neg (by omega)]
   have p0 : swapR s.A i r r r ≠ 0 := by rw [p]; exact h4
   refine ⟨fun j hj => ?_, fun a j hj ha => ?_⟩
   ·show upR _ _ _ _ _ ≠ 0
    simp only [upR]
    by_cases e : j = r
    ·subst e; rw [if_pos rfl]; exact p0
    ·rw [if_neg e, zl r j (by omega) (by omega), dl j (by omega)]
     have := d1 j (by omega)
     grind
   ·show upR _ _ _ _ _ = 0
    simp only [upR]
    by_cases hjc : j = r
    ·subst hjc
     rw [if_neg ha]
     grind
    ·by_cases e : a = r
     ·rw [if_pos e]; exact zl _ j (by omega) ha
     ·rw [if_neg e, zl a j (by omega) ha, zl r j (by omega) (by omega)]; grind
theorem run_kernel (h : Run upR m A c s) (hc : c ≤ n) : s.rank = c ∨ ∃ x : Nat → Rat, (∃ k, k < n ∧ x k ≠ 0) ∧ Null m n A x := by
 induction h with
 | zero => exact .inl rfl
 | @succ c s s' h e ih =>
  rcases ih (by omega) with hr | hx
  ·cases e with
   | piv i _ _ _ _ => left; show _ + 1 = _; omega
   | none z =>
    right
    obtain ⟨d1, d2⟩ := run_diag h hr
    refine ⟨fun k => if k < c then -(s.A k c / s.A k k) else if k = c then 1 else 0, ⟨c, by omega, ?_⟩, ?_⟩
    ·show (if c < c then _ else if c = c then (1 : Rat) else 0) ≠ 0
     rw [if_neg (by omega), if_pos rfl]; decide
    ·rw [← run_null h]
     intro i hi
     by_cases hic : i < c
     ·rw [sumTo_two (i := i) (j := c) hic (by omega)]
      ·dsimp only
       rw [if_pos hic, if_neg (by omega), if_pos rfl]
       have := d1 i hic
       grind
      ·intro k hk h1 h2
       by_cases hkc : k < c
       ·rw [d2 i k hkc (by omega)]; exact Rat.zero_mul _
       ·dsimp only; rw [if_neg hkc, if_neg h2]; exact Rat.mul_zero _
     ·refine sumTo_zero fun k hk => ?_
      by_cases hkc : k < c
      ·rw [d2 i k hkc (by omega)]; exact Rat.zero_mul _
      ·dsimp only
       rw [if_neg hkc]
       split
       ·rename_i e; subst e; rw [z i (by omega) hi]; exact Rat.zero_mul _
       ·exact Rat.mul_zero _
  ·exact .inr hx
theorem run_solves (h : Run upR n A n s) (hr : s.rank = n) : Null n (n + 1) A (fun k => if k < n then s.A k n / s.A k k else -1) := by
 rw [← run_null h]
 obtain ⟨d1, d2⟩ := run_diag h hr
 intro i hi
 rw [sumTo_two (i := i) (j := n) hi (by omega)]
 ·dsimp only
  rw [if_pos hi, if_neg (by omega)]
  have := d1 i hi
  grind
 ·intro k hk h1 h2
  rw [d2 i k (by omega) (by omega)]; exact Rat.zero_mul _
end
end Tally
namespace Tally
def RowD (N w : Nat) (f : Nat → Rat) : Prop := ∃ d : Int, d ≠ 0 ∧ d.natAbs < 10 ^ N ∧ ∀ k, k < w → ∃ a : Int, a.natAbs < 10 ^ N ∧ f k = Rat.divInt a d
theorem RowD.fw {N w k : Nat} {f : Nat → Rat} (h : RowD N w f) (hk : k < w) : Fw N (f k) := by
 obtain ⟨d, hd, hl, ha⟩ := h
 obtain ⟨a, h1, e⟩ := ha k hk
 rw [e]; exact fw_divInt hd h1 hl
theorem RowD.mono {N M w : Nat} {f : Nat → Rat} (h : RowD N w f) (hm : N ≤ M) : RowD M w f := by
 obtain ⟨d, hd, hl, ha⟩ := h
 have hp : 10 ^ N ≤ 10 ^ M := Nat.pow_le_pow_right (by decide) hm
 exact ⟨d, hd, by omega, fun k hk => by obtain ⟨a, h1, e⟩ := ha k hk; exact ⟨a, by omega, e⟩⟩
theorem RowD.congr {N w : Nat} {f g : Nat → Rat} (h : RowD N w f) (e : ∀ k, k < w → g k = f k) : RowD N w g := by
 obtain ⟨d, hd, hl, ha⟩ := h
 exact ⟨d, hd, hl, fun k hk => by obtain ⟨a, h1, q⟩ := ha k hk; exact ⟨a, h1, (e k hk).trans q⟩⟩
theorem up_num {a b ac bc d e : Int} (hd : d ≠ 0) (he : e ≠ 0) (hb : bc ≠ 0) :
  Rat.divInt a d - Rat.divInt ac d / Rat.divInt bc e * Rat.divInt b e = Rat.divInt (a * bc - ac * b) (d * bc) := by
 have nz : ∀ z : Int, z ≠ 0 → (z : Rat) ≠ 0 := fun z hz h => hz (by exact_mod_cast h)
 have h1 := nz d hd
 have h2 := nz e he
 have h3 := nz bc hb
 rw [Rat.divInt_eq_div, Rat.divInt_eq_div, Rat.divInt_eq_div, Rat.divInt_eq_div, Rat.divInt_eq_div, Rat.intCast_sub, Rat.intCast_mul, Rat.intCast_mul, Rat.intCast_mul]
 generalize (a : Rat) = a at *
 generalize (b : Rat) = b at *
 generalize (ac : Rat) = ac at *
 generalize (bc : Rat) = bc at *
 generalize (d : Rat) = d at *
 generalize (e : Rat) = e at *
 grind
theorem divInt_ne {a d : Int} (h : Rat.divInt a d ≠ 0) : a ≠ 0 := by
 rintro rfl; exact h (Rat.zero_divInt d)
theorem two_lt {N x y z u : Nat} (h1 : x < 10 ^ N) (h2 : y < 10 ^ N) (h3 : z < 10 ^ N) (h4 : u < 10 ^ N) : x * y + z * u < 10 ^ (2 * N + 1) := by
 have a := pw_mul h1 h2
 have b := pw_mul h3 h4
 have e : 10 ^ (2 * N + 1) = 10 * 10 ^ (N + N) := by rw [Nat.pow_succ, Nat.two_mul]; omega
 omega
theorem rowD_up {N w c : Nat} {f g : Nat → Rat} (hc : c < w) (hf : RowD N w f) (hg : RowD N w g) (h0 : g c ≠ 0) :
  RowD (2 * N + 1) w (fun k => f k - f c / g c * g k) := by
 obtain ⟨d, hd, hl, ha⟩ := hf
 obtain ⟨e, he, hm, hb⟩ := hg
 obtain ⟨ac, l1, e1⟩ := ha c hc
 obtain ⟨bc, l2, e2⟩ := hb c hc
 have hbc : bc ≠ 0 := divInt_ne (e2 ▸ h0)
 refine ⟨d * bc, Int.mul_ne_zero hd hbc, ?_, fun k hk => ?_⟩
 ·rw [Int.natAbs_mul]
  have := two_lt hl l2 hl l2
  generalize d.natAbs * bc.natAbs = x at *
  omega
 ·obtain ⟨a, l3, e3⟩ := ha k hk
  obtain ⟨b, l4, e4⟩ := hb k hk
  refine ⟨a * bc - ac * b, ?_, ?_⟩
  ·have h1 := Int.natAbs_add_le (a * bc) (-(ac * b))
   rw [Int.natAbs_neg, Int.natAbs_mul, Int.natAbs_mul] at h1
   have := two_lt l3 l2 l1 l4
   have e : a * bc - ac * b = a * bc + -(ac * b) := by omega
   rw [e]; omega
  ·show f k - f c / g c * g k = _
   rw [e1, e2, e3, e4]; exact up_num hd he hbc
theorem rowD_norm {N w c : Nat} {g : Nat → Rat} (hc : c < w) (hg : RowD N w g) (h0 : g c ≠ 0) : RowD N w (fun k => g k / g c) := by
 obtain ⟨e, he, hm, hb⟩ := hg
 obtain ⟨bc, l2, e2⟩ := hb c hc
 have hbc : bc ≠ 0 := divInt_ne (e2 ▸ h0)
 refine ⟨bc, hbc, l2, fun k hk => ?_⟩
 obtain ⟨b, l4, e4⟩ := hb k hk
 refine ⟨b, l4, ?_⟩
 have nz : ∀ z : Int, z ≠ 0 → (z : Rat) ≠ 0 := fun z hz h => hz (by exact_mod_cast h)
 have h2 := nz e he
 have h3 := nz bc hbc
 show g k / g c = _
 rw [e4, e2, Rat.divInt_eq_div, Rat.divInt_eq_div, Rat.divInt_eq_div]
 grind
def dgs (N : Nat) : Nat → Nat
 | 0 => N
 | c + 1 => 2 * dgs N c + 1
theorem dgs_eq (N c : Nat) : dgs N c + 1 = 2 ^ c * (N + 1) := by
 induction c with
 | zero => simp [dgs]
 | succ c ih => rw [dgs, Nat.pow_succ, Nat.mul_comm (2 ^ c) 2, Nat.mul_assoc]; omega
theorem dgs_mono (N : Nat) {c d : Nat} (h : c ≤ d) : dgs N c ≤ dgs N d := by
 induction d with
 | zero =>
      obtain rfl : c = 0 := by omega
      exact Nat.le_refl _
 | succ d ih =>
  by_cases e : c = d + 1
  ·rw [e]; exact Nat.le_refl _
  ·have := ih (by omega)
   rw [dgs]; omega
theorem swap_rows {m N w i r : Nat} {A : Mx} (hi : i < m) (hr : r < m) (h : ∀ a, a < m → RowD N w (A a)) : ∀ a, a < m → RowD N w (swapR A i r a) :=
 fun _ ha => h _ (swapI_lt hi hr ha)
theorem rows_up {m N w r c : Nat} {A : Mx} (hr : r < m) (hc : c < w) (h0 : A r c ≠ 0) (h : ∀ a, a < m → RowD N w (A a)) : ∀ a, a < m → RowD (2 * N + 1) w (upR A r c a) := by
 intro a ha
 by_cases e : a = r
 ·subst e; exact ((h a ha).congr (fun k _ => by simp [upR])).mono (by omega)
 ·exact (rowD_up hc (h a ha) (h r hr) h0).congr (fun k _ => by simp [upR, e])
theorem run_rows {f : Mx → Nat → Nat → Mx} {m c w N : Nat} {A : Mx} {s : St} (hf : ∀ (N : Nat) (B : Mx) (r c : Nat), r < m → c < w → B r c ≠ 0 → (∀ a, a < m → RowD N w (B a)) → ∀ a, a < m → RowD (2 * N + 1) w (f B r c a))
  (h : Run f m A c s) (hc : c ≤ w) (hA : ∀ a, a < m → RowD N w (A a)) : ∀ a, a < m → RowD (dgs N c) w (s.A a) := by
 induction h with
 | zero => exact hA
 | @succ c s s' _ e ih =>
  have ih := ih (by omega)
  cases e with
  | none _ => exact fun a ha => (ih a ha).mono (dgs_mono N (by omega))
  | piv i h1 h2 h3 h4 =>
   have p : swapR s.A i s.rank s.rank c = s.A i c := by simp only [swapR, swapI]; split <;> simp_all
   exact hf _ _ _ _ (by omega) (by omega) (by rw [p]; exact h4) (swap_rows h2 (by omega) ih)
theorem run_rows_up {m c w N : Nat} {A : Mx} {s : St} (h : Run upR m A c s) (hc : c ≤ w) (hA : ∀ a, a < m → RowD N w (A a)) : ∀ a, a < m → RowD (dgs N c) w (s.A a) :=
 run_rows (fun _ _ _ _ h1 h2 h3 h4 => rows_up h1 h2 h3 h4) h hc hA
theorem run_det {f : Mx → Nat → Nat → Mx} {m c w N : Nat} {A : Mx} {s : St} (hf : ∀ (N : Nat) (B : Mx) (r c : Nat), r < m → c < w → B r c ≠ 0 → (∀ a, a < m → RowD N w (B a)) → ∀ a, a < m → RowD (2 * N + 1) w (f B r c a))
  (h : Run f m A c s) (hc : c ≤ w) (hA : ∀ a, a < m → RowD N w (A a)) : Fw (dgs N c + 1) s.det := by
 induction h with
 | zero => exact ⟨by show 1 < _; rw [Nat.pow_succ]; have : 1 ≤ 10 ^ dgs N 0 := Nat.pow_pos (by decide); omega, by show 1 < _; rw [Nat.pow_succ]; have : 1 ≤ 10 ^ dgs N 0 := Nat.pow_pos (by decide); omega⟩
 | @succ c s s' h e ih =>
  have ih := ih (by omega)
  have hr := run_rows hf h (by omega) hA
  cases e with
  | none _ => exact fw_mono ih (by rw [dgs]; omega)
  | piv i h1 h2 h3 h4 =>
   refine fw_mono (fw_mul (N := dgs N c + 1) (M := dgs N c) ?_ ((hr i h2).fw (by omega))) (by rw [dgs]; omega)
   split
   ·exact ih
   ·exact fw_neg ih
end Tally
namespace Tally
def ex (f : Nat → Rat) : (List Nat → Rat) → List Nat → Rat
 | _, [] => 0
 | g, c :: r => f c * g r - ex f (fun l => g (c :: l)) r
end Tally
namespace Tally
section
variable {f : Mx → Nat → Nat → Mx} {m c w n : Nat} {A B : Mx} {s t : St} {x : Nat → Rat}
def LinR (φ : (Nat → Rat) → (Nat → Rat)) : Prop := ∀ (x y : Nat → Rat) (q : Rat), φ (fun k => x k + q * y k) = fun k => φ x k + q * φ y k
end
end Tally
namespace Tally
def upIn (A : Mx) (r c i k0 : Nat) : Mx := fun a k => if a < i ∨ (a = i ∧ k < k0) then upR A r c a k else A a k
section
variable {A : Mx} {r c i k0 n m a k : Nat}
theorem upIn_start (A : Mx) (r c : Nat) : upIn A r c 0 0 = A := by
 funext a k
 simp [upIn]
theorem upIn_done (a : Nat) {k : Nat} (hk : k < n) : upIn A r c i n a k = upIn A r c (i + 1) 0 a k := by
 unfold upIn
 by_cases h : a < i ∨ a = i
 ·rw [if_pos (by omega), if_pos (by omega)]
 ·rw [if_neg (by omega), if_neg (by omega)]
theorem upR_self (A : Mx) (r c k : Nat) : upR A r c r k = A r k := by unfold upR; rw [if_pos rfl]
theorem upIn_pivot (a k : Nat) : upIn A i c i 0 a k = upIn A i c (i + 1) 0 a k := by
 unfold upIn
 by_cases h : a < i
 ·rw [if_pos (by omega), if_pos (by omega)]
 ·rw [if_neg (by omega)]
  by_cases e : a = i
  ·subst e; rw [if_pos (by omega), upR_self]
  ·rw [if_neg (by omega)]
theorem upIn_zero (h0 : A i c = 0) (a k : Nat) : upIn A r c i 0 a k = upIn A r c (i + 1) 0 a k := by
 unfold upIn
 by_cases h : a < i
 ·rw [if_pos (by omega), if_pos (by omega)]
 ·rw [if_neg (by omega)]
  by_cases e : a = i
  ·subst e
   rw [if_pos (by omega)]
   unfold upR
   by_cases e2 : a = r
   ·rw [if_pos e2]
   ·rw [if_neg e2, h0, Rat.div_def, Rat.zero_mul, Rat.zero_mul]; grind
  ·rw [if_neg (by omega)]
theorem upIn_end (ha : a < m) (k : Nat) : upIn A r c m 0 a k = upR A r c a k := by
 unfold upIn; rw [if_pos (by omega)]
theorem upIn_here (hk : k0 ≤ k) : upIn A r c i k0 i k = A i k := by
 unfold upIn; rw [if_neg (by omega)]
theorem upIn_row (k : Nat) : upIn A r c i k0 r k = A r k := by
 unfold upIn
 split
 ·exact upR_self _ _ _ _
 ·rfl
theorem upIn_put (hi : i ≠ r) (a b : Nat) : (if a = i ∧ b = k then A i k - A i c / A r c * A r k else upIn A r c i k a b) = upIn A r c i (k + 1) a b := by
 unfold upIn
 by_cases h : a = i ∧ b = k
 ·obtain ⟨rfl, rfl⟩ := h
  rw [if_pos ⟨rfl, rfl⟩, if_pos (by omega)]
  unfold upR
  rw [if_neg hi]
 ·rw [if_neg h]
  by_cases h2 : a < i ∨ (a = i ∧ b < k)
  ·rw [if_pos h2, if_pos (by omega)]
  ·rw [if_neg h2, if_neg (by omega)]
end
end Tally
namespace Tally
def wideM (n : Nat) (A : Mx) (y : Nat → Rat) : Mx := fun i k => if k < n then A i k else y i
def FewD (M : Nat) (q : Rat) : Prop := ∃ a e : Int, e ≠ 0 ∧ a.natAbs < 10 ^ M ∧ e.natAbs < 10 ^ M ∧ q = Rat.divInt a e
theorem rowD_wide {N M n : Nat} {f : Nat → Rat} {q : Rat} (h : RowD N n f) (hq : FewD M q) : RowD (N + M) (n + 1) (fun k => if k < n then f k else q) := by
 obtain ⟨d, hd, hl, ha⟩ := h
 obtain ⟨b, e, he, h1, h2, hb⟩ := hq
 have mul : ∀ x y : Int, x.natAbs < 10 ^ N → y.natAbs < 10 ^ M → (x * y).natAbs < 10 ^ (N + M) := fun x y hx hy => by
  rw [Int.natAbs_mul, Nat.pow_add]
  by_cases hz : x.natAbs = 0
  ·rw [hz, Nat.zero_mul]; exact Nat.mul_pos (Nat.pow_pos (by decide)) (Nat.pow_pos (by decide))
  ·exact Nat.lt_of_lt_of_le (Nat.mul_lt_mul_of_pos_left hy (by omega)) (Nat.mul_le_mul_right _ (by omega))
 refine ⟨d * e, Int.mul_ne_zero hd he, mul d e hl h2, fun k hk => ?_⟩
 by_cases hkn : k < n
 ·obtain ⟨a, h3, h4⟩ := ha k hkn
  refine ⟨a * e, mul a e h3 h2, ?_⟩
  show (if k < n then f k else q) = _
  rw [if_pos hkn, h4, Rat.divInt_mul_right he]
 ·refine ⟨d * b, mul d b hl h1, ?_⟩
  show (if k < n then f k else q) = _
  rw [if_neg hkn, hb, Rat.divInt_mul_left hd]
section
variable {m : Nat} {A : Mx} {x y : Nat → Rat} {s t : St}
theorem wide_sum (i : Nat) (z : Nat → Rat) (hz : z m = -1) : sumTo (m + 1) (fun k => wideM m A y i k * z k) = sumTo m (fun k => A i k * z k) - y i := by
 simp only [sumTo]
 rw [hz, sumTo_congr (g := fun k => A i k * z k) (fun k hk => by simp [wideM, hk])]
 simp only [wideM, Nat.lt_irrefl, if_false]
 grind
theorem solve_sum (h : Run upR m (wideM m A y) m s) (hr : s.rank = m) : ∀ i, i < m → sumTo m (fun j => A i j * (s.A j m / s.A j j)) = y i := by
 intro i hi
 have := run_solves h hr i hi
 rw [wide_sum i _ (by simp), sumTo_congr (g := fun j => A i j * (s.A j m / s.A j j)) (fun k hk => by simp [hk])] at this
 grind
end
end Tally
namespace Tally
theorem wide_rows {m n N M : Nat} {A : Mx} {y : Nat → Rat} (hA : ∀ i, i < m → RowD N n (A i)) (hy : ∀ i, i < m → FewD M (y i)) : ∀ i, i < m → RowD (N + M) (n + 1) (wideM n A y i) := fun i hi => rowD_wide (hA i hi) (hy i hi)
end Tally
namespace Tally
theorem FewD.mono {N M : Nat} {q : Rat} (h : FewD N q) (hm : N ≤ M) : FewD M q := by
 obtain ⟨a, e, h1, h2, h3, rfl⟩ := h
 have hp : 10 ^ N ≤ 10 ^ M := Nat.pow_le_pow_right (by decide) hm
 exact ⟨a, e, h1, by omega, by omega, rfl⟩
end Tally
namespace Tally
section
variable {m : Nat} {A : Mx} {x y : Nat → Rat} {s t : St}
theorem wide_at {i k : Nat} (hk : k < m) : wideM m A y i k = A i k := by simp [wideM, hk]
theorem sol_fw {N : Nat} (h : Run upR m (wideM m A y) m s) (hr : s.rank = m) (hN : ∀ i, i < m → RowD N (m + 1) (wideM m A y i)) : ∀ i, i < m → Fw (dgs N m) (s.A i m / s.A i i) := by
 intro i hi
 have h1 := run_rows_up h (Nat.le_succ m) hN i hi
 exact (rowD_norm (show i < m + 1 by omega) h1 ((run_diag h hr).1 i hi)).fw (show m < m + 1 by omega)
end
end Tally
namespace Tally
section
variable {A : Mx} {r c a k i j m n : Nat}
end
end Tally
namespace Tally
section
variable {f : Mx → Nat → Nat → Mx} {m c n : Nat} {A : Mx} {s t : St} {y : Nat → Rat}
theorem least_ne {r m : Nat} (g : Nat → Rat) : (∀ j, r ≤ j → j < m → g j = 0) ∨ ∃ i, r ≤ i ∧ i < m ∧ (∀ j, r ≤ j → j < i → g j = 0) ∧ g i ≠ 0 := by
 induction m with
 | zero => exact .inl fun j _ h => absurd h (Nat.not_lt_zero _)
 | succ m ih =>
  rcases ih with h | ⟨i, h1, h2, h3, h4⟩
  ·by_cases hr : r ≤ m
   ·by_cases hz : g m = 0
    ·refine .inl fun j h1 h2 => ?_
     by_cases e : j = m
     ·rw [e]; exact hz
     ·exact h j h1 (by omega)
    ·exact .inr ⟨m, hr, by omega, h, hz⟩
   ·exact .inl fun j h1 h2 => by omega
  ·exact .inr ⟨i, h1, by omega, h3, h4⟩
theorem run_exists (f : Mx → Nat → Nat → Mx) (m : Nat) (A : Mx) : ∀ c, ∃ s, Run f m A c s := by
 intro c
 induction c with
 | zero => exact ⟨_, Run.zero⟩
 | succ c ih =>
  obtain ⟨s, hs⟩ := ih
  rcases least_ne (r := s.rank) (m := m) (fun j => s.A j c) with h | ⟨i, h1, h2, h3, h4⟩
  ·exact ⟨_, Run.succ hs (IsStep.none h)⟩
  ·exact ⟨_, Run.succ hs (IsStep.piv i h1 h2 h3 h4)⟩
end
end Tally
