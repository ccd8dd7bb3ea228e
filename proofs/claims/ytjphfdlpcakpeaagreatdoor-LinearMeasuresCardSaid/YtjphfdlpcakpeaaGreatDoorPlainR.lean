/- Plain laws of numbers: rounding, comparison, digits, the texts of numbers. -/
import Derived.Test.YtjphfdlpcakpeaaGreatDoorPlainN
import Derived.Lib.CutLaws
namespace Tally
/-- a number, rounded half away from zero -/
def roundQ (q : Rat) : Int := (2 * q.num + (if q.num < 0 then -(q.den : Int) else q.den)).tdiv (2 * q.den)

/-- the reference's way -/
def rroundQ (q : Rat) : Int := if q.num < 0 then -((2 * (q.num.natAbs : Int) + q.den).tdiv (2 * q.den)) else (2 * (q.num.natAbs : Int) + q.den).tdiv (2 * q.den)

theorem rround_eq (q : Rat) : rroundQ q = roundQ q := by
  unfold rroundQ roundQ
  by_cases h : q.num < 0
  · rw [if_pos h, if_pos h]
    have : 2 * (q.num.natAbs : Int) + q.den = -(2 * q.num + -(q.den : Int)) := by omega
    rw [this, Int.neg_tdiv]; omega
  · rw [if_neg h, if_neg h]
    have : (q.num.natAbs : Int) = q.num := by omega
    rw [this]

theorem round_neg (q : Rat) : roundQ (-q) = -roundQ q := by
  rw [← rround_eq, ← rround_eq]
  unfold rroundQ
  rw [Rat.neg_num, Rat.neg_den, Int.natAbs_neg]
  by_cases h : q.num < 0
  · rw [if_neg (by omega), if_pos h]; omega
  · rw [if_neg h]
    by_cases h0 : q.num = 0
    · rw [if_neg (by omega)]
      have hd := q.den_nz
      have : (2 * ((q.num.natAbs : Nat) : Int) + q.den).tdiv (2 * q.den) = 0 := by
        rw [h0]
        exact Int.tdiv_eq_zero_of_lt (by simp) (by simp; omega)
      rw [this]; rfl
    · rw [if_pos (by omega)]

/-- 2·den·round is within den of 2·num -/
theorem round_near (q : Rat) : (2 * q.num - 2 * q.den * roundQ q).natAbs ≤ q.den := by
  have hd := q.den_nz
  unfold roundQ
  generalize q.num = a at *
  generalize q.den = d at *
  have hdp : (0 : Int) < d := by omega
  by_cases h : a < 0
  · rw [if_pos h]
    have e := Int.tmod_add_mul_tdiv (2 * a + -(d : Int)) (2 * d)
    have l1 := Int.tmod_lt_of_pos (2 * a + -(d : Int)) (show (0 : Int) < 2 * d by omega)
    have l2 : -(2 * (d : Int)) < (2 * a + -(d : Int)).tmod (2 * d) := by
      have := Int.lt_tmod_of_pos (2 * a + -(d : Int)) (show (0 : Int) < 2 * d by omega)
      omega
    have l3 : (2 * a + -(d : Int)).tmod (2 * d) ≤ 0 := by
      have := Int.tmod_nonneg (2 * (d : Int)) (a := -(2 * a + -(d : Int))) (by omega)
      rw [Int.neg_tmod] at this
      omega
    generalize (2 * a + -(d : Int)).tdiv (2 * d) = x at *
    generalize (2 * a + -(d : Int)).tmod (2 * d) = r at *
    generalize 2 * (d : Int) * x = y at *
    omega
  · rw [if_neg h]
    have e := Int.tmod_add_mul_tdiv (2 * a + (d : Int)) (2 * d)
    have l1 := Int.tmod_lt_of_pos (2 * a + (d : Int)) (show (0 : Int) < 2 * d by omega)
    have l3 := Int.tmod_nonneg (2 * (d : Int)) (a := 2 * a + (d : Int)) (by omega)
    generalize (2 * a + (d : Int)).tdiv (2 * d) = x at *
    generalize (2 * a + (d : Int)).tmod (2 * d) = r at *
    generalize 2 * (d : Int) * x = y at *
    omega

theorem rat_num_div (q : Rat) : (q.num : Rat) / (q.den : Rat) = q := by
  have := Rat.num_divInt_den q
  rw [Rat.divInt_eq_div] at this
  exact_mod_cast this

theorem round_lo (q : Rat) : (roundQ q : Rat) - 1 / 2 ≤ q := by
  have h := round_near q
  have hd : (0 : Rat) < (q.den : Rat) := by exact_mod_cast q.den_pos
  have e := rat_num_div q
  have h2 : 2 * (q.den : Int) * roundQ q - q.den ≤ 2 * q.num := by omega
  have h3 : (2 * (q.den : Rat) * (roundQ q : Rat) - (q.den : Rat)) ≤ 2 * (q.num : Rat) := by exact_mod_cast h2
  have e2 : (q.num : Rat) = q * (q.den : Rat) := by grind
  rw [e2] at h3
  have : 0 ≤ (q - ((roundQ q : Rat) - 1 / 2)) * (q.den : Rat) := by grind
  by_cases hh : (roundQ q : Rat) - 1 / 2 ≤ q
  · exact hh
  · exfalso
    have hlt : q < (roundQ q : Rat) - 1 / 2 := Rat.not_le.1 hh
    have := Rat.mul_pos (show (0 : Rat) < ((roundQ q : Rat) - 1 / 2) - q by grind) hd
    grind

theorem round_hi (q : Rat) : q ≤ (roundQ q : Rat) + 1 / 2 := by
  have h := round_lo (-q)
  rw [round_neg] at h
  have : ((-roundQ q : Int) : Rat) = -(roundQ q : Rat) := by exact_mod_cast rfl
  rw [this] at h
  grind

theorem int_of_rat_lt {a b : Int} (h : (a : Rat) < (b : Rat) + 1) : a ≤ b := by
  have : (a : Rat) < ((b + 1 : Int) : Rat) := by
    rw [show ((b + 1 : Int) : Rat) = (b : Rat) + 1 by exact_mod_cast rfl]; exact h
  have : a < b + 1 := by exact_mod_cast this
  omega

/-- rounding keeps the order -/
theorem round_mono {p q : Rat} (h : p ≤ q) : roundQ p ≤ roundQ q := by
  by_cases e : p = q
  · rw [e]; exact Int.le_refl _
  · have hlt : p < q := by
      rcases Rat.le_iff_lt_or_eq.1 h with k | k
      · exact k
      · exact absurd k e
    apply int_of_rat_lt
    have := round_lo p
    have := round_hi q
    grind

theorem round_parts (p q : Rat) : roundQ (p + q) - roundQ p - roundQ q ≤ 1 ∧ -1 ≤ roundQ (p + q) - roundQ p - roundQ q := by
  have a1 := round_lo p
  have a2 := round_hi p
  have b1 := round_lo q
  have b2 := round_hi q
  have c1 := round_lo (p + q)
  have c2 := round_hi (p + q)
  have k : ∀ x y z : Int, ((x + y + z : Int) : Rat) = (x : Rat) + (y : Rat) + (z : Rat) := fun x y z => by exact_mod_cast rfl
  have i1 : roundQ (p + q) < roundQ p + roundQ q + 2 := by
    have : (roundQ (p + q) : Rat) < ((roundQ p + roundQ q + 2 : Int) : Rat) := by
      rw [k]
      have : ((2 : Int) : Rat) = 2 := rfl
      grind
    exact_mod_cast this
  have i2 : roundQ p + roundQ q + (-2) < roundQ (p + q) := by
    have : ((roundQ p + roundQ q + (-2) : Int) : Rat) < (roundQ (p + q) : Rat) := by
      rw [k]
      have : ((-2 : Int) : Rat) = -2 := rfl
      grind
    exact_mod_cast this
  omega

theorem round_abs (q : Rat) : (roundQ q).natAbs ≤ q.num.natAbs := by
  unfold roundQ
  have hd := q.den_pos
  generalize q.num = a at *
  generalize q.den = d at *
  have key : ∀ n : Nat, (2 * (n : Int) + d).tdiv (2 * d) ≤ n := fun n => by
    by_cases hn : n = 0
    · subst hn
      rw [Int.tdiv_eq_zero_of_lt (by simp) (by omega)]; exact Int.le_refl _
    · have : (2 * (n : Int) + d).tdiv (2 * d) = (2 * (n : Int) + d) / (2 * d) := Int.tdiv_eq_ediv_of_nonneg (by omega)
      rw [this]
      have h1 : (2 * (n : Int) + d) / (2 * d) < n + 1 := by
        apply Int.ediv_lt_of_lt_mul (by omega)
        have : (d : Int) * n + d ≤ (n + 1) * (d : Int) := by grind
        have h2 : (n : Int) ≤ (d : Int) * n := by
          have : (1 : Int) * n ≤ (d : Int) * n := Int.mul_le_mul_of_nonneg_right (by omega) (by omega)
          omega
        grind
      omega
  have pos : ∀ n : Nat, 0 ≤ (2 * (n : Int) + d).tdiv (2 * d) := fun n => Int.tdiv_nonneg (by omega) (by omega)
  by_cases h : a < 0
  · rw [if_pos h]
    have e : 2 * a + -(d : Int) = -(2 * ((-a).toNat : Int) + d) := by omega
    rw [e, Int.neg_tdiv]
    have := key (-a).toNat
    have := pos (-a).toNat
    omega
  · rw [if_neg h]
    have e : 2 * a + (d : Int) = 2 * (a.toNat : Int) + d := by omega
    rw [e]
    have := key a.toNat
    have := pos a.toNat
    omega

theorem num_neg {q : Rat} : q.num < 0 ↔ q < 0 := by
  rw [Rat.lt_iff]
  show q.num < 0 ↔ q.num * 1 < 0 * _
  omega
theorem num_pos {q : Rat} : 0 < q.num ↔ 0 < q := by
  rw [Rat.lt_iff]
  show 0 < q.num ↔ 0 * _ < q.num * 1
  omega

/-- the sign of a difference, as the integers say it -/
theorem cmp_sign (p q : Rat) : (p.num * q.den - q.num * p.den).sign = (p - q).num.sign := by
  have h1 := Rat.lt_iff p q
  have h2 := Rat.lt_iff q p
  have h3 : p - q < 0 ↔ p < q := by constructor <;> intro h <;> grind
  have h4 : 0 < p - q ↔ q < p := by constructor <;> intro h <;> grind
  have n1 : (p - q).num < 0 ↔ p - q < 0 := num_neg
  have n2 : 0 < (p - q).num ↔ 0 < p - q := num_pos
  rcases Int.lt_trichotomy (p.num * q.den - q.num * p.den) 0 with k | k | k
  · rw [Int.sign_eq_neg_one_of_neg k, Int.sign_eq_neg_one_of_neg (n1.2 (h3.2 (h1.2 (by omega))))]
  · have x1 : ¬ (p - q).num < 0 := fun h => by have := h1.1 (h3.1 (n1.1 h)); omega
    have x2 : ¬ 0 < (p - q).num := fun h => by have := h2.1 (h4.1 (n2.1 h)); omega
    have : (p - q).num = 0 := by omega
    rw [k, this]
  · rw [Int.sign_eq_one_of_pos k, Int.sign_eq_one_of_pos (n2.2 (h4.2 (h2.2 (by omega))))]

/-- what a comparison answers -/
def cmpQ (p q : Rat) : Int := (p.num * q.den - q.num * p.den).sign

theorem cmpQ_eq (p q : Rat) : cmpQ p q = (p - q).num.sign := cmp_sign p q
theorem cmpQ_self (p : Rat) : cmpQ p p = 0 := by unfold cmpQ; rw [Int.sub_self]; rfl
theorem cmpQ_zero {p q : Rat} : cmpQ p q = 0 ↔ p = q := by
  rw [cmpQ_eq, Int.sign_eq_zero_iff_zero, Rat.num_eq_zero]
  constructor <;> intro h <;> grind
theorem cmpQ_neg {p q : Rat} : cmpQ p q < 0 ↔ p < q := by
  unfold cmpQ
  rw [Rat.lt_iff, Int.sign_neg_iff]
  omega
theorem cmpQ_pos {p q : Rat} : 0 < cmpQ p q ↔ q < p := by
  unfold cmpQ
  rw [Rat.lt_iff, Int.sign_pos_iff]
  omega
theorem cmpQ_swap (p q : Rat) : cmpQ q p = -cmpQ p q := by
  unfold cmpQ
  rw [← Int.sign_neg]
  congr 1
  omega
theorem cmpQ_three (p q : Rat) : cmpQ p q = -1 ∨ cmpQ p q = 0 ∨ cmpQ p q = 1 := by
  unfold cmpQ
  generalize p.num * q.den - q.num * p.den = x
  rcases Int.lt_trichotomy x 0 with k | k | k
  · left; exact Int.sign_eq_neg_one_of_neg k
  · right; left; rw [k]; rfl
  · right; right; exact Int.sign_eq_one_of_pos k
theorem cmpQ_add (p q r : Rat) : cmpQ (p + r) (q + r) = cmpQ p q := by
  rw [cmpQ_eq, cmpQ_eq]; congr 2; grind
theorem cmpQ_mul (p q r : Rat) : cmpQ (p * r) (q * r) = cmpQ p q * r.num.sign := by
  rw [cmpQ_eq, cmpQ_eq]
  have e : p * r - q * r = (p - q) * r := by grind
  rw [e]
  generalize p - q = d
  have hs : ∀ x : Rat, x.num.sign = if x < 0 then -1 else if x = 0 then 0 else 1 := fun x => by
    by_cases h : x < 0
    · rw [if_pos h, Int.sign_eq_neg_one_of_neg (num_neg.2 h)]
    · rw [if_neg h]
      by_cases h0 : x = 0
      · rw [if_pos h0, h0]; rfl
      · rw [if_neg h0, Int.sign_eq_one_of_pos (num_pos.2 (by
          rcases Rat.le_iff_lt_or_eq.1 (Rat.not_lt.1 h) with k | k
          · exact k
          · exact absurd k.symm h0))]
  have tri : ∀ x : Rat, x < 0 ∨ x = 0 ∨ 0 < x := fun x => by
    by_cases h : x < 0
    · exact .inl h
    · rcases Rat.le_iff_lt_or_eq.1 (Rat.not_lt.1 h) with k | k
      · exact .inr (.inr k)
      · exact .inr (.inl k.symm)
  rw [hs, hs, hs]
  rcases tri d with a | a | a <;> rcases tri r with b | b | b
  · have : 0 < d * r := by have := Rat.mul_pos (show 0 < -d by grind) (show 0 < -r by grind); grind
    rw [if_neg (by grind), if_neg (by grind), if_pos a, if_pos b]; rfl
  · subst b; simp [Rat.mul_zero]
  · have : d * r < 0 := by have := Rat.mul_pos (show 0 < -d by grind) b; grind
    rw [if_pos this, if_pos a, if_neg (by grind), if_neg (by grind)]; rfl
  · subst a; simp [Rat.zero_mul]
  · subst a; simp [Rat.zero_mul]
  · subst a; simp [Rat.zero_mul]
  · have : d * r < 0 := by have := Rat.mul_pos a (show 0 < -r by grind); grind
    rw [if_pos this, if_neg (by grind), if_neg (by grind), if_pos b]; rfl
  · subst b; simp [Rat.mul_zero]
  · have : 0 < d * r := Rat.mul_pos a b
    rw [if_neg (by grind), if_neg (by grind), if_neg (by grind), if_neg (by grind), if_neg (by grind), if_neg (by grind)]; rfl

theorem lowest (q : Rat) : q.num.gcd q.den = 1 := by
  have := q.reduced
  simpa [Int.gcd] using this
theorem same_ratio (q : Rat) {k : Int} (hk : k ≠ 0) : Rat.divInt (q.num * k) (q.den * k) = q := by
  rw [Rat.divInt_mul_right hk, Rat.num_divInt_den]
end Tally

namespace Tally
/-- few digits: numerator and denominator -/
def Fw (N : Nat) (q : Rat) : Prop := q.num.natAbs < 10 ^ N ∧ q.den < 10 ^ N
theorem fw_mono {N M : Nat} {q : Rat} (h : Fw N q) (hm : N ≤ M) : Fw M q :=
  ⟨Nat.lt_of_lt_of_le h.1 (Nat.pow_le_pow_right (by decide) hm), Nat.lt_of_lt_of_le h.2 (Nat.pow_le_pow_right (by decide) hm)⟩
theorem fw_divInt {N : Nat} {n d : Int} (hd : d ≠ 0) (h1 : n.natAbs < 10 ^ N) (h2 : d.natAbs < 10 ^ N) : Fw N (Rat.divInt n d) :=
  ⟨Nat.lt_of_le_of_lt (num_le n d) h1, Nat.lt_of_le_of_lt (den_le hd) h2⟩
theorem pw_mul {N M x y : Nat} (h : x < 10 ^ N) (k : y < 10 ^ M) : x * y < 10 ^ (N + M) := by
  rw [Nat.pow_add]; exact Nat.mul_lt_mul'' h k
theorem fw_neg {N : Nat} {q : Rat} (h : Fw N q) : Fw N (-q) := by
  unfold Fw; rw [Rat.neg_num, Rat.neg_den, Int.natAbs_neg]; exact h
theorem fw_mul {N M : Nat} {p q : Rat} (h : Fw N p) (k : Fw M q) : Fw (N + M) (p * q) := by
  rw [rat_mul]
  refine fw_divInt (Int.mul_ne_zero (by have := p.den_nz; omega) (by have := q.den_nz; omega)) ?_ ?_
  · rw [Int.natAbs_mul]; exact pw_mul h.1 k.1
  · rw [Int.natAbs_mul]; exact pw_mul h.2 k.2
theorem fw_zero (N : Nat) : Fw (N + 1) 0 := by
  have : 1 ≤ 10 ^ N := Nat.pow_pos (by decide)
  refine ⟨?_, ?_⟩
  · show 0 < _; exact Nat.pow_pos (by decide)
  · show 1 < _; rw [Nat.pow_succ]; omega
theorem fw_div {N M : Nat} {p q : Rat} (h : Fw N p) (k : Fw M q) : Fw (N + M + 1) (p / q) := by
  by_cases hq : q = 0
  · subst hq; rw [Rat.div_def, Rat.inv_zero, Rat.mul_zero]; exact fw_zero _
  · refine fw_mono ?_ (show N + M ≤ N + M + 1 by omega)
    rw [rat_div]
    refine fw_divInt (Int.mul_ne_zero (by have := p.den_nz; omega) (fun e => hq ((sign_num q).1 e))) ?_ ?_
    · rw [Int.natAbs_mul]; exact pw_mul h.1 k.2
    · rw [Int.natAbs_mul]; exact pw_mul h.2 k.1
theorem fw_add {N M : Nat} {p q : Rat} (h : Fw N p) (k : Fw M q) : Fw (N + M + 1) (p + q) := by
  rw [rat_add]
  have a := pw_mul h.1 k.2
  have b := pw_mul k.1 h.2
  have c := pw_mul h.2 k.2
  rw [Nat.add_comm M N] at b
  have e : 10 ^ (N + M + 1) = 10 * 10 ^ (N + M) := by rw [Nat.pow_succ]; omega
  refine fw_divInt (Int.mul_ne_zero (by have := p.den_nz; omega) (by have := q.den_nz; omega)) ?_ ?_
  · refine Nat.lt_of_le_of_lt (Int.natAbs_add_le _ _) ?_
    rw [Int.natAbs_mul, Int.natAbs_mul, Int.natAbs_natCast, Int.natAbs_natCast]
    omega
  · rw [Int.natAbs_mul, Int.natAbs_natCast, Int.natAbs_natCast]; omega
theorem fw_sub {N M : Nat} {p q : Rat} (h : Fw N p) (k : Fw M q) : Fw (N + M + 1) (p - q) := by
  rw [rat_sub]; exact fw_add h (fw_neg k)
end Tally

namespace Tally
open Go.Lib

/-- the part of a text ahead of its first slash; whether there is one; what lies behind -/
def topOf (l : List UInt8) : List UInt8 := l.takeWhile (· != 47)
def restOf (l : List UInt8) : List UInt8 := l.dropWhile (· != 47)
def slashed (l : List UInt8) : Bool := !(restOf l).isEmpty
def botOf (l : List UInt8) : List UInt8 := (restOf l).tail

theorem top_rest (l : List UInt8) : topOf l ++ restOf l = l := List.takeWhile_append_dropWhile
theorem rest_cons {l : List UInt8} (h : slashed l = true) : restOf l = 47 :: botOf l := by
  unfold slashed at h
  unfold botOf
  match e : restOf l with
  | [] => rw [e] at h; simp at h
  | c :: t =>
    have hc : (c != 47) = false := by
      have hne : restOf l ≠ [] := by rw [e]; simp
      have := List.head_dropWhile_not (p := (· != (47 : UInt8))) (l := l) hne
      have e2 : (List.dropWhile (· != (47 : UInt8)) l).head hne = c := by
        have : ∀ (m : List UInt8) (hm : m ≠ []), m = c :: t → m.head hm = c := by rintro m hm rfl; rfl
        exact this _ _ e
      rw [e2] at this
      simpa using this
    simp at hc
    rw [hc]; rfl
theorem split_slash {l : List UInt8} (h : slashed l = true) : l = topOf l ++ 47 :: botOf l := by
  rw [← rest_cons h, top_rest]
theorem no_slash {l : List UInt8} (h : slashed l = false) : topOf l = l := by
  have h2 := top_rest l
  unfold slashed at h
  have : restOf l = [] := by
    match e : restOf l with
    | [] => rfl
    | c :: t => rw [e] at h; simp at h
  rw [this, List.append_nil] at h2
  exact h2
theorem top_free {l : List UInt8} {c : UInt8} (h : c ∈ topOf l) : c ≠ 47 := by
  have := List.all_takeWhile (p := (· != (47 : UInt8))) (l := l)
  have := List.all_eq_true.1 this c h
  simpa using this
theorem top_length (l : List UInt8) : (topOf l).length ≤ l.length := by
  have := congrArg List.length (top_rest l)
  rw [List.length_append] at this
  omega
theorem bot_length (l : List UInt8) : (botOf l).length ≤ l.length := by
  have := congrArg List.length (top_rest l)
  rw [List.length_append] at this
  unfold botOf
  rw [List.length_tail]
  omega
/-- a text with a slash is parted in one way -/
theorem split_unique {a b c d : List UInt8} (ha : ∀ x ∈ a, x ≠ 47) (hc : ∀ x ∈ c, x ≠ 47) (h : a ++ 47 :: b = c ++ 47 :: d) : a = c ∧ b = d := by
  induction a generalizing c with
  | nil =>
    cases c with
    | nil => simpa using h
    | cons x t =>
      simp at h
      exact absurd h.1.symm (hc x (by simp))
  | cons y s ih =>
    cases c with
    | nil =>
      simp at h
      exact absurd h.1 (ha y (by simp))
    | cons x t =>
      simp at h
      obtain ⟨h1, h2⟩ := ih (fun z hz => ha z (by simp [hz])) (fun z hz => hc z (by simp [hz])) h.2
      exact ⟨by rw [h.1, h1], h2⟩

theorem index_slash (l : List UInt8) : index l [47] = if slashed l then ((topOf l).length : Int) else -1 := by
  rw [index_one]
  induction l with
  | nil => rfl
  | cons x t ih =>
    unfold indexByte
    by_cases hx : x = 47
    · subst hx; simp [slashed, restOf, topOf]
    · have e1 : (x == 47) = false := by simpa using hx
      have e2 : (x != 47) = true := by simpa using hx
      have r : restOf (x :: t) = restOf t := by simp [restOf, List.dropWhile, e2]
      have tt : topOf (x :: t) = x :: topOf t := by simp [topOf, List.takeWhile, e2]
      have s : slashed (x :: t) = slashed t := by simp [slashed, r]
      rw [e1, s, tt]
      simp only [Bool.false_eq_true, if_false]
      rw [ih]
      by_cases hs : slashed t = true
      · rw [if_pos hs, if_pos hs]
        have : (((topOf t).length : Int) == -1) = false := by rw [beq_eq_false_iff_ne]; omega
        simp [this]
      · rw [if_neg hs, if_neg hs]; simp

theorem cut_slash (l : List UInt8) : cut l [47] = (topOf l, botOf l, slashed l) := by
  unfold cut
  rw [index_slash]
  by_cases hs : slashed l = true
  · rw [if_pos hs, if_pos (by omega), hs]
    have h := split_slash hs
    have e1 : List.take (topOf l).length l = topOf l := by
      conv => lhs; arg 2; rw [h]
      exact List.take_left
    have e2 : List.drop ((topOf l).length + 1) l = botOf l := by
      conv => lhs; arg 2; rw [h]
      rw [show topOf l ++ 47 :: botOf l = (topOf l ++ [47]) ++ botOf l by simp]
      exact List.drop_left' (by simp)
    simp [e1, e2]
  · rw [if_neg hs, if_neg (by omega)]
    have hs' : slashed l = false := by simpa using hs
    rw [no_slash hs', hs']
    have : botOf l = [] := by
      unfold slashed at hs'
      unfold botOf
      match e : restOf l with
      | [] => rfl
      | c :: t => rw [e] at hs'; simp at hs'
    rw [this]

/-! ### the code and the number of a text -/

/-- the number of a text of any length -/
def lval (l : List UInt8) : Int := if negOf l = true then -(decVal (bodyOf l) : Int) else decVal (bodyOf l)
theorem lval_eq {l : List UInt8} (h : pcode l = 0) : pval l = lval l := by
  obtain ⟨h1, h2⟩ := pcode_zero h
  exact (pcode_ok h1 h2).2

def qcode (l : List UInt8) : Int :=
  if pcode (topOf l) = 3 then 3
  else if slashed l = false then (if pcode (topOf l) = 6 then 6 else 0)
  else if pcode (botOf l) = 3 ∨ negOf (botOf l) = true ∨ botOf l = [48] ∨ botOf l = [49] then 3
  else if pcode (topOf l) = 6 ∨ pcode (botOf l) = 6 then (if (lval (topOf l)).gcd (lval (botOf l)) = 1 then 6 else 3)
  else if (pval (topOf l)).gcd (pval (botOf l)) = 1 then 0 else 3
def qval (l : List UInt8) : Rat := if qcode l = 0 then (if slashed l = true then Rat.divInt (pval (topOf l)) (pval (botOf l)) else Rat.divInt (pval (topOf l)) 1) else 0

theorem pcode_three (l : List UInt8) : pcode l = 0 ∨ pcode l = 3 ∨ pcode l = 6 := by
  unfold pcode; split
  · exact .inr (.inl rfl)
  · split
    · exact .inr (.inr rfl)
    · exact .inl rfl

/-- not negative and not "0": greater than zero -/
theorem pval_pos {l : List UInt8} (h : pcode l = 0) (hn : negOf l = false) (h0 : l ≠ [48]) : 0 < pval l := by
  have e := itoa_pval h
  have e2 := lval_eq h
  unfold lval at e2
  rw [if_neg (by rw [hn]; simp)] at e2
  rcases Nat.eq_zero_or_pos (decVal (bodyOf l)) with z | z
  · exfalso
    rw [e2, z] at e
    exact h0 (by rw [← e]; rw [show ((0 : Nat) : Int) = ((0 : Nat) : Int) from rfl, itoa_nonneg, decDigits_one (by omega)]; rfl)
  · rw [e2]; omega
theorem pval_neg {l : List UInt8} (h : pcode l = 0) (hn : negOf l = true) : pval l < 0 := by
  have e2 := lval_eq h
  unfold lval at e2
  rw [if_pos hn] at e2
  have := pcode_zero h
  rcases Nat.eq_zero_or_pos (decVal (bodyOf l)) with z | z
  · exfalso
    obtain ⟨h1, h2⟩ := pcode_zero h
    simp only [not_or] at h1
    obtain ⟨a1, a2, a3, a4⟩ := h1
    have hall : ∀ c ∈ bodyOf l, isDigit c := fun c hc => by
      have : (bodyOf l).all digB = true := by simpa using a1
      exact digB_iff.1 (List.all_eq_true.1 this c hc)
    have hlead : (bodyOf l).head? = some 48 → bodyOf l = [48] := fun e => by
      have hl1 : ¬ 1 < (bodyOf l).length := fun q => a3 ⟨q, e⟩
      match hb : bodyOf l with
      | [] => exact absurd hb a2
      | [x] => rw [hb] at e; simp at e; rw [e]
      | x :: y :: t => rw [hb] at hl1; simp at hl1
    have hd := decDigits_of (bodyOf l) hall a2 hlead
    rw [z, decDigits_one (by omega)] at hd
    exact a4 ⟨hn, hd.symm⟩
  · rw [e2]; omega
theorem pval_zero : pcode [48] = 0 ∧ pval [48] = 0 := by constructor <;> decide +kernel
theorem pval_one : pcode [49] = 0 ∧ pval [49] = 1 := by constructor <;> decide +kernel
theorem pval_is_one {l : List UInt8} (h : pcode l = 0) : pval l = 1 ↔ l = [49] := by
  constructor
  · intro e
    have := itoa_pval h
    rw [e] at this
    have e3 := itoa_pval pval_one.1
    rw [pval_one.2] at e3
    rw [← this, e3]
  · rintro rfl; exact pval_one.2

theorem divInt_low {a b : Int} (hb : 0 < b) (h : a.gcd b = 1) : (Rat.divInt a b).num = a ∧ ((Rat.divInt a b).den : Int) = b := by
  have e1 := low_num_pos (n := a) hb
  have e2 := low_den_pos (n := a) hb
  rw [h] at e1 e2
  simp at e1 e2
  exact ⟨e1.symm, e2.symm⟩
/-- the program's test -/
theorem den_same {a b : Int} (hb : 0 < b) : ((Rat.divInt a b).den : Int) = b ↔ a.gcd b = 1 := by
  constructor
  · intro h
    have e2 := low_den_pos (n := a) hb
    rw [h] at e2
    have hg : ((a.gcd b : Nat) : Int) ∣ b := Int.gcd_dvd_right ..
    obtain ⟨k, hk⟩ := hg
    have h0 : ((a.gcd b : Nat) : Int) ≠ 0 := fun e => by rw [e, Int.zero_mul] at hk; omega
    have : b.tdiv (a.gcd b) = k := by
      rw [Int.tdiv_eq_of_eq_mul_right h0 hk]
    rw [this] at e2
    subst e2
    have : (((a.gcd k : Nat) : Int) - 1) * k = 0 := by rw [Int.sub_mul, Int.one_mul, ← hk]; omega
    rcases Int.mul_eq_zero.1 this with e | e
    · omega
    · omega
  · intro h; exact (divInt_low hb h).2

theorem den_one (a : Int) : (Rat.divInt a 1).num = a ∧ (Rat.divInt a 1).den = 1 := by
  have := divInt_low (a := a) (b := 1) (by decide) (by simp)
  exact ⟨this.1, by have := this.2; omega⟩

theorem qcode_three (l : List UInt8) : qcode l = 0 ∨ qcode l = 3 ∨ qcode l = 6 := by
  unfold qcode
  split
  · simp
  · split
    · split <;> simp
    · split
      · simp
      · split
        · split <;> simp
        · split <;> simp

/-- few digits -/
theorem qval_few (l : List UInt8) {N : Nat} (h : l.length ≤ N) (hN : 1 ≤ N) : Fw N (qval l) := by
  have w : ∀ x : Nat, x ≤ N → ∀ y : Nat, y < 10 ^ x → y < 10 ^ N := fun x hx y hy => Nat.lt_of_lt_of_le hy (Nat.pow_le_pow_right (by decide) hx)
  have one : (1 : Nat) < 10 ^ N := Nat.one_lt_pow (by omega) (by decide)
  unfold qval
  split
  · split
    · by_cases hb : pval (botOf l) = 0
      · rw [hb]
        rw [Rat.divInt_zero]
        exact ⟨by show 0 < _; omega, one⟩
      · exact fw_divInt hb (w _ (Nat.le_trans (top_length l) h) _ (pval_few _)) (w _ (Nat.le_trans (bot_length l) h) _ (pval_few _))
    · exact fw_divInt (by decide) (w _ (Nat.le_trans (top_length l) h) _ (pval_few _)) one
  · exact ⟨by show 0 < _; omega, one⟩
end Tally

namespace Tally
open Go.Lib

/-- the text of a number, as bytes -/
def ratL (q : Rat) : List UInt8 := if q.den = 1 then itoa q.num else itoa q.num ++ 47 :: itoa (q.den : Int)

theorem digit_free : ∀ (n : Nat), ∀ c ∈ decDigits n, c ≠ 47
  | n, c, hc, e => by
    have one : ∀ k : Nat, k < 10 → UInt8.ofNat (48 + k) ≠ 47 := by
      intro k hk h
      have h2 := congrArg UInt8.toNat h
      rw [UInt8.toNat_ofNat_of_lt' (by show 48 + k < 256; omega)] at h2
      have : (47 : UInt8).toNat = 47 := rfl
      omega
    rw [decDigits] at hc
    split at hc
    · rw [List.mem_singleton] at hc
      exact one n (by omega) (hc.symm.trans e)
    · rcases List.mem_append.1 hc with h | h
      · exact digit_free (n / 10) c h e
      · rw [List.mem_singleton] at h
        exact one (n % 10) (by omega) (h.symm.trans e)
theorem decVal_decDigits : ∀ n : Nat, decVal (decDigits n) = n
  | n => by
    have one : ∀ k : Nat, k < 10 → (UInt8.ofNat (48 + k)).toNat - 48 = k := by
      intro k hk
      rw [UInt8.toNat_ofNat_of_lt' (by show 48 + k < 256; omega)]
      omega
    rw [decDigits]
    split
    · simp only [decVal, List.foldl]
      rw [one n (by omega)]; omega
    · rw [decVal_snoc, decVal_decDigits (n / 10), one _ (by omega)]
      omega
theorem decDigits_inj {n m : Nat} (h : decDigits n = decDigits m) : n = m := by
  rw [← decVal_decDigits n, h, decVal_decDigits]
theorem itoa_free (z : Int) : ∀ c ∈ itoa z, c ≠ 47 := by
  intro c hc
  unfold itoa at hc
  split at hc
  · rcases List.mem_cons.1 hc with rfl | hc
    · decide
    · exact digit_free _ c hc
  · exact digit_free _ c hc

theorem pcode_ok_of {l : List UInt8} (h3 : pcode l ≠ 3) (h6 : pcode l ≠ 6) : pcode l = 0 := by
  rcases pcode_three l with h | h | h
  · exact h
  · exact absurd h h3
  · exact absurd h h6

theorem slash_text {l : List UInt8} (hs : slashed l = true) (ht : pcode (topOf l) = 0) (hb : pcode (botOf l) = 0) (hp : 0 < pval (botOf l)) :
    ratL (Rat.divInt (pval (topOf l)) (pval (botOf l))) = l ↔ (pval (topOf l)).gcd (pval (botOf l)) = 1 ∧ botOf l ≠ [49] := by
  constructor
  · intro h
    have hl := split_slash hs
    unfold ratL at h
    split at h
    · exfalso
      have : (47 : UInt8) ∈ itoa (Rat.divInt (pval (topOf l)) (pval (botOf l))).num := by rw [h, hl]; simp
      exact itoa_free _ _ this rfl
    · rename_i hd
      rw [hl] at h
      have hl' := hl
      have e := split_unique (itoa_free _) (fun x hx => top_free hx) (show _ = topOf l ++ 47 :: botOf l by rw [← hl] at h ⊢; exact h)
      have e2 : itoa ((Rat.divInt (pval (topOf l)) (pval (botOf l))).den : Int) = itoa (pval (botOf l)) := by rw [e.2, itoa_pval hb]
      have hd2 : ((Rat.divInt (pval (topOf l)) (pval (botOf l))).den : Int) = pval (botOf l) := by
        have : ∀ a b : Int, 0 ≤ a → 0 ≤ b → itoa a = itoa b → a = b := by
          intro a b ha hb hab
          obtain ⟨n, rfl⟩ := Int.eq_ofNat_of_zero_le ha
          obtain ⟨m, rfl⟩ := Int.eq_ofNat_of_zero_le hb
          rw [itoa_nonneg, itoa_nonneg] at hab
          exact congrArg _ (decDigits_inj hab)
        exact this _ _ (by omega) (by omega) e2
      refine ⟨(den_same hp).1 hd2, fun e1 => hd ?_⟩
      rw [(pval_is_one hb).2 e1] at hd2
      rw [(pval_is_one hb).2 e1]
      omega
  · rintro ⟨hg, h1⟩
    obtain ⟨a1, a2⟩ := divInt_low hp hg
    have hd : (Rat.divInt (pval (topOf l)) (pval (botOf l))).den ≠ 1 := fun e => by
      rw [e] at a2
      exact h1 ((pval_is_one hb).1 a2.symm)
    unfold ratL
    rw [if_neg hd, a1, a2, itoa_pval ht, itoa_pval hb, ← split_slash hs]

theorem whole_text {l : List UInt8} (hs : slashed l = false) (ht : pcode (topOf l) = 0) : ratL (Rat.divInt (pval (topOf l)) 1) = l := by
  unfold ratL
  rw [if_pos (den_one _).2, (den_one _).1, itoa_pval ht, no_slash hs]

/-- what was read has the text that was read -/
theorem text_qval {l : List UInt8} (h : qcode l = 0) : ratL (qval l) = l := by
  unfold qval
  rw [if_pos h]
  unfold qcode at h
  split at h
  · simp at h
  · rename_i h1
    split at h
    · rename_i h2
      split at h
      · simp at h
      · rename_i h3
        rw [if_neg (by rw [h2]; simp)]
        exact whole_text h2 (pcode_ok_of h1 h3)
    · rename_i h2
      have hs : slashed l = true := by simpa using h2
      split at h
      · simp at h
      · rename_i h4
        simp only [not_or] at h4
        split at h
        · split at h <;> simp at h
        · rename_i h5
          simp only [not_or] at h5
          split at h
          · rename_i h6
            rw [if_pos hs]
            have hb := pcode_ok_of h4.1 h5.2
            exact (slash_text hs (pcode_ok_of h1 h5.1) hb (pval_pos hb (by simpa using h4.2.1) h4.2.2.1)).2 ⟨h6, h4.2.2.2⟩
          · simp at h
end Tally
