/- Texts put together: PlainS, PlainW, PlainT, PlainU, PlainV, PlainY. -/
import Derived.Test.YtjphfdlpcakpeaaGreatDoorPlainL

/- Plain laws of a solution: of the widened matrix, of sums and multiples, of determinants. -/

namespace Tally

/-- the matrix with an element behind each row -/
def wideM (n : Nat) (A : Mx) (y : Nat → Rat) : Mx := fun i k => if k < n then A i k else y i

/-- a number with a denominator of few digits -/
def FewD (M : Nat) (q : Rat) : Prop := ∃ a e : Int, e ≠ 0 ∧ a.natAbs < 10 ^ M ∧ e.natAbs < 10 ^ M ∧ q = Rat.divInt a e

theorem rowD_wide {N M n : Nat} {f : Nat → Rat} {q : Rat} (h : RowD N n f) (hq : FewD M q) : RowD (N + M) (n + 1) (fun k => if k < n then f k else q) := by
  obtain ⟨d, hd, hl, ha⟩ := h
  obtain ⟨b, e, he, h1, h2, hb⟩ := hq
  have mul : ∀ x y : Int, x.natAbs < 10 ^ N → y.natAbs < 10 ^ M → (x * y).natAbs < 10 ^ (N + M) := fun x y hx hy => by
    rw [Int.natAbs_mul, Nat.pow_add]
    by_cases hz : x.natAbs = 0
    · rw [hz, Nat.zero_mul]; exact Nat.mul_pos (Nat.pow_pos (by decide)) (Nat.pow_pos (by decide))
    · exact Nat.lt_of_lt_of_le (Nat.mul_lt_mul_of_pos_left hy (by omega)) (Nat.mul_le_mul_right _ (by omega))
  refine ⟨d * e, Int.mul_ne_zero hd he, mul d e hl h2, fun k hk => ?_⟩
  by_cases hkn : k < n
  · obtain ⟨a, h3, h4⟩ := ha k hkn
    refine ⟨a * e, mul a e h3 h2, ?_⟩
    show (if k < n then f k else q) = _
    rw [if_pos hkn, h4, Rat.divInt_mul_right he]
  · refine ⟨d * b, mul d b hl h1, ?_⟩
    show (if k < n then f k else q) = _
    rw [if_neg hkn, hb, Rat.divInt_mul_left hd]

section
variable {m : Nat} {A : Mx} {x y : Nat → Rat} {s t : St}

theorem wide_rank (h : Run upR m (wideM m A y) m s) (k : Run upR m A m t) : s.rank = t.rank :=
  (run_cols h (Nat.le_refl m) (fun i j hj => by simp [wideM, hj]) k).1
theorem wide_rank2 {z : Nat → Rat} (h : Run upR m (wideM m A y) m s) (k : Run upR m (wideM m A z) m t) : s.rank = t.rank :=
  (run_cols h (Nat.le_refl m) (fun i j hj => by simp [wideM, hj]) k).1

theorem wide_sum (i : Nat) (z : Nat → Rat) (hz : z m = -1) : sumTo (m + 1) (fun k => wideM m A y i k * z k) = sumTo m (fun k => A i k * z k) - y i := by
  simp only [sumTo]
  rw [hz, sumTo_congr (g := fun k => A i k * z k) (fun k hk => by simp [wideM, hk])]
  simp only [wideM, Nat.lt_irrefl, if_false]
  grind

/-- what solves the system is what the elimination gives -/
theorem solve_law (h : Run upR m (wideM m A y) m s) (hr : s.rank = m) (hx : ∀ i, i < m → sumTo m (fun j => A i j * x j) = y i) : ∀ i, i < m → x i = s.A i m / s.A i i := by
  intro i hi
  have hn : Null m (m + 1) (wideM m A y) (fun k => if k < m then x k else -1) := fun a ha => by
    rw [wide_sum a _ (by simp), sumTo_congr (g := fun k => A a k * x k) (fun k hk => by simp [hk]), hx a ha]
    grind
  have := run_solution h hr (show m < m + 1 by omega) hn (fun k h1 h2 => by omega) i hi
  simp only [hi, if_true, Nat.lt_irrefl, if_false] at this
  rw [this]; grind

/-- what the elimination gives solves the system -/
theorem solve_sum (h : Run upR m (wideM m A y) m s) (hr : s.rank = m) : ∀ i, i < m → sumTo m (fun j => A i j * (s.A j m / s.A j j)) = y i := by
  intro i hi
  have := run_solves h hr i hi
  rw [wide_sum i _ (by simp), sumTo_congr (g := fun j => A i j * (s.A j m / s.A j j)) (fun k hk => by simp [hk])] at this
  grind

theorem prod_ne {n : Nat} {d : Nat → Rat} (h : ∀ k, k < n → d k ≠ 0) : prodTo n d ≠ 0 := by
  induction n with
  | zero => exact (by decide : (1 : Rat) ≠ 0)
  | succ n ih =>
    simp only [prodTo]
    have h1 := ih (fun k hk => h k (by omega))
    have h2 := h n (by omega)
    grind

theorem det_ne (h : Run upR m A m s) (hr : s.rank = m) : detN m A ≠ 0 := by
  obtain ⟨σ, h0, h1, h2⟩ := run_sign h
  obtain ⟨d1, _⟩ := run_diag h hr
  have hp := prod_ne d1
  have e := run_detN h
  rw [if_pos hr, h2 hr] at e
  rw [e]
  grind

/-- column c replaced -/
def putC (A : Mx) (c : Nat) (y : Nat → Rat) : Mx := fun i k => if k = c then y i else A i k

theorem cramer_law (h : Run upR m A m s) (hr : s.rank = m) (hx : ∀ i, i < m → sumTo m (fun j => A i j * x j) = y i) {c : Nat} (hc : c < m) : detN m (putC A c y) = detN m A * x c := by
  rw [← cramer h hr hc x]
  refine detN_congr fun i hi k hk => ?_
  simp only [putC, mapR, colR]
  split
  · exact (hx i hi).symm
  · rfl

theorem sum_law {x2 y2 : Nat → Rat} (hx : ∀ i, i < m → sumTo m (fun j => A i j * x j) = y i) (hx2 : ∀ i, i < m → sumTo m (fun j => A i j * x2 j) = y2 i) : ∀ i, i < m → sumTo m (fun j => A i j * (x j + x2 j)) = y i + y2 i := fun i hi => by
  rw [← hx i hi, ← hx2 i hi, ← sumTo_add]
  exact sumTo_congr fun k _ => by grind
theorem mul_law {q : Rat} (hx : ∀ i, i < m → sumTo m (fun j => A i j * x j) = y i) : ∀ i, i < m → sumTo m (fun j => A i j * (q * x j)) = q * y i := fun i hi => by
  rw [← hx i hi, ← sumTo_mul]
  exact sumTo_congr fun k _ => by grind
end
end Tally

/- The example of the document: two equations. -/

namespace Tally
def eZ : Nat → Nat → Int := fun i k => if i = 0 then (if k = 0 then 2 else 1) else (if k = 0 then 1 else 3)
def eY : Nat → Int := fun i => if i = 0 then 1 else 2
def eA : Mx := fun i k => Rat.divInt (eZ i k) (max 1 ((1 : Nat) : Int))
def eB : Nat → Rat := fun i => Rat.divInt (eY i) (max 1 ((1 : Nat) : Int))
def eX : Nat → Rat := fun i => if i = 0 then Rat.divInt 1 5 else Rat.divInt 3 5

theorem eA_val : eA 0 0 = 2 ∧ eA 0 1 = 1 ∧ eA 1 0 = 1 ∧ eA 1 1 = 3 ∧ eB 0 = 1 ∧ eB 1 = 2 := by decide +kernel
theorem eX_sum : ∀ i, i < 2 → sumTo 2 (fun j => eA i j * eX j) = eB i := by decide +kernel
theorem e_rank {s : St} (h : Run upR 2 (wideM 2 eA eB) 2 s) : s.rank = 2 := by
  rcases run_kernel h (Nat.le_refl 2) with h1 | ⟨x, ⟨k, hk, hx⟩, hn⟩
  · exact h1
  · exfalso
    obtain ⟨a, b, c, d, _, _⟩ := eA_val
    have e0 := hn 0 (by decide)
    have e1 := hn 1 (by decide)
    simp only [sumTo, wideM, Nat.zero_lt_succ, Nat.one_lt_two, if_true, a, b, c, d] at e0 e1
    have h0 : x 0 = 0 := by grind
    have h1 : x 1 = 0 := by grind
    match k, hk with
    | 0, _ => exact hx h0
    | 1, _ => exact hx h1
theorem e_sol {s : St} (h : Run upR 2 (wideM 2 eA eB) 2 s) : s.A 0 2 / s.A 0 0 = Rat.divInt 1 5 ∧ s.A 1 2 / s.A 1 1 = Rat.divInt 3 5 := by
  have := solve_law h (e_rank h) eX_sum
  exact ⟨(this 0 (by decide)).symm, (this 1 (by decide)).symm⟩
theorem e_det : detN 2 eA = 5 := by decide +kernel
theorem rowD_num {d n : Nat} {z : Nat → Int} (hz : ∀ k, k < n → -32768 ≤ z k ∧ z k ≤ 32767) (hd : d ≤ 255) : RowD 5 n (fun k => Rat.divInt (z k) (max 1 (d : Int))) :=
  ⟨max 1 (d : Int), by omega, by have : (10 : Nat) ^ 5 = 100000 := by decide
                                 omega, fun k hk => ⟨z k, by have := hz k hk; have e : (10 : Nat) ^ 5 = 100000 := by decide
                                                             omega, rfl⟩⟩
theorem fewD_num {d : Nat} {z : Int} (hz : -32768 ≤ z ∧ z ≤ 32767) (hd : d ≤ 255) : FewD 5 (Rat.divInt z (max 1 (d : Int))) :=
  have e : (10 : Nat) ^ 5 = 100000 := by decide
  ⟨z, max 1 (d : Int), by omega, by omega, by omega, rfl⟩
theorem wide_rows {m n N M : Nat} {A : Mx} {y : Nat → Rat} (hA : ∀ i, i < m → RowD N n (A i)) (hy : ∀ i, i < m → FewD M (y i)) : ∀ i, i < m → RowD (N + M) (n + 1) (wideM n A y i) := fun i hi => rowD_wide (hA i hi) (hy i hi)
theorem eZ_small : ∀ i, i < 2 → ∀ k, k < 2 → -32768 ≤ eZ i k ∧ eZ i k ≤ 32767 := by decide
theorem eY_small : ∀ i, i < 2 → -32768 ≤ eY i ∧ eY i ≤ 32767 := by decide
theorem e_rows : ∀ i, i < 2 → RowD 5 2 (eA i) := fun i hi => rowD_num (d := 1) (eZ_small i hi) (by decide)
theorem e_wide : ∀ i, i < 2 → RowD 10 3 (wideM 2 eA eB i) := wide_rows e_rows (fun i hi => fewD_num (d := 1) (eY_small i hi) (by decide))
end Tally

/- Sizes of the products of small matrices and vectors. -/

namespace Tally

theorem divInt_step {s z x d e : Int} (hd : d ≠ 0) (he : e ≠ 0) : Rat.divInt s (d * e) + Rat.divInt z d * Rat.divInt x e = Rat.divInt (s + z * x) (d * e) := by
  have nz : ∀ z : Int, z ≠ 0 → (z : Rat) ≠ 0 := fun z hz h => hz (by exact_mod_cast h)
  have h1 := nz d hd
  have h2 := nz e he
  simp only [Rat.divInt_eq_div, Rat.intCast_mul, Rat.intCast_add]
  grind

theorem small_mul {z x : Int} (hz : -32768 ≤ z ∧ z ≤ 32767) (hx : -32768 ≤ x ∧ x ≤ 32767) : (z * x).natAbs ≤ 1073741824 := by
  rw [Int.natAbs_mul]
  have h1 : z.natAbs ≤ 32768 := by omega
  have h2 : x.natAbs ≤ 32768 := by omega
  exact Nat.le_trans (Nat.mul_le_mul h1 h2) (by decide)

theorem sum_num {d e n : Nat} {z x : Nat → Int} (hz : ∀ k, k < n → -32768 ≤ z k ∧ z k ≤ 32767) (hx : ∀ k, k < n → -32768 ≤ x k ∧ x k ≤ 32767) : ∀ k, k ≤ n →
    ∃ s : Int, s.natAbs ≤ k * 1073741824 ∧ sumTo k (fun j => Rat.divInt (z j) (max 1 (d : Int)) * Rat.divInt (x j) (max 1 (e : Int))) = Rat.divInt s (max 1 (d : Int) * max 1 (e : Int)) := by
  intro k
  induction k with
  | zero => intro _; exact ⟨0, by decide, by rw [Rat.zero_divInt]; rfl⟩
  | succ k ih =>
    intro hk
    obtain ⟨s, h1, h2⟩ := ih (by omega)
    have h3 := small_mul (hz k (by omega)) (hx k (by omega))
    refine ⟨s + z k * x k, by omega, ?_⟩
    simp only [sumTo]
    rw [h2, divInt_step (by omega) (by omega)]

theorem den_small {d e : Nat} (hd : d ≤ 255) (he : e ≤ 255) : (max 1 (d : Int) * max 1 (e : Int)).natAbs ≤ 65025 ∧ max 1 (d : Int) * max 1 (e : Int) ≠ 0 := by
  constructor
  · rw [Int.natAbs_mul]
    have h1 : (max 1 (d : Int)).natAbs ≤ 255 := by omega
    have h2 : (max 1 (e : Int)).natAbs ≤ 255 := by omega
    exact Nat.le_trans (Nat.mul_le_mul h1 h2) (by decide)
  · exact Int.mul_ne_zero (by omega) (by omega)

theorem sum_few {d e n : Nat} {z x : Nat → Int} (hn : n ≤ 64) (hd : d ≤ 255) (he : e ≤ 255) (hz : ∀ k, k < n → -32768 ≤ z k ∧ z k ≤ 32767) (hx : ∀ k, k < n → -32768 ≤ x k ∧ x k ≤ 32767) : ∀ k, k ≤ n →
    FewD 11 (sumTo k (fun j => Rat.divInt (z j) (max 1 (d : Int)) * Rat.divInt (x j) (max 1 (e : Int)))) := by
  intro k hk
  obtain ⟨s, h1, h2⟩ := sum_num (d := d) (e := e) hz hx k hk
  have e11 : (10 : Nat) ^ 11 = 100000000000 := by decide
  obtain ⟨h3, h4⟩ := den_small hd he
  exact ⟨s, _, h4, by omega, by omega, h2⟩
theorem FewD.fw {N : Nat} {q : Rat} (h : FewD N q) : Fw N q := by
  obtain ⟨a, e, h1, h2, h3, rfl⟩ := h
  exact fw_divInt h1 h2 h3
theorem FewD.mono {N M : Nat} {q : Rat} (h : FewD N q) (hm : N ≤ M) : FewD M q := by
  obtain ⟨a, e, h1, h2, h3, rfl⟩ := h
  have hp : 10 ^ N ≤ 10 ^ M := Nat.pow_le_pow_right (by decide) hm
  exact ⟨a, e, h1, by omega, by omega, rfl⟩
theorem mul_lt_pow {N M : Nat} {x y : Int} (hx : x.natAbs < 10 ^ N) (hy : y.natAbs < 10 ^ M) : (x * y).natAbs < 10 ^ (N + M) := by
  rw [Int.natAbs_mul, Nat.pow_add]
  by_cases hz : x.natAbs = 0
  · rw [hz, Nat.zero_mul]; exact Nat.mul_pos (Nat.pow_pos (by decide)) (Nat.pow_pos (by decide))
  · exact Nat.lt_of_lt_of_le (Nat.mul_lt_mul_of_pos_left hy (by omega)) (Nat.mul_le_mul_right _ (by omega))
theorem FewD.mul {N M : Nat} {p q : Rat} (h : FewD N p) (k : FewD M q) : FewD (N + M) (p * q) := by
  obtain ⟨a, e, h1, h2, h3, rfl⟩ := h
  obtain ⟨b, f, k1, k2, k3, rfl⟩ := k
  exact ⟨a * b, e * f, Int.mul_ne_zero h1 k1, mul_lt_pow h2 k2, mul_lt_pow h3 k3, by rw [Rat.divInt_mul_divInt]⟩
theorem FewD.add {N M : Nat} {p q : Rat} (h : FewD N p) (k : FewD M q) : FewD (N + M + 1) (p + q) := by
  obtain ⟨a, e, h1, h2, h3, rfl⟩ := h
  obtain ⟨b, f, k1, k2, k3, rfl⟩ := k
  have l1 := mul_lt_pow h2 k3
  have l2 := mul_lt_pow h3 k2
  have l3 := mul_lt_pow h3 k3
  have e1 : (10 : Nat) ^ (N + M + 1) = 10 * 10 ^ (N + M) := by rw [Nat.pow_succ]; omega
  refine ⟨a * f + e * b, e * f, Int.mul_ne_zero h1 k1, by omega, by omega, ?_⟩
  have nz : ∀ z : Int, z ≠ 0 → (z : Rat) ≠ 0 := fun z hz h => hz (by exact_mod_cast h)
  have n1 := nz e h1
  have n2 := nz f k1
  simp only [Rat.divInt_eq_div, Rat.intCast_mul, Rat.intCast_add]
  grind
end Tally

/- Plain laws for the rule of determinants, for sums and for multiples. -/

namespace Tally
section
variable {m : Nat} {A : Mx} {x y : Nat → Rat} {s t : St}

theorem wide_at {i k : Nat} (hk : k < m) : wideM m A y i k = A i k := by simp [wideM, hk]
theorem wide_det : detN m (wideM m A y) = detN m A := detN_congr fun _ _ _ hk => wide_at hk
theorem wide_ne (h : Run upR m (wideM m A y) m s) (hr : s.rank = m) : detN m A ≠ 0 := wide_det (y := y) ▸ det_ne h hr
theorem wide_cramer (h : Run upR m (wideM m A y) m s) (hr : s.rank = m) {c : Nat} (hc : c < m) : detN m (putC A c y) = detN m A * (s.A c m / s.A c c) := by
  have e := cramer_law (A := wideM m A y) (x := fun j => s.A j m / s.A j j) (y := y) h hr (fun i hi => by
    rw [sumTo_congr (g := fun j => A i j * (s.A j m / s.A j j)) (fun k hk => by rw [wide_at hk])]
    exact solve_sum h hr i hi) hc
  rw [wide_det] at e
  rw [← e]
  refine detN_congr fun i _ k hk => ?_
  simp only [putC]
  split
  · rfl
  · exact (wide_at hk).symm
theorem wide_fw {N : Nat} (h : Run upR m (wideM m A y) m s) (hr : s.rank = m) (hN : ∀ i, i < m → RowD N (m + 1) (wideM m A y i)) : Fw (dgs N m + 1) (detN m A) := by
  have e := run_detN h
  rw [if_pos hr, wide_det] at e
  rw [e]
  exact run_det (fun _ _ _ _ h1 h2 h3 h4 => rows_up h1 h2 h3 h4) h (Nat.le_succ m) hN
theorem sol_fw {N : Nat} (h : Run upR m (wideM m A y) m s) (hr : s.rank = m) (hN : ∀ i, i < m → RowD N (m + 1) (wideM m A y i)) : ∀ i, i < m → Fw (dgs N m) (s.A i m / s.A i i) := by
  intro i hi
  have h1 := run_rows_up h (Nat.le_succ m) hN i hi
  exact (rowD_norm (show i < m + 1 by omega) h1 ((run_diag h hr).1 i hi)).fw (show m < m + 1 by omega)
theorem putC_rows {N M c : Nat} (hA : ∀ i, i < m → RowD N m (A i)) (hy : ∀ i, i < m → FewD M (y i)) : ∀ i, i < m → RowD (N + M) m (putC A c y i) := by
  intro i hi
  obtain ⟨d, hd, hl, ha⟩ := hA i hi
  obtain ⟨b, e, he, h1, h2, hb⟩ := hy i hi
  refine ⟨d * e, Int.mul_ne_zero hd he, mul_lt_pow hl h2, fun k hk => ?_⟩
  simp only [putC]
  by_cases hkc : k = c
  · rw [if_pos hkc]
    exact ⟨d * b, mul_lt_pow hl h1, by rw [hb, Rat.divInt_mul_left hd]⟩
  · obtain ⟨a, h3, h4⟩ := ha k hk
    rw [if_neg hkc]
    exact ⟨a * e, mul_lt_pow h3 h2, by rw [h4, Rat.divInt_mul_right he]⟩
end
end Tally

/- The reference's elimination, element by element. -/

namespace Tally
section
variable {A : Mx} {r c a k i j m n : Nat}
def divIn (A : Mx) (r c k : Nat) : Mx := fun i j => if i = r ∧ j < k then A r j / A r c else A i j
def clrIn (A : Mx) (r c a k : Nat) : Mx := fun i j => if i = r then A r j / A r c else if i < a ∨ (i = a ∧ j < k) then A i j - A i c * (A r j / A r c) else A i j
theorem divIn_start : divIn A r c 0 = A := by
  funext i j; simp [divIn]
theorem divIn_here (h : k ≤ j) : divIn A r c k r j = A r j := by
  unfold divIn; rw [if_neg (by omega)]
theorem divIn_other (h : i ≠ r) : divIn A r c k i j = A i j := by
  unfold divIn; rw [if_neg (fun q => h q.1)]
theorem divIn_put : (fun x y => if x = r ∧ y = k then A r k / A r c else divIn A r c k x y) = divIn A r c (k + 1) := by
  funext x y
  unfold divIn
  by_cases h : x = r ∧ y = k
  · obtain ⟨rfl, rfl⟩ := h
    simp
  · rw [if_neg h]
    by_cases h2 : x = r ∧ y < k
    · rw [if_pos h2, if_pos (by omega)]
    · rw [if_neg h2, if_neg (by omega)]
theorem divIn_done (hj : j < n) : divIn A r c n i j = clrIn A r c 0 0 i j := by
  unfold divIn clrIn
  by_cases h : i = r
  · subst h; simp [hj]
  · simp [h]
theorem clrIn_row : clrIn A r c a k r j = A r j / A r c := by simp [clrIn]
theorem clrIn_here (h : a ≠ r) (hk : k ≤ j) : clrIn A r c a k a j = A a j := by
  unfold clrIn; rw [if_neg h, if_neg (by omega)]
theorem clrIn_put (h : a ≠ r) : (fun x y => if x = a ∧ y = k then A a k - A a c * (A r k / A r c) else clrIn A r c a k x y) = clrIn A r c a (k + 1) := by
  funext x y
  unfold clrIn
  by_cases h1 : x = a ∧ y = k
  · obtain ⟨rfl, rfl⟩ := h1
    simp [h]
  · rw [if_neg h1]
    by_cases h2 : x = r
    · rw [if_pos h2, if_pos h2]
    · rw [if_neg h2, if_neg h2]
      by_cases h3 : x < a ∨ (x = a ∧ y < k)
      · rw [if_pos h3, if_pos (by omega)]
      · rw [if_neg h3, if_neg (by omega)]
theorem clrIn_next (hj : j < n) : clrIn A r c a n i j = clrIn A r c (a + 1) 0 i j := by
  unfold clrIn
  by_cases h2 : i = r
  · rw [if_pos h2, if_pos h2]
  · rw [if_neg h2, if_neg h2]
    by_cases h3 : i < a ∨ (i = a ∧ j < n)
    · rw [if_pos h3, if_pos (by omega)]
    · rw [if_neg h3, if_neg (by omega)]
theorem clrIn_pivot : clrIn A r c r 0 i j = clrIn A r c (r + 1) 0 i j := by
  unfold clrIn
  by_cases h2 : i = r
  · rw [if_pos h2, if_pos h2]
  · rw [if_neg h2, if_neg h2]
    by_cases h3 : i < r ∨ (i = r ∧ j < 0)
    · rw [if_pos h3, if_pos (by omega)]
    · rw [if_neg h3, if_neg (by omega)]
theorem clrIn_zero (h : A a c = 0) : clrIn A r c a 0 i j = clrIn A r c (a + 1) 0 i j := by
  unfold clrIn
  by_cases h2 : i = r
  · rw [if_pos h2, if_pos h2]
  · rw [if_neg h2, if_neg h2]
    by_cases h3 : i < a ∨ (i = a ∧ j < 0)
    · rw [if_pos h3, if_pos (by omega)]
    · rw [if_neg h3]
      by_cases h4 : i = a
      · subst h4
        rw [if_pos (by omega), h]; grind
      · rw [if_neg (by omega)]
theorem clrIn_done (hi : i < m) : clrIn A r c m 0 i j = normR A r c i j := by
  unfold clrIn normR
  by_cases h2 : i = r
  · subst h2; simp
  · rw [if_neg h2, if_neg h2, if_pos (by omega)]
theorem run_fill {f : Mx → Nat → Nat → Mx} {s : St} (h : Run f m A c s) (hr : s.rank = m) : ∀ d, Run f m A (c + d) s := by
  intro d
  induction d with
  | zero => exact h
  | succ d ih => exact Run.succ ih (IsStep.none fun j h1 h2 => by omega)
theorem run_fill_to {f : Mx → Nat → Nat → Mx} {s : St} {e : Nat} (h : Run f m A c s) (hr : s.rank = m) (he : c ≤ e) : Run f m A e s := by
  have := run_fill h hr (e - c)
  rwa [show c + (e - c) = e by omega] at this
end
end Tally

/- The reference's elimination: runs exist, and leave ones on the diagonal. -/

namespace Tally
section
variable {f : Mx → Nat → Nat → Mx} {m c n : Nat} {A : Mx} {s t : St} {y : Nat → Rat}

theorem least_ne {r m : Nat} (g : Nat → Rat) : (∀ j, r ≤ j → j < m → g j = 0) ∨ ∃ i, r ≤ i ∧ i < m ∧ (∀ j, r ≤ j → j < i → g j = 0) ∧ g i ≠ 0 := by
  induction m with
  | zero => exact .inl fun j _ h => absurd h (Nat.not_lt_zero _)
  | succ m ih =>
    rcases ih with h | ⟨i, h1, h2, h3, h4⟩
    · by_cases hr : r ≤ m
      · by_cases hz : g m = 0
        · refine .inl fun j h1 h2 => ?_
          by_cases e : j = m
          · rw [e]; exact hz
          · exact h j h1 (by omega)
        · exact .inr ⟨m, hr, by omega, h, hz⟩
      · exact .inl fun j h1 h2 => by omega
    · exact .inr ⟨i, h1, by omega, h3, h4⟩
theorem run_exists (f : Mx → Nat → Nat → Mx) (m : Nat) (A : Mx) : ∀ c, ∃ s, Run f m A c s := by
  intro c
  induction c with
  | zero => exact ⟨_, Run.zero⟩
  | succ c ih =>
    obtain ⟨s, hs⟩ := ih
    rcases least_ne (r := s.rank) (m := m) (fun j => s.A j c) with h | ⟨i, h1, h2, h3, h4⟩
    · exact ⟨_, Run.succ hs (IsStep.none h)⟩
    · exact ⟨_, Run.succ hs (IsStep.piv i h1 h2 h3 h4)⟩
theorem norm_diag (h : Run normR m A c s) (hr : s.rank = c) : (∀ j, j < c → s.A j j = 1) ∧ ∀ i j, j < c → i ≠ j → s.A i j = 0 := by
  induction h with
  | zero => exact ⟨fun j hj => absurd hj (by omega), fun i j hj => absurd hj (by omega)⟩
  | @succ c s s' h e ih =>
    have hle := h.rank_le
    cases e with
    | none _ => omega
    | piv i h1 h2 h3 h4 =>
      have hrc : s.rank = c := by have : s.rank + 1 = c + 1 := hr; omega
      obtain ⟨d1, d2⟩ := ih hrc
      subst hrc
      obtain ⟨r, hrr⟩ : ∃ r, s.rank = r := ⟨_, rfl⟩
      rw [hrr] at h1 h3 h4 d1 d2 ⊢
      have p : swapR s.A i r r r = s.A i r := by
        simp only [swapR, swapI]
        by_cases e : r = i
        · rw [if_pos e, e]
        · rw [if_neg e]; simp
      have zl : ∀ a j, j < r → a ≠ j → swapR s.A i r a j = 0 := fun a j hj ha => by
        simp only [swapR, swapI]
        by_cases e : a = i
        · rw [if_pos e]; exact d2 _ _ hj (by omega)
        · rw [if_neg e]
          by_cases e2 : a = r
          · rw [if_pos e2]; exact d2 _ _ hj (by omega)
          · rw [if_neg e2]; exact d2 _ _ hj ha
      have dl : ∀ j, j < r → swapR s.A i r j j = s.A j j := fun j hj => by
        simp only [swapR, swapI]
        rw [if_neg (by omega), if_neg (by omega)]
      have p0 : swapR s.A i r r r ≠ 0 := by rw [p]; exact h4
      refine ⟨fun j hj => ?_, fun a j hj ha => ?_⟩
      · show normR _ _ _ _ _ = 1
        simp only [normR]
        by_cases e : j = r
        · subst e; rw [if_pos rfl]; grind
        · rw [if_neg e, zl r j (by omega) (by omega), dl j (by omega), d1 j (by omega)]
          grind
      · show normR _ _ _ _ _ = 0
        simp only [normR]
        by_cases hjc : j = r
        · subst hjc
          rw [if_neg ha]
          grind
        · by_cases e : a = r
          · rw [if_pos e, e, zl r j (by omega) (by omega)]; grind
          · rw [if_neg e, zl a j (by omega) ha, zl r j (by omega) (by omega)]; grind
/-- what the reference's elimination leaves beside the identity is what the program's solves -/
theorem norm_sol (h : Run upR m (wideM m A y) m s) (k : Run normR m (wideM m A y) m t) : s.rank = t.rank ∧ s.det = t.det ∧ (s.rank = m → ∀ i, i < m → t.A i m = s.A i m / s.A i i) := by
  obtain ⟨h1, h2, q, hq, h3⟩ := run_agree h t k
  refine ⟨h1, h2, fun hr i hi => ?_⟩
  have d := (norm_diag k (by omega)).1 i hi
  have e1 := h3 i m
  have e2 := h3 i i
  rw [if_pos (by omega)] at e1 e2
  rw [e1, e2, d]
  have := hq i
  grind
end
end Tally
