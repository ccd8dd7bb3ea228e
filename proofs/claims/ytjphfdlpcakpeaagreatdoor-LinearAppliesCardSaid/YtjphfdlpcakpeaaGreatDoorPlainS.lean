/- Plain laws of a solution: of the widened matrix, of sums and multiples, of determinants. -/
import Derived.Test.YtjphfdlpcakpeaaGreatDoorPlainL
namespace Tally

/-- the matrix with an element behind each row -/
def wideM (n : Nat) (A : Mx) (y : Nat → Rat) : Mx := fun i k => if k < n then A i k else y i

/-- a number with a denominator of few digits -/
def FewD (M : Nat) (q : Rat) : Prop := ∃ a e : Int, e ≠ 0 ∧ a.natAbs < 10 ^ M ∧ e.natAbs < 10 ^ M ∧ q = Rat.divInt a e

theorem rowD_wide {N M n : Nat} {f : Nat → Rat} {q : Rat} (h : RowD N n f) (hq : FewD M q) : RowD (N + M) (n + 1) (fun k => if k < n then f k else q) := by
  obtain ⟨d, hd, hl, ha⟩ := h
  obtain ⟨b, e, he, h1, h2, hb⟩ := hq
  have mul : ∀ x y : Int, x.natAbs < 10 ^ N → y.natAbs < 10 ^ M → (x * y).natAbs < 10 ^ (N + M) := fun x y hx hy => by
    rw [Int.natAbs_mul, Nat.pow_add]
    by_cases hz : x.natAbs = 0
    · rw [hz, Nat.zero_mul]; exact Nat.mul_pos (Nat.pow_pos (by decide)) (Nat.pow_pos (by decide))
    · exact Nat.lt_of_lt_of_le (Nat.mul_lt_mul_of_pos_left hy (by omega)) (Nat.mul_le_mul_right _ (by omega))
  refine ⟨d * e, Int.mul_ne_zero hd he, mul d e hl h2, fun k hk => ?_⟩
  by_cases hkn : k < n
  · obtain ⟨a, h3, h4⟩ := ha k hkn
    refine ⟨a * e, mul a e h3 h2, ?_⟩
    show (if k < n then f k else q) = _
    rw [if_pos hkn, h4, Rat.divInt_mul_right he]
  · refine ⟨d * b, mul d b hl h1, ?_⟩
    show (if k < n then f k else q) = _
    rw [if_neg hkn, hb, Rat.divInt_mul_left hd]

section
variable {m : Nat} {A : Mx} {x y : Nat → Rat} {s t : St}

theorem wide_rank (h : Run upR m (wideM m A y) m s) (k : Run upR m A m t) : s.rank = t.rank :=
  (run_cols h (Nat.le_refl m) (fun i j hj => by simp [wideM, hj]) k).1
theorem wide_rank2 {z : Nat → Rat} (h : Run upR m (wideM m A y) m s) (k : Run upR m (wideM m A z) m t) : s.rank = t.rank :=
  (run_cols h (Nat.le_refl m) (fun i j hj => by simp [wideM, hj]) k).1

theorem wide_sum (i : Nat) (z : Nat → Rat) (hz : z m = -1) : sumTo (m + 1) (fun k => wideM m A y i k * z k) = sumTo m (fun k => A i k * z k) - y i := by
  simp only [sumTo]
  rw [hz, sumTo_congr (g := fun k => A i k * z k) (fun k hk => by simp [wideM, hk])]
  simp only [wideM, Nat.lt_irrefl, if_false]
  grind

/-- what solves the system is what the elimination gives -/
theorem solve_law (h : Run upR m (wideM m A y) m s) (hr : s.rank = m) (hx : ∀ i, i < m → sumTo m (fun j => A i j * x j) = y i) : ∀ i, i < m → x i = s.A i m / s.A i i := by
  intro i hi
  have hn : Null m (m + 1) (wideM m A y) (fun k => if k < m then x k else -1) := fun a ha => by
    rw [wide_sum a _ (by simp), sumTo_congr (g := fun k => A a k * x k) (fun k hk => by simp [hk]), hx a ha]
    grind
  have := run_solution h hr (show m < m + 1 by omega) hn (fun k h1 h2 => by omega) i hi
  simp only [hi, if_true, Nat.lt_irrefl, if_false] at this
  rw [this]; grind

/-- what the elimination gives solves the system -/
theorem solve_sum (h : Run upR m (wideM m A y) m s) (hr : s.rank = m) : ∀ i, i < m → sumTo m (fun j => A i j * (s.A j m / s.A j j)) = y i := by
  intro i hi
  have := run_solves h hr i hi
  rw [wide_sum i _ (by simp), sumTo_congr (g := fun j => A i j * (s.A j m / s.A j j)) (fun k hk => by simp [hk])] at this
  grind

theorem prod_ne {n : Nat} {d : Nat → Rat} (h : ∀ k, k < n → d k ≠ 0) : prodTo n d ≠ 0 := by
  induction n with
  | zero => exact (by decide : (1 : Rat) ≠ 0)
  | succ n ih =>
    simp only [prodTo]
    have h1 := ih (fun k hk => h k (by omega))
    have h2 := h n (by omega)
    grind

theorem det_ne (h : Run upR m A m s) (hr : s.rank = m) : detN m A ≠ 0 := by
  obtain ⟨σ, h0, h1, h2⟩ := run_sign h
  obtain ⟨d1, _⟩ := run_diag h hr
  have hp := prod_ne d1
  have e := run_detN h
  rw [if_pos hr, h2 hr] at e
  rw [e]
  grind

/-- column c replaced -/
def putC (A : Mx) (c : Nat) (y : Nat → Rat) : Mx := fun i k => if k = c then y i else A i k

theorem cramer_law (h : Run upR m A m s) (hr : s.rank = m) (hx : ∀ i, i < m → sumTo m (fun j => A i j * x j) = y i) {c : Nat} (hc : c < m) : detN m (putC A c y) = detN m A * x c := by
  rw [← cramer h hr hc x]
  refine detN_congr fun i hi k hk => ?_
  simp only [putC, mapR, colR]
  split
  · exact (hx i hi).symm
  · rfl

theorem sum_law {x2 y2 : Nat → Rat} (hx : ∀ i, i < m → sumTo m (fun j => A i j * x j) = y i) (hx2 : ∀ i, i < m → sumTo m (fun j => A i j * x2 j) = y2 i) : ∀ i, i < m → sumTo m (fun j => A i j * (x j + x2 j)) = y i + y2 i := fun i hi => by
  rw [← hx i hi, ← hx2 i hi, ← sumTo_add]
  exact sumTo_congr fun k _ => by grind
theorem mul_law {q : Rat} (hx : ∀ i, i < m → sumTo m (fun j => A i j * x j) = y i) : ∀ i, i < m → sumTo m (fun j => A i j * (q * x j)) = q * y i := fun i hi => by
  rw [← hx i hi, ← sumTo_mul]
  exact sumTo_congr fun k _ => by grind
end
end Tally
