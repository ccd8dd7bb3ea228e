import Derived.Test.YteionhenpehogaaGreatDoorPlainL
namespace Tally
def wideM (n : Nat) (A : Mx) (y : Nat → Rat) : Mx := fun i k => if k < n then A i k else y i
def FewD (M : Nat) (q : Rat) : Prop := ∃ a e : Int, e ≠ 0 ∧ a.natAbs < 10 ^ M ∧ e.natAbs < 10 ^ M ∧ q = Rat.divInt a e
theorem rowD_wide {N M n : Nat} {f : Nat → Rat} {q : Rat} (h : RowD N n f) (hq : FewD M q) : RowD (N + M) (n + 1) (fun k => if k < n then f k else q) := by
 obtain ⟨d, hd, hl, ha⟩ := h
 obtain ⟨b, e, he, h1, h2, hb⟩ := hq
 have mul : ∀ x y : Int, x.natAbs < 10 ^ N → y.natAbs < 10 ^ M → (x * y).natAbs < 10 ^ (N + M) := fun x y hx hy => by
  rw [Int.natAbs_mul, Nat.pow_add]
  by_cases hz : x.natAbs = 0
  ·rw [hz, Nat.zero_mul]; exact Nat.mul_pos (Nat.pow_pos (by decide)) (Nat.pow_pos (by decide))
  ·exact Nat.lt_of_lt_of_le (Nat.mul_lt_mul_of_pos_left hy (by omega)) (Nat.mul_le_mul_right _ (by omega))
 refine ⟨d * e, Int.mul_ne_zero hd he, mul d e hl h2, fun k hk => ?_⟩
 by_cases hkn : k < n
 ·obtain ⟨a, h3, h4⟩ := ha k hkn
  refine ⟨a * e, mul a e h3 h2, ?_⟩
  show (if k < n then f k else q) = _
  rw [if_pos hkn, h4, Rat.divInt_mul_right he]
 ·refine ⟨d * b, mul d b hl h1, ?_⟩
  show (if k < n then f k else q) = _
  rw [if_neg hkn, hb, Rat.divInt_mul_left hd]
section
variable {m : Nat} {A : Mx} {x y : Nat → Rat} {s t : St}
theorem wide_sum (i : Nat) (z : Nat → Rat) (hz : z m = -1) : sumTo (m + 1) (fun k => wideM m A y i k * z k) = sumTo m (fun k => A i k * z k) - y i := by
 simp only [sumTo]
 rw [hz, sumTo_congr (g := fun k => A i k * z k) (fun k hk => by simp [wideM, hk])]
 simp only [wideM, Nat.lt_irrefl, if_false]
 grind
theorem solve_law (h : Run upR m (wideM m A y) m s) (hr : s.rank = m) (hx : ∀ i, i < m → sumTo m (fun j => A i j * x j) = y i) : ∀ i, i < m → x i = s.A i m / s.A i i := by
 intro i hi
 have hn : Null m (m + 1) (wideM m A y) (fun k => if k < m then x k else -1) := fun a ha => by
  rw [wide_sum a _ (by simp), sumTo_congr (g := fun k => A a k * x k) (fun k hk => by simp [hk]), hx a ha]
  grind
 have := run_solution h hr (show m < m + 1 by omega) hn (fun k h1 h2 => by omega) i hi
 simp only [hi, if_true, Nat.lt_irrefl, if_false] at this
 rw [this]; grind
theorem solve_sum (h : Run upR m (wideM m A y) m s) (hr : s.rank = m) : ∀ i, i < m → sumTo m (fun j => A i j * (s.A j m / s.A j j)) = y i := by
 intro i hi
 have := run_solves h hr i hi
 rw [wide_sum i _ (by simp), sumTo_congr (g := fun j => A i j * (s.A j m / s.A j j)) (fun k hk => by simp [hk])] at this
 grind
end
end Tally
namespace Tally
theorem wide_rows {m n N M : Nat} {A : Mx} {y : Nat → Rat} (hA : ∀ i, i < m → RowD N n (A i)) (hy : ∀ i, i < m → FewD M (y i)) : ∀ i, i < m → RowD (N + M) (n + 1) (wideM n A y i) := fun i hi => rowD_wide (hA i hi) (hy i hi)
end Tally
namespace Tally
theorem FewD.mono {N M : Nat} {q : Rat} (h : FewD N q) (hm : N ≤ M) : FewD M q := by
 obtain ⟨a, e, h1, h2, h3, rfl⟩ := h
 have hp : 10 ^ N ≤ 10 ^ M := Nat.pow_le_pow_right (by decide) hm
 exact ⟨a, e, h1, by omega, by omega, rfl⟩
end Tally
namespace Tally
section
variable {m : Nat} {A : Mx} {x y : Nat → Rat} {s t : St}
theorem wide_at {i k : Nat} (hk : k < m) : wideM m A y i k = A i k := by simp [wideM, hk]
theorem sol_fw {N : Nat} (h : Run upR m (wideM m A y) m s) (hr : s.rank = m) (hN : ∀ i, i < m → RowD N (m + 1) (wideM m A y i)) : ∀ i, i < m → Fw (dgs N m) (s.A i m / s.A i i) := by
 intro i hi
 have h1 := run_rows_up h (Nat.le_succ m) hN i hi
 exact (rowD_norm (show i < m + 1 by omega) h1 ((run_diag h hr).1 i hi)).fw (show m < m + 1 by omega)
end
end Tally
namespace Tally
section
variable {A : Mx} {r c a k i j m n : Nat}
end
end Tally
namespace Tally
section
variable {f : Mx → Nat → Nat → Mx} {m c n : Nat} {A : Mx} {s t : St} {y : Nat → Rat}
theorem least_ne {r m : Nat} (g : Nat → Rat) : (∀ j, r ≤ j → j < m → g j = 0) ∨ ∃ i, r ≤ i ∧ i < m ∧ (∀ j, r ≤ j → j < i → g j = 0) ∧ g i ≠ 0 := by
 induction m with
 | zero => exact .inl fun j _ h => absurd h (Nat.not_lt_zero _)
 | succ m ih =>
  rcases ih with h | ⟨i, h1, h2, h3, h4⟩
  ·by_cases hr : r ≤ m
   ·by_cases hz : g m = 0
    ·refine .inl fun j h1 h2 => ?_
     by_cases e : j = m
     ·rw [e]; exact hz
     ·exact h j h1 (by omega)
    ·exact .inr ⟨m, hr, by omega, h, hz⟩
   ·exact .inl fun j h1 h2 => by omega
  ·exact .inr ⟨i, h1, by omega, h3, h4⟩
theorem run_exists (f : Mx → Nat → Nat → Mx) (m : Nat) (A : Mx) : ∀ c, ∃ s, Run f m A c s := by
 intro c
 induction c with
 | zero => exact ⟨_, Run.zero⟩
 | succ c ih =>
  obtain ⟨s, hs⟩ := ih
  rcases least_ne (r := s.rank) (m := m) (fun j => s.A j c) with h | ⟨i, h1, h2, h3, h4⟩
  ·exact ⟨_, Run.succ hs (IsStep.none h)⟩
  ·exact ⟨_, Run.succ hs (IsStep.piv i h1 h2 h3 h4)⟩
end
end Tally
