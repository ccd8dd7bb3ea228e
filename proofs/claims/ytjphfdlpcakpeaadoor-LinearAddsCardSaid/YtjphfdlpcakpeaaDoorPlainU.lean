/- Plain laws for the rule of determinants, for sums and for multiples. -/
import Derived.Test.YtjphfdlpcakpeaaDoorPlainT
namespace Tally
section
variable {m : Nat} {A : Mx} {x y : Nat → Rat} {s t : St}

theorem wide_at {i k : Nat} (hk : k < m) : wideM m A y i k = A i k := by simp [wideM, hk]
theorem wide_det : detN m (wideM m A y) = detN m A := detN_congr fun _ _ _ hk => wide_at hk
theorem wide_ne (h : Run upR m (wideM m A y) m s) (hr : s.rank = m) : detN m A ≠ 0 := wide_det (y := y) ▸ det_ne h hr
theorem wide_cramer (h : Run upR m (wideM m A y) m s) (hr : s.rank = m) {c : Nat} (hc : c < m) : detN m (putC A c y) = detN m A * (s.A c m / s.A c c) := by
  have e := cramer_law (A := wideM m A y) (x := fun j => s.A j m / s.A j j) (y := y) h hr (fun i hi => by
    rw [sumTo_congr (g := fun j => A i j * (s.A j m / s.A j j)) (fun k hk => by rw [wide_at hk])]
    exact solve_sum h hr i hi) hc
  rw [wide_det] at e
  rw [← e]
  refine detN_congr fun i _ k hk => ?_
  simp only [putC]
  split
  · rfl
  · exact (wide_at hk).symm
theorem wide_fw {N : Nat} (h : Run upR m (wideM m A y) m s) (hr : s.rank = m) (hN : ∀ i, i < m → RowD N (m + 1) (wideM m A y i)) : Fw (dgs N m + 1) (detN m A) := by
  have e := run_detN h
  rw [if_pos hr, wide_det] at e
  rw [e]
  exact run_det (fun _ _ _ _ h1 h2 h3 h4 => rows_up h1 h2 h3 h4) h (Nat.le_succ m) hN
theorem sol_fw {N : Nat} (h : Run upR m (wideM m A y) m s) (hr : s.rank = m) (hN : ∀ i, i < m → RowD N (m + 1) (wideM m A y i)) : ∀ i, i < m → Fw (dgs N m) (s.A i m / s.A i i) := by
  intro i hi
  have h1 := run_rows_up h (Nat.le_succ m) hN i hi
  exact (rowD_norm (show i < m + 1 by omega) h1 ((run_diag h hr).1 i hi)).fw (show m < m + 1 by omega)
theorem putC_rows {N M c : Nat} (hA : ∀ i, i < m → RowD N m (A i)) (hy : ∀ i, i < m → FewD M (y i)) : ∀ i, i < m → RowD (N + M) m (putC A c y i) := by
  intro i hi
  obtain ⟨d, hd, hl, ha⟩ := hA i hi
  obtain ⟨b, e, he, h1, h2, hb⟩ := hy i hi
  refine ⟨d * e, Int.mul_ne_zero hd he, mul_lt_pow hl h2, fun k hk => ?_⟩
  simp only [putC]
  by_cases hkc : k = c
  · rw [if_pos hkc]
    exact ⟨d * b, mul_lt_pow hl h1, by rw [hb, Rat.divInt_mul_left hd]⟩
  · obtain ⟨a, h3, h4⟩ := ha k hk
    rw [if_neg hkc]
    exact ⟨a * e, mul_lt_pow h3 h2, by rw [h4, Rat.divInt_mul_right he]⟩
end
end Tally
