/- The example of the document: two equations. -/
import Derived.Test.YtjphfdlpcakpeaaGreatDoorPlainS
namespace Tally
def eZ : Nat → Nat → Int := fun i k => if i = 0 then (if k = 0 then 2 else 1) else (if k = 0 then 1 else 3)
def eY : Nat → Int := fun i => if i = 0 then 1 else 2
def eA : Mx := fun i k => Rat.divInt (eZ i k) (max 1 ((1 : Nat) : Int))
def eB : Nat → Rat := fun i => Rat.divInt (eY i) (max 1 ((1 : Nat) : Int))
def eX : Nat → Rat := fun i => if i = 0 then Rat.divInt 1 5 else Rat.divInt 3 5

theorem eA_val : eA 0 0 = 2 ∧ eA 0 1 = 1 ∧ eA 1 0 = 1 ∧ eA 1 1 = 3 ∧ eB 0 = 1 ∧ eB 1 = 2 := by decide +kernel
theorem eX_sum : ∀ i, i < 2 → sumTo 2 (fun j => eA i j * eX j) = eB i := by decide +kernel
theorem e_rank {s : St} (h : Run upR 2 (wideM 2 eA eB) 2 s) : s.rank = 2 := by
  rcases run_kernel h (Nat.le_refl 2) with h1 | ⟨x, ⟨k, hk, hx⟩, hn⟩
  · exact h1
  · exfalso
    obtain ⟨a, b, c, d, _, _⟩ := eA_val
    have e0 := hn 0 (by decide)
    have e1 := hn 1 (by decide)
    simp only [sumTo, wideM, Nat.zero_lt_succ, Nat.one_lt_two, if_true, a, b, c, d] at e0 e1
    have h0 : x 0 = 0 := by grind
    have h1 : x 1 = 0 := by grind
    match k, hk with
    | 0, _ => exact hx h0
    | 1, _ => exact hx h1
theorem e_sol {s : St} (h : Run upR 2 (wideM 2 eA eB) 2 s) : s.A 0 2 / s.A 0 0 = Rat.divInt 1 5 ∧ s.A 1 2 / s.A 1 1 = Rat.divInt 3 5 := by
  have := solve_law h (e_rank h) eX_sum
  exact ⟨(this 0 (by decide)).symm, (this 1 (by decide)).symm⟩
theorem e_det : detN 2 eA = 5 := by decide +kernel
theorem rowD_num {d n : Nat} {z : Nat → Int} (hz : ∀ k, k < n → -32768 ≤ z k ∧ z k ≤ 32767) (hd : d ≤ 255) : RowD 5 n (fun k => Rat.divInt (z k) (max 1 (d : Int))) :=
  ⟨max 1 (d : Int), by omega, by have : (10 : Nat) ^ 5 = 100000 := by decide
                                 omega, fun k hk => ⟨z k, by have := hz k hk; have e : (10 : Nat) ^ 5 = 100000 := by decide
                                                             omega, rfl⟩⟩
theorem fewD_num {d : Nat} {z : Int} (hz : -32768 ≤ z ∧ z ≤ 32767) (hd : d ≤ 255) : FewD 5 (Rat.divInt z (max 1 (d : Int))) :=
  have e : (10 : Nat) ^ 5 = 100000 := by decide
  ⟨z, max 1 (d : Int), by omega, by omega, by omega, rfl⟩
theorem wide_rows {m n N M : Nat} {A : Mx} {y : Nat → Rat} (hA : ∀ i, i < m → RowD N n (A i)) (hy : ∀ i, i < m → FewD M (y i)) : ∀ i, i < m → RowD (N + M) (n + 1) (wideM n A y i) := fun i hi => rowD_wide (hA i hi) (hy i hi)
theorem eZ_small : ∀ i, i < 2 → ∀ k, k < 2 → -32768 ≤ eZ i k ∧ eZ i k ≤ 32767 := by decide
theorem eY_small : ∀ i, i < 2 → -32768 ≤ eY i ∧ eY i ≤ 32767 := by decide
theorem e_rows : ∀ i, i < 2 → RowD 5 2 (eA i) := fun i hi => rowD_num (d := 1) (eZ_small i hi) (by decide)
theorem e_wide : ∀ i, i < 2 → RowD 10 3 (wideM 2 eA eB i) := wide_rows e_rows (fun i hi => fewD_num (d := 1) (eY_small i hi) (by decide))
end Tally
