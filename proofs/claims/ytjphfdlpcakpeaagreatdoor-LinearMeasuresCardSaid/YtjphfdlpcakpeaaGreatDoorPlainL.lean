/- Plain laws of elimination and of determinants. -/
import Derived.Test.YtjphfdlpcakpeaaGreatDoorPlainR
namespace Tally

/-- the sum of the first n -/
def sumTo : Nat → (Nat → Rat) → Rat
  | 0, _ => 0
  | n + 1, f => sumTo n f + f n

theorem sumTo_congr {n : Nat} {f g : Nat → Rat} (h : ∀ k, k < n → f k = g k) : sumTo n f = sumTo n g := by
  induction n with
  | zero => rfl
  | succ n ih => simp only [sumTo]; rw [ih (fun k hk => h k (by omega)), h n (by omega)]
theorem sumTo_zero {n : Nat} {f : Nat → Rat} (h : ∀ k, k < n → f k = 0) : sumTo n f = 0 := by
  induction n with
  | zero => rfl
  | succ n ih => simp only [sumTo]; rw [ih (fun k hk => h k (by omega)), h n (by omega)]; exact Rat.add_zero 0
theorem sumTo_add {n : Nat} (f g : Nat → Rat) : sumTo n (fun k => f k + g k) = sumTo n f + sumTo n g := by
  induction n with
  | zero => exact (Rat.add_zero 0).symm
  | succ n ih => simp only [sumTo]; rw [ih]; grind
theorem sumTo_mul {n : Nat} (c : Rat) (f : Nat → Rat) : sumTo n (fun k => c * f k) = c * sumTo n f := by
  induction n with
  | zero => exact (Rat.mul_zero c).symm
  | succ n ih => simp only [sumTo]; rw [ih]; grind
/-- one term alone -/
theorem sumTo_one {n j : Nat} {f : Nat → Rat} (hj : j < n) (h : ∀ k, k < n → k ≠ j → f k = 0) : sumTo n f = f j := by
  induction n with
  | zero => omega
  | succ n ih =>
    simp only [sumTo]
    by_cases e : j = n
    · subst e; rw [sumTo_zero (fun k hk => h k (by omega) (by omega))]; exact Rat.zero_add _
    · rw [ih (by omega) (fun k hk hn => h k (by omega) hn), h n (by omega) (fun q => e q.symm)]; exact Rat.add_zero _
/-- two terms alone -/
theorem sumTo_two {n i j : Nat} {f : Nat → Rat} (hi : i < j) (hj : j < n) (h : ∀ k, k < n → k ≠ i → k ≠ j → f k = 0) : sumTo n f = f i + f j := by
  induction n with
  | zero => omega
  | succ n ih =>
    simp only [sumTo]
    by_cases e : j = n
    · subst e; rw [sumTo_one (j := i) hi (fun k hk hn => h k (by omega) hn (by omega))]
    · rw [ih (by omega) (fun k hk h1 h2 => h k (by omega) h1 h2), h n (by omega) (by omega) (fun q => e q.symm)]; exact Rat.add_zero _

/-- a matrix of numbers; what lies outside its bounds does not matter -/
abbrev Mx := Nat → Nat → Rat

def swapI (i j a : Nat) : Nat := if a = i then j else if a = j then i else a
def swapR (A : Mx) (i j : Nat) : Mx := fun a => A (swapI i j a)
/-- row r is used to clear column c elsewhere -/
def upR (A : Mx) (r c : Nat) : Mx := fun i k => if i = r then A i k else A i k - A i c / A r c * A r k
/-- the same, and row r is divided by its element in column c -/
def normR (A : Mx) (r c : Nat) : Mx := fun i k => if i = r then A i k / A r c else A i k - A i c * (A r k / A r c)

theorem swapR_self (A : Mx) (i : Nat) : swapR A i i = A := by
  funext a; simp only [swapR, swapI]; split
  · rename_i h; rw [h]
  · rfl

/-- elimination under way: the rows, the number of pivots, the determinant so far -/
structure St where
  A : Mx
  rank : Nat
  det : Rat

/-- one column of the elimination of m rows, by a way to clear -/
inductive IsStep (f : Mx → Nat → Nat → Mx) (m c : Nat) (s : St) : St → Prop
  | none : (∀ j, s.rank ≤ j → j < m → s.A j c = 0) → IsStep f m c s s
  | piv (i : Nat) : s.rank ≤ i → i < m → (∀ j, s.rank ≤ j → j < i → s.A j c = 0) → s.A i c ≠ 0 →
      IsStep f m c s ⟨f (swapR s.A i s.rank) s.rank c, s.rank + 1, (if i = s.rank then s.det else -s.det) * s.A i c⟩

inductive Run (f : Mx → Nat → Nat → Mx) (m : Nat) (A : Mx) : Nat → St → Prop
  | zero : Run f m A 0 ⟨A, 0, 1⟩
  | succ {c : Nat} {s t : St} : Run f m A c s → IsStep f m c s t → Run f m A (c + 1) t

section
variable {f g : Mx → Nat → Nat → Mx} {m c w n : Nat} {A B : Mx} {s t : St}

theorem Run.rank_le (h : Run f m A c s) : s.rank ≤ c ∧ s.rank ≤ m := by
  induction h with
  | zero => exact ⟨Nat.le_refl _, Nat.zero_le _⟩
  | succ _ e ih =>
    cases e with
    | none _ => exact ⟨by omega, ih.2⟩
    | piv i h1 h2 _ _ => exact ⟨by show _ + 1 ≤ _; omega, by show _ + 1 ≤ _; omega⟩

/-! ### both ways to clear agree up to the pivots -/

theorem swap_scaled {i r : Nat} {q : Nat → Rat} (hi : r ≤ i) (h : ∀ a k, A a k = (if a < r then q a else 1) * B a k) (a k : Nat) :
    swapR A i r a k = (if a < r then q a else 1) * swapR B i r a k := by
  simp only [swapR, swapI]
  rw [h]
  congr 1
  by_cases e1 : a = i
  · rw [if_pos e1, if_neg (by omega), if_neg (by omega)]
  · rw [if_neg e1]
    by_cases e2 : a = r
    · rw [if_pos e2, if_neg (by omega), if_neg (by omega)]
    · rw [if_neg e2]

theorem run_agree (h : Run upR m A c s) : ∀ t, Run normR m A c t → s.rank = t.rank ∧ s.det = t.det ∧ ∃ q : Nat → Rat, (∀ i, q i ≠ 0) ∧ ∀ i k, s.A i k = (if i < s.rank then q i else 1) * t.A i k := by
  induction h with
  | zero =>
    intro t ht
    cases ht
    exact ⟨rfl, rfl, fun _ => 1, fun _ => (by decide : (1:Rat) ≠ 0), fun i k => by simp [Rat.one_mul]⟩
  | @succ c s s' h1 e1 ih =>
    intro t' ht
    cases ht with
    | @succ _ t _ h2 e2 =>
      obtain ⟨er, ed, q, hq, hA⟩ := ih _ h2
      have z : ∀ j c, s.rank ≤ j → (s.A j c = 0 ↔ t.A j c = 0) := fun j c hj => by
        rw [hA j c, if_neg (by omega), Rat.one_mul]
      cases e1 with
      | none n1 =>
        cases e2 with
        | none n2 => exact ⟨er, ed, q, hq, hA⟩
        | piv i a1 a2 a3 a4 => exact absurd ((z i _ (by omega)).1 (n1 i (by omega) a2)) a4
      | piv i a1 a2 a3 a4 =>
        cases e2 with
        | none n2 => exact absurd ((z i _ a1).2 (n2 i (by omega) a2)) a4
        | piv i' b1 b2 b3 b4 =>
          obtain rfl : i = i' := by
            rcases Nat.lt_trichotomy i i' with k | k | k
            · exact absurd ((z i _ a1).2 (b3 i (by omega) k)) a4
            · exact k
            · exact absurd ((z i' _ (by omega)).1 (a3 i' (by omega) k)) b4
          refine ⟨by show _ + 1 = _ + 1; rw [er], ?_, ?_⟩
          · show _ * _ = _ * _
            rw [hA i c, if_neg (show ¬ i < s.rank by omega), Rat.one_mul, ed, er]
          · have sc := swap_scaled (i := i) a1 hA
            rw [← er]
            have hp : swapR t.A i s.rank s.rank c = t.A i c := by simp only [swapR, swapI]; split <;> simp_all
            have hp0 : swapR t.A i s.rank s.rank c ≠ 0 := by rw [hp]; exact b4
            refine ⟨fun a => if a = s.rank then swapR t.A i s.rank s.rank c else q a, fun a => ?_, fun a k => ?_⟩
            · show (if a = s.rank then _ else _) ≠ 0
              split
              · exact hp0
              · exact hq a
            · show upR _ _ _ a k = (if a < s.rank + 1 then (if a = s.rank then _ else _) else 1) * normR _ _ _ a k
              simp only [upR, normR]
              have s1 := sc s.rank c
              have s2 := sc s.rank k
              rw [if_neg (by omega), Rat.one_mul] at s1 s2
              by_cases ha : a = s.rank
              · subst ha
                rw [if_pos rfl, if_pos (by omega), if_pos rfl, if_pos rfl, s2]
                grind
              · rw [if_neg ha, if_neg ha, if_neg ha, sc a k, sc a c, s1, s2]
                by_cases hl : a < s.rank
                · rw [if_pos hl, if_pos (by omega)]
                  grind
                · rw [if_neg hl, if_neg (by omega)]
                  grind
end
end Tally

namespace Tally

/-- x is sent to zero by the first m rows, of w elements -/
def Null (m w : Nat) (A : Mx) (x : Nat → Rat) : Prop := ∀ i, i < m → sumTo w (fun k => A i k * x k) = 0

section
variable {f : Mx → Nat → Nat → Mx} {m c w n : Nat} {A B : Mx} {s t : St} {x : Nat → Rat}

theorem swapI_lt {i j a : Nat} (hi : i < m) (hj : j < m) (ha : a < m) : swapI i j a < m := by
  unfold swapI; split
  · exact hj
  · split
    · exact hi
    · exact ha
theorem swapI_swapI (i j a : Nat) : swapI i j (swapI i j a) = a := by
  unfold swapI; split
  · rename_i h; split
    · rename_i h2; omega
    · simp [h]
  · rename_i h; split
    · rename_i h2; simp [h2]
    · rfl

theorem null_swap {i j : Nat} (hi : i < m) (hj : j < m) : Null m w (swapR A i j) x ↔ Null m w A x := by
  constructor
  · intro h a ha
    have := h (swapI i j a) (swapI_lt hi hj ha)
    simpa only [swapR, swapI_swapI] using this
  · intro h a ha
    exact h _ (swapI_lt hi hj ha)

theorem row_up {A : Mx} {i r c w : Nat} {x : Nat → Rat} (hi : i ≠ r) : sumTo w (fun k => upR A r c i k * x k) = sumTo w (fun k => A i k * x k) + (-(A i c / A r c)) * sumTo w (fun k => A r k * x k) := by
  rw [← sumTo_mul, ← sumTo_add]
  refine sumTo_congr fun k _ => ?_
  simp only [upR, if_neg hi]
  grind

theorem null_up {r : Nat} (hr : r < m) : Null m w (upR A r c) x ↔ Null m w A x := by
  have e0 : ∀ k, upR A r c r k = A r k := fun k => by simp [upR]
  constructor
  · intro h i hi
    have h0 := h r hr
    simp only [e0] at h0
    by_cases e : i = r
    · subst e; exact h0
    · have := h i hi
      rw [row_up e, h0] at this
      grind
  · intro h i hi
    by_cases e : i = r
    · subst e; simp only [e0]; exact h i hi
    · rw [row_up e, h i hi, h r hr]; grind

theorem run_null (h : Run upR m A c s) : Null m w s.A x ↔ Null m w A x := by
  induction h with
  | zero => exact Iff.rfl
  | @succ c s s' _ e ih =>
    cases e with
    | none _ => exact ih
    | piv i h1 h2 h3 h4 =>
      rw [null_up (by omega), null_swap h2 (by omega)]
      exact ih

/-- the columns that have been searched, if each had a pivot -/
theorem run_diag (h : Run upR m A c s) (hr : s.rank = c) : (∀ j, j < c → s.A j j ≠ 0) ∧ ∀ i j, j < c → i ≠ j → s.A i j = 0 := by
  induction h with
  | zero => exact ⟨fun j hj => absurd hj (by omega), fun i j hj => absurd hj (by omega)⟩
  | @succ c s s' h e ih =>
    have hle := h.rank_le
    cases e with
    | none _ => omega
    | piv i h1 h2 h3 h4 =>
      have hrc : s.rank = c := by have : s.rank + 1 = c + 1 := hr; omega
      obtain ⟨d1, d2⟩ := ih hrc
      subst hrc
      obtain ⟨r, hrr⟩ : ∃ r, s.rank = r := ⟨_, rfl⟩
      rw [hrr] at h1 h3 h4 d1 d2 ⊢
      have p : swapR s.A i r r r = s.A i r := by
        simp only [swapR, swapI]
        by_cases e : r = i
        · rw [if_pos e, e]
        · rw [if_neg e]; simp
      have zl : ∀ a j, j < r → a ≠ j → swapR s.A i r a j = 0 := fun a j hj ha => by
        simp only [swapR, swapI]
        by_cases e : a = i
        · rw [if_pos e]; exact d2 _ _ hj (by omega)
        · rw [if_neg e]
          by_cases e2 : a = r
          · rw [if_pos e2]; exact d2 _ _ hj (by omega)
          · rw [if_neg e2]; exact d2 _ _ hj ha
      have dl : ∀ j, j < r → swapR s.A i r j j = s.A j j := fun j hj => by
        simp only [swapR, swapI]
        rw [if_neg (by omega), if_neg (by omega)]
      have p0 : swapR s.A i r r r ≠ 0 := by rw [p]; exact h4
      refine ⟨fun j hj => ?_, fun a j hj ha => ?_⟩
      · show upR _ _ _ _ _ ≠ 0
        simp only [upR]
        by_cases e : j = r
        · subst e; rw [if_pos rfl]; exact p0
        · rw [if_neg e, zl r j (by omega) (by omega), dl j (by omega)]
          have := d1 j (by omega)
          grind
      · show upR _ _ _ _ _ = 0
        simp only [upR]
        by_cases hjc : j = r
        · subst hjc
          rw [if_neg ha]
          grind
        · by_cases e : a = r
          · rw [if_pos e]; exact zl _ j (by omega) ha
          · rw [if_neg e, zl a j (by omega) ha, zl r j (by omega) (by omega)]; grind

/-- either each column searched had a pivot, or the rows send a vector to zero that is not zero -/
theorem run_kernel (h : Run upR m A c s) (hc : c ≤ n) : s.rank = c ∨ ∃ x : Nat → Rat, (∃ k, k < n ∧ x k ≠ 0) ∧ Null m n A x := by
  induction h with
  | zero => exact .inl rfl
  | @succ c s s' h e ih =>
    rcases ih (by omega) with hr | hx
    · cases e with
      | piv i _ _ _ _ => left; show _ + 1 = _; omega
      | none z =>
        right
        obtain ⟨d1, d2⟩ := run_diag h hr
        refine ⟨fun k => if k < c then -(s.A k c / s.A k k) else if k = c then 1 else 0, ⟨c, by omega, ?_⟩, ?_⟩
        · show (if c < c then _ else if c = c then (1 : Rat) else 0) ≠ 0
          rw [if_neg (by omega), if_pos rfl]; decide
        · rw [← run_null h]
          intro i hi
          by_cases hic : i < c
          · rw [sumTo_two (i := i) (j := c) hic (by omega)]
            · dsimp only
              rw [if_pos hic, if_neg (by omega), if_pos rfl]
              have := d1 i hic
              grind
            · intro k hk h1 h2
              by_cases hkc : k < c
              · rw [d2 i k hkc (by omega)]; exact Rat.zero_mul _
              · dsimp only; rw [if_neg hkc, if_neg h2]; exact Rat.mul_zero _
          · refine sumTo_zero fun k hk => ?_
            by_cases hkc : k < c
            · rw [d2 i k hkc (by omega)]; exact Rat.zero_mul _
            · dsimp only
              rw [if_neg hkc]
              split
              · rename_i e; subst e; rw [z i (by omega) hi]; exact Rat.zero_mul _
              · exact Rat.mul_zero _
    · exact .inr hx

/-- with a pivot in each of n columns: the only solution -/
theorem run_solution (h : Run upR m A n s) (hr : s.rank = n) (hw : n < w) (hx : Null m w A x) (h0 : ∀ k, n < k → k < w → x k = 0) : ∀ i, i < n → x i = -(s.A i n * x n / s.A i i) := by
  intro i hi
  obtain ⟨d1, d2⟩ := run_diag h hr
  have hm := h.rank_le.2
  have e := (run_null h).2 hx i (by omega)
  rw [sumTo_two (i := i) (j := n) hi hw] at e
  · have := d1 i hi
    grind
  · intro k hk h1 h2
    by_cases hkn : k < n
    · rw [d2 i k hkn (by omega)]; exact Rat.zero_mul _
    · rw [h0 k (by omega) hk]; exact Rat.mul_zero _

/-- the solution that the elimination gives -/
theorem run_solves (h : Run upR n A n s) (hr : s.rank = n) : Null n (n + 1) A (fun k => if k < n then s.A k n / s.A k k else -1) := by
  rw [← run_null h]
  obtain ⟨d1, d2⟩ := run_diag h hr
  intro i hi
  rw [sumTo_two (i := i) (j := n) hi (by omega)]
  · dsimp only
    rw [if_pos hi, if_neg (by omega)]
    have := d1 i hi
    grind
  · intro k hk h1 h2
    rw [d2 i k (by omega) (by omega)]; exact Rat.zero_mul _

/-- only the columns searched decide about the pivots -/
theorem run_cols (h : Run upR m A c s) (hw : c ≤ w) : ∀ {B t}, (∀ i k, k < w → A i k = B i k) → Run upR m B c t → s.rank = t.rank ∧ s.det = t.det ∧ ∀ i k, k < w → s.A i k = t.A i k := by
  induction h with
  | zero => intro B t hAB ht; cases ht; exact ⟨rfl, rfl, hAB⟩
  | @succ c s s' h1 e1 ih =>
    intro B t' hAB ht
    cases ht with
    | @succ _ t _ h2 e2 =>
      obtain ⟨er, ed, hA⟩ := ih (by omega) hAB h2
      have hc : c < w := by omega
      cases e1 with
      | none n1 =>
        cases e2 with
        | none n2 => exact ⟨er, ed, hA⟩
        | piv i a1 a2 a3 a4 => exact absurd (by rw [← hA i c hc]; exact n1 i (by omega) a2) a4
      | piv i a1 a2 a3 a4 =>
        cases e2 with
        | none n2 => exact absurd (by rw [hA i c hc]; exact n2 i (by omega) a2) a4
        | piv i' b1 b2 b3 b4 =>
          obtain rfl : i = i' := by
            rcases Nat.lt_trichotomy i i' with k | k | k
            · exact absurd (by rw [hA i c hc]; exact b3 i (by omega) k) a4
            · exact k
            · exact absurd (by rw [← hA i' c hc]; exact a3 i' (by omega) k) b4
          refine ⟨by show _ + 1 = _ + 1; rw [er], ?_, ?_⟩
          · show _ * _ = _ * _
            rw [er, ed, hA i c hc]
          · intro a k hk
            have sw : ∀ a k, k < w → swapR s.A i s.rank a k = swapR t.A i t.rank a k := fun a k hk => by
              rw [er]; exact hA _ _ hk
            simp only [upR]
            rw [sw a k hk, sw a c hc, sw _ c hc, sw _ k hk, er]

end
end Tally

namespace Tally
/-- the first w elements of a row have a common denominator, and few digits over it -/
def RowD (N w : Nat) (f : Nat → Rat) : Prop := ∃ d : Int, d ≠ 0 ∧ d.natAbs < 10 ^ N ∧ ∀ k, k < w → ∃ a : Int, a.natAbs < 10 ^ N ∧ f k = Rat.divInt a d

theorem RowD.fw {N w k : Nat} {f : Nat → Rat} (h : RowD N w f) (hk : k < w) : Fw N (f k) := by
  obtain ⟨d, hd, hl, ha⟩ := h
  obtain ⟨a, h1, e⟩ := ha k hk
  rw [e]; exact fw_divInt hd h1 hl
theorem RowD.mono {N M w : Nat} {f : Nat → Rat} (h : RowD N w f) (hm : N ≤ M) : RowD M w f := by
  obtain ⟨d, hd, hl, ha⟩ := h
  have hp : 10 ^ N ≤ 10 ^ M := Nat.pow_le_pow_right (by decide) hm
  exact ⟨d, hd, by omega, fun k hk => by obtain ⟨a, h1, e⟩ := ha k hk; exact ⟨a, by omega, e⟩⟩
theorem RowD.congr {N w : Nat} {f g : Nat → Rat} (h : RowD N w f) (e : ∀ k, k < w → g k = f k) : RowD N w g := by
  obtain ⟨d, hd, hl, ha⟩ := h
  exact ⟨d, hd, hl, fun k hk => by obtain ⟨a, h1, q⟩ := ha k hk; exact ⟨a, h1, (e k hk).trans q⟩⟩

theorem up_num {a b ac bc d e : Int} (hd : d ≠ 0) (he : e ≠ 0) (hb : bc ≠ 0) :
    Rat.divInt a d - Rat.divInt ac d / Rat.divInt bc e * Rat.divInt b e = Rat.divInt (a * bc - ac * b) (d * bc) := by
  have nz : ∀ z : Int, z ≠ 0 → (z : Rat) ≠ 0 := fun z hz h => hz (by exact_mod_cast h)
  have h1 := nz d hd
  have h2 := nz e he
  have h3 := nz bc hb
  rw [Rat.divInt_eq_div, Rat.divInt_eq_div, Rat.divInt_eq_div, Rat.divInt_eq_div, Rat.divInt_eq_div, Rat.intCast_sub, Rat.intCast_mul, Rat.intCast_mul, Rat.intCast_mul]
  generalize (a : Rat) = a at *
  generalize (b : Rat) = b at *
  generalize (ac : Rat) = ac at *
  generalize (bc : Rat) = bc at *
  generalize (d : Rat) = d at *
  generalize (e : Rat) = e at *
  grind

theorem divInt_ne {a d : Int} (h : Rat.divInt a d ≠ 0) : a ≠ 0 := by
  rintro rfl; exact h (Rat.zero_divInt d)

theorem two_lt {N x y z u : Nat} (h1 : x < 10 ^ N) (h2 : y < 10 ^ N) (h3 : z < 10 ^ N) (h4 : u < 10 ^ N) : x * y + z * u < 10 ^ (2 * N + 1) := by
  have a := pw_mul h1 h2
  have b := pw_mul h3 h4
  have e : 10 ^ (2 * N + 1) = 10 * 10 ^ (N + N) := by rw [Nat.pow_succ, Nat.two_mul]; omega
  omega

theorem rowD_up {N w c : Nat} {f g : Nat → Rat} (hc : c < w) (hf : RowD N w f) (hg : RowD N w g) (h0 : g c ≠ 0) :
    RowD (2 * N + 1) w (fun k => f k - f c / g c * g k) := by
  obtain ⟨d, hd, hl, ha⟩ := hf
  obtain ⟨e, he, hm, hb⟩ := hg
  obtain ⟨ac, l1, e1⟩ := ha c hc
  obtain ⟨bc, l2, e2⟩ := hb c hc
  have hbc : bc ≠ 0 := divInt_ne (e2 ▸ h0)
  refine ⟨d * bc, Int.mul_ne_zero hd hbc, ?_, fun k hk => ?_⟩
  · rw [Int.natAbs_mul]
    have := two_lt hl l2 hl l2
    generalize d.natAbs * bc.natAbs = x at *
    omega
  · obtain ⟨a, l3, e3⟩ := ha k hk
    obtain ⟨b, l4, e4⟩ := hb k hk
    refine ⟨a * bc - ac * b, ?_, ?_⟩
    · have h1 := Int.natAbs_add_le (a * bc) (-(ac * b))
      rw [Int.natAbs_neg, Int.natAbs_mul, Int.natAbs_mul] at h1
      have := two_lt l3 l2 l1 l4
      have e : a * bc - ac * b = a * bc + -(ac * b) := by omega
      rw [e]; omega
    · show f k - f c / g c * g k = _
      rw [e1, e2, e3, e4]; exact up_num hd he hbc

theorem rowD_norm {N w c : Nat} {g : Nat → Rat} (hc : c < w) (hg : RowD N w g) (h0 : g c ≠ 0) : RowD N w (fun k => g k / g c) := by
  obtain ⟨e, he, hm, hb⟩ := hg
  obtain ⟨bc, l2, e2⟩ := hb c hc
  have hbc : bc ≠ 0 := divInt_ne (e2 ▸ h0)
  refine ⟨bc, hbc, l2, fun k hk => ?_⟩
  obtain ⟨b, l4, e4⟩ := hb k hk
  refine ⟨b, l4, ?_⟩
  have nz : ∀ z : Int, z ≠ 0 → (z : Rat) ≠ 0 := fun z hz h => hz (by exact_mod_cast h)
  have h2 := nz e he
  have h3 := nz bc hbc
  show g k / g c = _
  rw [e4, e2, Rat.divInt_eq_div, Rat.divInt_eq_div, Rat.divInt_eq_div]
  grind

/-- the digits after so many columns -/
def dgs (N : Nat) : Nat → Nat
  | 0 => N
  | c + 1 => 2 * dgs N c + 1
theorem dgs_eq (N c : Nat) : dgs N c + 1 = 2 ^ c * (N + 1) := by
  induction c with
  | zero => simp [dgs]
  | succ c ih => rw [dgs, Nat.pow_succ, Nat.mul_comm (2 ^ c) 2, Nat.mul_assoc]; omega
theorem dgs_mono (N : Nat) {c d : Nat} (h : c ≤ d) : dgs N c ≤ dgs N d := by
  induction d with
  | zero => obtain rfl : c = 0 := by omega
            exact Nat.le_refl _
  | succ d ih =>
    by_cases e : c = d + 1
    · rw [e]; exact Nat.le_refl _
    · have := ih (by omega)
      rw [dgs]; omega

/-- each row has a common denominator, all along -/
theorem swap_rows {m N w i r : Nat} {A : Mx} (hi : i < m) (hr : r < m) (h : ∀ a, a < m → RowD N w (A a)) : ∀ a, a < m → RowD N w (swapR A i r a) :=
  fun _ ha => h _ (swapI_lt hi hr ha)
theorem rows_up {m N w r c : Nat} {A : Mx} (hr : r < m) (hc : c < w) (h0 : A r c ≠ 0) (h : ∀ a, a < m → RowD N w (A a)) : ∀ a, a < m → RowD (2 * N + 1) w (upR A r c a) := by
  intro a ha
  by_cases e : a = r
  · subst e; exact ((h a ha).congr (fun k _ => by simp [upR])).mono (by omega)
  · exact (rowD_up hc (h a ha) (h r hr) h0).congr (fun k _ => by simp [upR, e])
theorem rows_norm {m N w r c : Nat} {A : Mx} (hr : r < m) (hc : c < w) (h0 : A r c ≠ 0) (h : ∀ a, a < m → RowD N w (A a)) : ∀ a, a < m → RowD (2 * N + 1) w (normR A r c a) := by
  intro a ha
  by_cases e : a = r
  · subst e; exact ((rowD_norm hc (h a ha) h0).congr (fun k _ => by simp [normR])).mono (by omega)
  · exact (rowD_up hc (h a ha) (h r hr) h0).congr (fun k _ => by simp only [normR, if_neg e]; grind)

theorem run_rows {f : Mx → Nat → Nat → Mx} {m c w N : Nat} {A : Mx} {s : St} (hf : ∀ (N : Nat) (B : Mx) (r c : Nat), r < m → c < w → B r c ≠ 0 → (∀ a, a < m → RowD N w (B a)) → ∀ a, a < m → RowD (2 * N + 1) w (f B r c a))
    (h : Run f m A c s) (hc : c ≤ w) (hA : ∀ a, a < m → RowD N w (A a)) : ∀ a, a < m → RowD (dgs N c) w (s.A a) := by
  induction h with
  | zero => exact hA
  | @succ c s s' _ e ih =>
    have ih := ih (by omega)
    cases e with
    | none _ => exact fun a ha => (ih a ha).mono (dgs_mono N (by omega))
    | piv i h1 h2 h3 h4 =>
      have p : swapR s.A i s.rank s.rank c = s.A i c := by simp only [swapR, swapI]; split <;> simp_all
      exact hf _ _ _ _ (by omega) (by omega) (by rw [p]; exact h4) (swap_rows h2 (by omega) ih)
theorem run_rows_up {m c w N : Nat} {A : Mx} {s : St} (h : Run upR m A c s) (hc : c ≤ w) (hA : ∀ a, a < m → RowD N w (A a)) : ∀ a, a < m → RowD (dgs N c) w (s.A a) :=
  run_rows (fun _ _ _ _ h1 h2 h3 h4 => rows_up h1 h2 h3 h4) h hc hA
theorem run_rows_norm {m c w N : Nat} {A : Mx} {s : St} (h : Run normR m A c s) (hc : c ≤ w) (hA : ∀ a, a < m → RowD N w (A a)) : ∀ a, a < m → RowD (dgs N c) w (s.A a) :=
  run_rows (fun _ _ _ _ h1 h2 h3 h4 => rows_norm h1 h2 h3 h4) h hc hA

/-- the digits of the determinant so far -/
theorem run_det {f : Mx → Nat → Nat → Mx} {m c w N : Nat} {A : Mx} {s : St} (hf : ∀ (N : Nat) (B : Mx) (r c : Nat), r < m → c < w → B r c ≠ 0 → (∀ a, a < m → RowD N w (B a)) → ∀ a, a < m → RowD (2 * N + 1) w (f B r c a))
    (h : Run f m A c s) (hc : c ≤ w) (hA : ∀ a, a < m → RowD N w (A a)) : Fw (dgs N c + 1) s.det := by
  induction h with
  | zero => exact ⟨by show 1 < _; rw [Nat.pow_succ]; have : 1 ≤ 10 ^ dgs N 0 := Nat.pow_pos (by decide); omega, by show 1 < _; rw [Nat.pow_succ]; have : 1 ≤ 10 ^ dgs N 0 := Nat.pow_pos (by decide); omega⟩
  | @succ c s s' h e ih =>
    have ih := ih (by omega)
    have hr := run_rows hf h (by omega) hA
    cases e with
    | none _ => exact fw_mono ih (by rw [dgs]; omega)
    | piv i h1 h2 h3 h4 =>
      refine fw_mono (fw_mul (N := dgs N c + 1) (M := dgs N c) ?_ ((hr i h2).fw (by omega))) (by rw [dgs]; omega)
      split
      · exact ih
      · exact fw_neg ih
end Tally

namespace Tally
/-- an expansion along one row -/
def ex (f : Nat → Rat) : (List Nat → Rat) → List Nat → Rat
  | _, [] => 0
  | g, c :: r => f c * g r - ex f (fun l => g (c :: l)) r
def det : List (Nat → Rat) → List Nat → Rat
  | [], _ => 1
  | f :: fs, cs => ex f (det fs) cs

theorem ex_lin_g (f : Nat → Rat) (q : Rat) : ∀ (cs : List Nat) (g h : List Nat → Rat), ex f (fun l => g l + q * h l) cs = ex f g cs + q * ex f h cs
  | [], g, h => by simp only [ex]; grind
  | c :: r, g, h => by
    simp only [ex]
    rw [ex_lin_g f q r (fun l => g (c :: l)) (fun l => h (c :: l))]
    grind
theorem ex_lin_f (f h : Nat → Rat) (q : Rat) : ∀ (cs : List Nat) (g : List Nat → Rat), ex (fun k => f k + q * h k) g cs = ex f g cs + q * ex h g cs
  | [], g => by simp only [ex]; grind
  | c :: r, g => by
    simp only [ex]
    rw [ex_lin_f f h q r]
    grind
theorem ex_zero (f : Nat → Rat) : ∀ (cs : List Nat) (g : List Nat → Rat), (∀ c ∈ cs, f c = 0) → ex f g cs = 0
  | [], g, _ => rfl
  | c :: r, g, h => by
    simp only [ex]
    rw [h c (by simp), ex_zero f r _ (fun x hx => h x (by simp [hx]))]
    grind
theorem ex_congr {f f' : Nat → Rat} : ∀ (cs : List Nat) (g g' : List Nat → Rat), (∀ c ∈ cs, f c = f' c) → (∀ l : List Nat, (∀ c ∈ l, c ∈ cs) → g l = g' l) → ex f g cs = ex f' g' cs
  | [], g, g', _, _ => rfl
  | c :: r, g, g', h, hg => by
    simp only [ex]
    rw [h c (by simp), hg r (fun x hx => by simp [hx]), ex_congr r (fun l => g (c :: l)) (fun l => g' (c :: l)) (fun x hx => h x (by simp [hx])) (fun l hl => hg _ (fun x hx => by
      rcases List.mem_cons.1 hx with e | e
      · simp [e]
      · simp [hl x e]))]
theorem ex_swap (f h : Nat → Rat) : ∀ (cs : List Nat) (g : List Nat → Rat), ex f (ex h g) cs = -ex h (ex f g) cs
  | [], g => by simp only [ex]; grind
  | c :: r, g => by
    have e : ∀ (u v : Nat → Rat), (fun l => ex u g (c :: l)) = fun l => u c * g l + (-1) * ex u (fun l => g (c :: l)) l := fun u v => by
      funext l; simp only [ex]; grind
    have k : ∀ (u v : Nat → Rat), ex v (fun l => ex u g (c :: l)) r = u c * ex v g r + (-1) * ex v (ex u (fun l => g (c :: l))) r := fun u v => by
      rw [e u v, ex_lin_g]
      have : (fun l => u c * g l) = fun l => (fun _ => (0 : Rat)) l + u c * g l := by funext l; grind
      rw [this, ex_lin_g]
      have z : ex v (fun _ => 0) r = 0 := by
        have := ex_lin_g v (-1) r (fun _ => 0) (fun _ => 0)
        have e2 : (fun l : List Nat => (fun _ => (0 : Rat)) l + -1 * (fun _ => (0 : Rat)) l) = fun _ => 0 := by funext l; grind
        rw [e2] at this
        grind
      rw [z]; grind
    show f c * ex h g r - ex f (fun l => ex h g (c :: l)) r = -(h c * ex f g r - ex h (fun l => ex f g (c :: l)) r)
    rw [k h f, k f h, ex_swap f h r (fun l => g (c :: l))]
    grind

theorem det_lin (pre post : List (Nat → Rat)) (x y : Nat → Rat) (q : Rat) : ∀ cs, det (pre ++ (fun k => x k + q * y k) :: post) cs = det (pre ++ x :: post) cs + q * det (pre ++ y :: post) cs := by
  induction pre with
  | nil => intro cs; exact ex_lin_f x y q cs _
  | cons p pre ih =>
    intro cs
    show ex p (det (pre ++ _)) cs = ex p (det (pre ++ _)) cs + q * ex p (det (pre ++ _)) cs
    rw [← ex_lin_g]
    congr 1
    funext l
    exact ih l
theorem det_adj (pre post : List (Nat → Rat)) (x y : Nat → Rat) : ∀ cs, det (pre ++ x :: y :: post) cs = -det (pre ++ y :: x :: post) cs := by
  induction pre with
  | nil => intro cs; exact ex_swap x y cs _
  | cons p pre ih =>
    intro cs
    show ex p (det (pre ++ _)) cs = -ex p (det (pre ++ _)) cs
    have e : det (pre ++ x :: y :: post) = fun l => (fun _ => (0 : Rat)) l + (-1) * det (pre ++ y :: x :: post) l := by funext l; rw [ih l]; grind
    rw [e, ex_lin_g]
    have z : ex p (fun _ => 0) cs = 0 := by
      have := ex_lin_g p (-1) cs (fun _ => 0) (fun _ => 0)
      have e2 : (fun l : List Nat => (fun _ => (0 : Rat)) l + -1 * (fun _ => (0 : Rat)) l) = fun _ => 0 := by funext l; grind
      rw [e2] at this
      grind
    rw [z]; grind
theorem det_dup (y : Nat → Rat) (post : List (Nat → Rat)) (cs : List Nat) : ∀ (mid pre : List (Nat → Rat)), det (pre ++ y :: (mid ++ y :: post)) cs = 0
  | [], pre => by
    have := det_adj pre post y y cs
    show det (pre ++ y :: y :: post) cs = 0
    grind
  | m :: mid, pre => by
    have h := det_adj pre (mid ++ y :: post) y m cs
    have ih := det_dup y post cs mid (pre ++ [m])
    rw [List.append_assoc] at ih
    show det (pre ++ y :: m :: (mid ++ y :: post)) cs = 0
    rw [h]
    show -det (pre ++ ([m] ++ y :: (mid ++ y :: post))) cs = 0
    rw [ih]; grind

theorem set_split {l : List (Nat → Rat)} {i : Nat} (hi : i < l.length) (x : Nat → Rat) : l.set i x = l.take i ++ x :: l.drop (i + 1) := by
  rw [List.set_eq_take_append_cons_drop, if_pos hi]
theorem det_set_lin {l : List (Nat → Rat)} {i : Nat} (hi : i < l.length) (x y : Nat → Rat) (q : Rat) (cs : List Nat) : det (l.set i (fun k => x k + q * y k)) cs = det (l.set i x) cs + q * det (l.set i y) cs := by
  rw [set_split hi, set_split hi, set_split hi]; exact det_lin _ _ _ _ _ _
theorem det_same {l : List (Nat → Rat)} {i j : Nat} (hij : i < j) (hj : j < l.length) (e : l[i]'(by omega) = l[j]) (cs : List Nat) : det l cs = 0 := by
  have h1 : l = l.take i ++ l[i]'(by omega) :: l.drop (i + 1) := by rw [← set_split (by omega)]; simp
  have h2 : l.drop (i + 1) = (l.drop (i + 1)).take (j - i - 1) ++ l[j] :: (l.drop (i + 1)).drop (j - i) := by
    have hl : j - i - 1 < (l.drop (i + 1)).length := by rw [List.length_drop]; omega
    have := set_split hl (l.drop (i + 1))[j - i - 1]
    rw [List.set_getElem_self] at this
    have e2 : (l.drop (i + 1))[j - i - 1] = l[j] := by rw [List.getElem_drop]; congr 1; omega
    rw [e2] at this
    rw [show j - i = j - i - 1 + 1 by omega]
    exact this
  rw [h1, h2, ← e]
  exact det_dup _ _ _ _ _

/-- the rows of a matrix -/
def rowsL (n : Nat) (A : Mx) : List (Nat → Rat) := (List.range n).map A
def detN (n : Nat) (A : Mx) : Rat := det (rowsL n A) (List.range n)
theorem rowsL_length (n : Nat) (A : Mx) : (rowsL n A).length = n := by simp [rowsL]
theorem rowsL_get {n i : Nat} {A : Mx} (h : i < (rowsL n A).length) : (rowsL n A)[i] = A i := by simp [rowsL]
def putR (A : Mx) (i : Nat) (x : Nat → Rat) : Mx := fun a => if a = i then x else A a
theorem rowsL_put (n i : Nat) (A : Mx) (x : Nat → Rat) : rowsL n (putR A i x) = (rowsL n A).set i x := by
  apply List.ext_getElem
  · simp [rowsL]
  · intro k h1 h2
    rw [rowsL_get, List.getElem_set, rowsL_get]
    unfold putR
    by_cases e : k = i
    · subst e; simp
    · rw [if_neg e, if_neg (fun q => e q.symm)]

theorem detN_lin {n i : Nat} (hi : i < n) (A : Mx) (x y : Nat → Rat) (q : Rat) : detN n (putR A i (fun k => x k + q * y k)) = detN n (putR A i x) + q * detN n (putR A i y) := by
  unfold detN
  rw [rowsL_put, rowsL_put, rowsL_put]
  exact det_set_lin (by rw [rowsL_length]; exact hi) _ _ _ _
theorem detN_same {n i j : Nat} (hij : i ≠ j) (hi : i < n) (hj : j < n) {A : Mx} (e : A i = A j) : detN n A = 0 := by
  unfold detN
  rcases Nat.lt_or_gt_of_ne hij with h | h
  · exact det_same h (by rw [rowsL_length]; exact hj) (by rw [rowsL_get, rowsL_get]; exact e) _
  · exact det_same h (by rw [rowsL_length]; exact hi) (by rw [rowsL_get, rowsL_get]; exact e.symm) _
theorem putR_self (A : Mx) (i : Nat) : putR A i (A i) = A := by
  funext a; unfold putR; split
  · rename_i h; rw [h]
  · rfl
/-- a multiple of another row is added to a row -/
theorem detN_add {n i r : Nat} (hi : i < n) (hr : r < n) (hn : i ≠ r) (A : Mx) (q : Rat) : detN n (putR A i (fun k => A i k + q * A r k)) = detN n A := by
  have h := detN_lin hi A (A i) (A r) q
  have z : detN n (putR A i (A r)) = 0 := detN_same hn hi hr (by unfold putR; rw [if_pos rfl, if_neg (fun e => hn e.symm)])
  rw [h, z, putR_self]; grind
/-- multiples of a row are added to the others -/
def addR (A : Mx) (r : Nat) (q : Nat → Rat) : Mx := fun i k => if i = r then A i k else A i k + q i * A r k
theorem detN_addR {n r : Nat} (hr : r < n) (A : Mx) (q : Nat → Rat) : detN n (addR A r q) = detN n A := by
  have step : ∀ j, j ≤ n → detN n (fun i => if i < j then addR A r q i else A i) = detN n A := by
    intro j
    induction j with
    | zero => intro _; congr 1
    | succ j ih =>
      intro hj
      rw [← ih (by omega)]
      by_cases e : j = r
      · congr 1
        funext a
        by_cases ea : a = j
        · subst ea; subst e; rw [if_pos (by omega), if_neg (by omega)]; funext k; simp [addR]
        · by_cases la : a < j
          · rw [if_pos (by omega), if_pos la]
          · rw [if_neg (by omega), if_neg la]
      · rw [← detN_add (show j < n by omega) hr e (fun i => if i < j then addR A r q i else A i) (q j)]
        congr 1
        funext a
        unfold putR
        by_cases ea : a = j
        · subst ea
          rw [if_pos (by omega), if_pos rfl]
          funext k
          have r0 : (if r < a then addR A r q r else A r) = A r := by
            split
            · funext k; simp [addR]
            · rfl
          rw [r0, if_neg (show ¬ a < a by omega)]
          simp [addR, e]
        · rw [if_neg ea]
          show _ = if a < j then addR A r q a else A a
          by_cases la : a < j
          · rw [if_pos (by omega), if_pos la]
          · rw [if_neg (by omega), if_neg la]
  have h := step n (Nat.le_refl _)
  rw [← h]
  unfold detN
  congr 1
  apply List.map_congr_left
  intro a ha
  rw [List.mem_range] at ha
  rw [if_pos ha]
theorem detN_swap {n i j : Nat} (hi : i < n) (hj : j < n) (hn : i ≠ j) (A : Mx) : detN n (swapR A i j) = -detN n A := by
  have e : ∀ x y : Nat → Rat, putR (putR A i x) j y = fun a => if a = j then y else if a = i then x else A a := fun x y => rfl
  have l1 : ∀ x y z : Nat → Rat, detN n (putR (putR A i z) j (fun k => x k + 1 * y k)) = detN n (putR (putR A i z) j x) + 1 * detN n (putR (putR A i z) j y) := fun x y z => detN_lin hj _ x y 1
  have cm : ∀ x y : Nat → Rat, putR (putR A i x) j y = putR (putR A j y) i x := fun x y => by
    funext a; unfold putR
    by_cases e1 : a = j
    · by_cases e2 : a = i
      · omega
      · simp [e1]; intro h; omega
    · by_cases e2 : a = i
      · simp [e2]; intro h; omega
      · simp [e1, e2]
  have l2 : ∀ x y z : Nat → Rat, detN n (putR (putR A i (fun k => x k + 1 * y k)) j z) = detN n (putR (putR A i x) j z) + 1 * detN n (putR (putR A i y) j z) := fun x y z => by
    rw [cm, cm, cm]; exact detN_lin hi _ x y 1
  have z : ∀ x : Nat → Rat, detN n (putR (putR A i x) j x) = 0 := fun x => detN_same hn hi hj (by unfold putR; simp [hn])
  have h1 := l1 (A i) (A j) (fun k => A i k + 1 * A j k)
  rw [z, l2, l2, z, z] at h1
  have s1 : putR (putR A i (A i)) j (A j) = A := by rw [putR_self, putR_self]
  have s2 : putR (putR A i (A j)) j (A i) = swapR A i j := by
    funext a; unfold putR swapR swapI
    by_cases e1 : a = j
    · subst e1; rw [if_pos rfl, if_neg (fun q => hn q.symm), if_pos rfl]
    · rw [if_neg e1]
      by_cases e2 : a = i
      · rw [if_pos e2, if_pos e2]
      · rw [if_neg e2, if_neg e2, if_neg e1]
  rw [s1, s2] at h1
  grind
theorem detN_congr {n : Nat} {A B : Mx} (h : ∀ i, i < n → ∀ k, k < n → A i k = B i k) : detN n A = detN n B := by
  have key : ∀ (m : List Nat), (∀ a ∈ m, a < n) → ∀ cs : List Nat, (∀ c ∈ cs, c < n) → det (m.map A) cs = det (m.map B) cs := by
    intro m
    induction m with
    | nil => intro _ cs _; rfl
    | cons a m ih =>
      intro hm cs hc
      show ex (A a) (det (m.map A)) cs = ex (B a) (det (m.map B)) cs
      exact ex_congr cs _ _ (fun c hcc => h a (hm a (by simp)) c (hc c hcc)) (fun l hl => ih (fun b hb => hm b (by simp [hb])) l (fun c hcl => hc c (hl c hcl)))
  exact key _ (fun a ha => List.mem_range.1 ha) _ (fun c hc => List.mem_range.1 hc)
theorem detN_zero {n i : Nat} (hi : i < n) {A : Mx} (h : ∀ k, k < n → A i k = 0) : detN n A = 0 := by
  have e : detN n A = detN n (putR A i (fun _ => 0)) := detN_congr (fun a _ k hk => by
    unfold putR
    by_cases q : a = i
    · rw [if_pos q, q]; exact h k hk
    · rw [if_neg q])
  have l := detN_lin hi A (fun _ => 0) (fun _ => 0) 1
  have e2 : (fun k : Nat => (fun _ : Nat => (0 : Rat)) k + 1 * (fun _ : Nat => (0 : Rat)) k) = fun _ => 0 := by funext k; grind
  rw [e2] at l
  rw [e]; grind
def prodTo : Nat → (Nat → Rat) → Rat
  | 0, _ => 1
  | n + 1, f => prodTo n f * f n
theorem prodTo_congr {n : Nat} {f g : Nat → Rat} (h : ∀ k, k < n → f k = g k) : prodTo n f = prodTo n g := by
  induction n with
  | zero => rfl
  | succ n ih => simp only [prodTo]; rw [ih (fun k hk => h k (by omega)), h n (by omega)]
theorem det_diag (d : Nat → Rat) : ∀ cs : List Nat, cs.Nodup → det (cs.map fun i k => if k = i then d i else 0) cs = cs.foldr (fun c p => d c * p) 1
  | [], _ => rfl
  | c :: r, h => by
    show ex (fun k => if k = c then d c else 0) (det (r.map fun i k => if k = i then d i else 0)) (c :: r) = d c * _
    simp only [ex]
    have z : ∀ x ∈ r, (if x = c then d c else 0) = 0 := fun x hx => if_neg (fun e => (List.nodup_cons.1 h).1 (by rw [← e]; exact hx))
    rw [ex_zero (fun k => if k = c then d c else 0) r _ z, det_diag d r (List.nodup_cons.1 h).2, if_pos trivial]
    grind
theorem foldr_prod (d : Nat → Rat) (n : Nat) : (List.range n).foldr (fun c p => d c * p) 1 = prodTo n d := by
  have key : ∀ (l : List Nat) (z : Rat), l.foldr (fun c p => d c * p) z = l.foldr (fun c p => d c * p) 1 * z := by
    intro l
    induction l with
    | nil => intro z; simp only [List.foldr]; grind
    | cons a l ih => intro z; simp only [List.foldr]; rw [ih z]; grind
  induction n with
  | zero => rfl
  | succ n ih =>
    rw [List.range_succ, List.foldr_append]
    simp only [List.foldr]
    rw [key, ih]
    simp only [prodTo]; grind
theorem detN_diag {n : Nat} {A : Mx} (d : Nat → Rat) (h : ∀ i, i < n → ∀ k, k < n → A i k = if k = i then d i else 0) : detN n A = prodTo n d := by
  rw [detN_congr (B := fun i k => if k = i then d i else 0) h, ← foldr_prod]
  exact det_diag d _ List.nodup_range
end Tally

namespace Tally
section
variable {f : Mx → Nat → Nat → Mx} {m c w n : Nat} {A B : Mx} {s t : St} {x : Nat → Rat}

/-- below the pivots the searched columns are zero -/
theorem run_low (h : Run upR m A c s) : ∀ i, s.rank ≤ i → i < m → ∀ j, j < c → s.A i j = 0 := by
  induction h with
  | zero => intro i _ _ j hj; omega
  | @succ c s s' h e ih =>
    cases e with
    | none z =>
      intro i hi hm j hj
      by_cases hjc : j = c
      · subst hjc; exact z i hi hm
      · exact ih i hi hm j (by omega)
    | piv p h1 h2 h3 h4 =>
      intro i hi hm j hj
      have hi' : s.rank + 1 ≤ i := hi
      have lowsw : ∀ a, s.rank ≤ a → a < m → ∀ j, j < c → swapR s.A p s.rank a j = 0 := fun a ha hm j hj => by
        simp only [swapR, swapI]
        by_cases e : a = p
        · rw [if_pos e]; exact ih _ (Nat.le_refl _) (by omega) j hj
        · rw [if_neg e]
          by_cases e2 : a = s.rank
          · rw [if_pos e2]; exact ih _ h1 h2 j hj
          · rw [if_neg e2]; exact ih _ ha hm j hj
      have pp : swapR s.A p s.rank s.rank c = s.A p c := by simp only [swapR, swapI]; split <;> simp_all
      show upR _ _ _ i j = 0
      simp only [upR]
      rw [if_neg (by omega)]
      by_cases hjc : j = c
      · subst hjc; rw [pp]; grind
      · rw [lowsw i (by omega) hm j (by omega), lowsw s.rank (Nat.le_refl _) (by omega) j (by omega)]; grind

/-- a map of rows that keeps sums and multiples -/
def LinR (φ : (Nat → Rat) → (Nat → Rat)) : Prop := ∀ (x y : Nat → Rat) (q : Rat), φ (fun k => x k + q * y k) = fun k => φ x k + q * φ y k
theorem lin_id : LinR fun x => x := fun _ _ _ => rfl
def mapR (φ : (Nat → Rat) → (Nat → Rat)) (A : Mx) : Mx := fun i => φ (A i)
theorem mapR_swap (φ : (Nat → Rat) → (Nat → Rat)) (A : Mx) (i j : Nat) : mapR φ (swapR A i j) = swapR (mapR φ A) i j := rfl
theorem upR_add (A : Mx) (r c : Nat) : upR A r c = addR A r (fun i => -(A i c / A r c)) := by
  funext i k
  simp only [upR, addR]
  split
  · rfl
  · grind
theorem mapR_add {φ : (Nat → Rat) → (Nat → Rat)} (hφ : LinR φ) (A : Mx) (r : Nat) (q : Nat → Rat) : mapR φ (addR A r q) = addR (mapR φ A) r q := by
  funext i k
  by_cases e : i = r
  · have : addR A r q i = A i := by funext k; simp [addR, e]
    show φ (addR A r q i) k = _
    rw [this]; simp [addR, e, mapR]
  · have : addR A r q i = fun k => A i k + q i * A r k := by funext k; simp [addR, e]
    show φ (addR A r q i) k = _
    rw [this, hφ]; simp [addR, e, mapR]

/-- the sign of the exchanges -/
theorem run_sign (h : Run upR n A c s) : ∃ σ : Rat, σ * σ = 1 ∧ (∀ φ, LinR φ → detN n (mapR φ s.A) = σ * detN n (mapR φ A)) ∧ (s.rank = c → s.det = σ * prodTo c (fun j => s.A j j)) := by
  induction h with
  | zero => exact ⟨1, Rat.mul_one 1, fun φ _ => (Rat.one_mul _).symm, fun _ => (Rat.mul_one 1).symm⟩
  | @succ c s s' h e ih =>
    obtain ⟨σ, h0, h1, h2⟩ := ih
    have hle := h.rank_le
    cases e with
    | none _ => exact ⟨σ, h0, h1, fun hr => by have : s.rank = c + 1 := hr; omega⟩
    | piv i p1 p2 p3 p4 =>
      have hrn : s.rank < n := by omega
      have dia : s.rank + 1 = c + 1 → (if i = s.rank then s.det else -s.det) * s.A i c = (if i = s.rank then σ else -σ) * prodTo (c + 1) (fun j => upR (swapR s.A i s.rank) s.rank c j j) := fun hr => by
        have hr' : s.rank = c := by omega
        have e := h2 hr'
        obtain ⟨d1, d2⟩ := run_diag h hr'
        rw [hr'] at *
        have pp : swapR s.A i c c c = s.A i c := by simp only [swapR, swapI]; split <;> simp_all
        have last : upR (swapR s.A i c) c c c c = s.A i c := by simp only [upR, if_pos]; exact pp
        have old : ∀ j, j < c → upR (swapR s.A i c) c c j j = s.A j j := fun j hj => by
          simp only [upR]
          rw [if_neg (by omega)]
          have a1 : swapR s.A i c j j = s.A j j := by simp only [swapR, swapI]; rw [if_neg (by omega), if_neg (by omega)]
          have a2 : swapR s.A i c c j = 0 := by
            simp only [swapR, swapI]
            by_cases e : c = i
            · rw [if_pos e]; exact d2 _ _ hj (by omega)
            · rw [if_neg e]; simp only [if_true]; exact d2 _ _ hj (by omega)
          rw [a1, a2]; grind
        simp only [prodTo]
        rw [last, prodTo_congr old, e]
        by_cases ei : i = c
        · rw [if_pos ei, if_pos ei]; grind
        · rw [if_neg ei, if_neg ei]; grind
      refine ⟨if i = s.rank then σ else -σ, ?_, fun φ hφ => ?_, dia⟩
      · split <;> grind
      · show detN n (mapR φ (upR (swapR s.A i s.rank) s.rank c)) = _
        rw [upR_add, mapR_add hφ, detN_addR hrn, mapR_swap]
        by_cases ei : i = s.rank
        · rw [if_pos ei, ei, swapR_self]; exact h1 φ hφ
        · rw [if_neg ei, detN_swap p2 hrn ei, h1 φ hφ]; grind

/-- what the elimination gives is the determinant -/
theorem run_detN (h : Run upR n A n s) : detN n A = if s.rank = n then s.det else 0 := by
  obtain ⟨σ, h0, h1, h2⟩ := run_sign h
  have e := h1 _ lin_id
  have e' : detN n s.A = σ * detN n A := e
  split
  · rename_i hr
    obtain ⟨d1, d2⟩ := run_diag h hr
    have : detN n s.A = prodTo n (fun j => s.A j j) := detN_diag _ (fun i hi k hk => by
      split
      · rename_i q; rw [q]
      · exact d2 i k hk (by omega))
    rw [h2 hr, ← this, e', ← Rat.mul_assoc, h0, Rat.one_mul]
  · rename_i hr
    have hle := h.rank_le
    have z : detN n s.A = 0 := detN_zero (i := s.rank) (by omega) (fun k hk => run_low h _ (Nat.le_refl _) (by omega) k hk)
    have : σ * (σ * detN n A) = 0 := by rw [← e', z]; exact Rat.mul_zero _
    rw [← Rat.mul_assoc, h0, Rat.one_mul] at this
    exact this

/-- column c replaced by the sum of the columns times x -/
def colR (n c : Nat) (x : Nat → Rat) (f : Nat → Rat) : Nat → Rat := fun k => if k = c then sumTo n (fun j => f j * x j) else f k
theorem lin_col (n c : Nat) (x : Nat → Rat) : LinR (colR n c x) := by
  intro f g q
  funext k
  simp only [colR]
  split
  · rw [← sumTo_mul, ← sumTo_add]
    refine sumTo_congr fun k _ => by grind
  · rfl

theorem prod_one {n c : Nat} (hc : c < n) (d : Nat → Rat) (q : Rat) : prodTo n (fun i => if i = c then d i * q else d i) = prodTo n d * q := by
  induction n with
  | zero => omega
  | succ n ih =>
    simp only [prodTo]
    by_cases e : c = n
    · subst e
      rw [if_pos rfl, prodTo_congr (g := d) (fun k hk => if_neg (by omega))]; grind
    · rw [ih (by omega), if_neg (show ¬ n = c by omega)]; grind

/-- the rule: the determinant with column c replaced by what x is sent to -/
theorem cramer (h : Run upR n A n s) (hr : s.rank = n) (hc : c < n) (x : Nat → Rat) : detN n (mapR (colR n c x) A) = detN n A * x c := by
  obtain ⟨σ, h0, h1, h2⟩ := run_sign h
  obtain ⟨d1, d2⟩ := run_diag h hr
  have e := h1 _ (lin_col n c x)
  have e' : detN n s.A = σ * detN n A := h1 _ lin_id
  have hd : detN n s.A = prodTo n (fun j => s.A j j) := detN_diag _ (fun i hi k hk => by
    split
    · rename_i q; rw [q]
    · exact d2 i k hk (by omega))
  have col : ∀ i, i < n → sumTo n (fun j => s.A i j * x j) = s.A i i * x i := fun i hi => sumTo_one hi (fun k hk hn => by rw [d2 i k hk (by omega)]; exact Rat.zero_mul _)
  have hm : detN n (mapR (colR n c x) s.A) = prodTo n (fun j => s.A j j) * x c := by
    by_cases h0 : x c = 0
    · rw [h0, Rat.mul_zero]
      refine detN_zero (i := c) hc fun k hk => ?_
      show (if k = c then _ else _) = (0 : Rat)
      split
      · rw [col c hc, h0]; exact Rat.mul_zero _
      · rename_i q; exact d2 c k hk (by omega)
    · rw [← prod_one hc, ← detN_addR hc (mapR (colR n c x) s.A) (fun i => -(s.A i i * x i / (s.A c c * x c)))]
      refine detN_diag _ (fun i hi k hk => ?_)
      have p := d1 c hc
      show (if i = c then colR n c x (s.A i) k else colR n c x (s.A i) k + -(s.A i i * x i / (s.A c c * x c)) * colR n c x (s.A c) k) = _
      simp only [colR]
      rw [col i hi, col c hc]
      by_cases ei : i = c
      · subst ei
        rw [if_pos rfl, if_pos rfl]
        by_cases ek : k = i
        · rw [if_pos ek, if_pos ek]
        · rw [if_neg ek, if_neg ek]; exact d2 i k hk (by omega)
      · rw [if_neg ei, if_neg ei]
        by_cases ek : k = c
        · rw [if_pos ek, if_pos ek, if_neg (by omega)]
          grind
        · rw [if_neg ek, if_neg ek, d2 c k hk (by omega)]
          by_cases eik : k = i
          · rw [if_pos eik, eik]; grind
          · rw [if_neg eik, d2 i k hk (by omega)]; grind
  rw [hm, ← hd, e'] at e
  have e3 : σ * (σ * detN n (mapR (colR n c x) A)) = σ * (σ * detN n A * x c) := by rw [← e]
  rw [← Rat.mul_assoc, h0, Rat.one_mul, ← Rat.mul_assoc, ← Rat.mul_assoc, h0, Rat.one_mul] at e3
  exact e3
end
end Tally
