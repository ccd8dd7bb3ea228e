/- Texts put together: Plain, PlainB, PlainC, PlainD, PlainE, PlainF, PlainG, PlainH, PlainI, PlainQ. -/

/- Plain laws of limb lists: the value of a list of limbs in a base, and the uniqueness of its digits. -/

namespace Tally

/-- The value of limbs in a base, the least significant one first. -/
def val (B : Nat) : List Nat → Nat
  | [] => 0
  | x :: l => x + B * val B l

@[simp] theorem val_nil (B : Nat) : val B [] = 0 := rfl

@[simp] theorem val_cons (B x : Nat) (l : List Nat) : val B (x :: l) = x + B * val B l := rfl

theorem val_append (B : Nat) (l m : List Nat) :
    val B (l ++ m) = val B l + B ^ l.length * val B m := by
  induction l with
  | nil => simp
  | cons x l ih =>
    simp only [List.cons_append, val_cons, ih, List.length_cons, Nat.pow_succ]
    rw [Nat.mul_add, Nat.add_assoc]
    congr 2
    rw [← Nat.mul_assoc, Nat.mul_comm B]

theorem val_zeros (B n : Nat) : val B (List.replicate n 0) = 0 := by
  induction n with
  | zero => rfl
  | succ n ih => simp [List.replicate_succ, ih]

theorem val_snoc (B : Nat) (l : List Nat) (x : Nat) :
    val B (l ++ [x]) = val B l + B ^ l.length * x := by
  rw [val_append]; simp

/-- The value of one limb more. -/
theorem val_take_succ (B : Nat) (l : List Nat) (i : Nat) (h : i < l.length) :
    val B (l.take (i + 1)) = val B (l.take i) + B ^ i * l[i] := by
  rw [List.take_succ_eq_append_getElem h, val_snoc, List.length_take, Nat.min_eq_left (Nat.le_of_lt h)]

theorem val_take_drop (B : Nat) (l : List Nat) (i : Nat) (h : i ≤ l.length) :
    val B l = val B (l.take i) + B ^ i * val B (l.drop i) := by
  conv => lhs; rw [← List.take_append_drop i l]
  rw [val_append, List.length_take, Nat.min_eq_left h]

/-- Limbs under the base have a value under the power. -/
theorem val_lt (B : Nat) (l : List Nat) (h : ∀ x ∈ l, x < B) : val B l < B ^ l.length := by
  induction l with
  | nil => simp
  | cons x l ih =>
    have hx := h x (by simp)
    have hl := ih (fun y hy => h y (by simp [hy]))
    simp only [val_cons, List.length_cons, Nat.pow_succ]
    calc x + B * val B l < B + B * val B l := by omega
      _ = B * (val B l + 1) := by rw [Nat.mul_add]; omega
      _ ≤ B * B ^ l.length := Nat.mul_le_mul_left _ hl
      _ = B ^ l.length * B := Nat.mul_comm _ _

/-- Limbs in canonical form: under the base, and the last one is not zero. -/
def Canon (B : Nat) (l : List Nat) : Prop :=
  (∀ x ∈ l, x < B) ∧ (∀ h : l ≠ [], l.getLast h ≠ 0)

theorem canon_nil (B : Nat) : Canon B [] := ⟨by simp, by simp⟩

theorem Canon.tail {B x : Nat} {l : List Nat} (h : Canon B (x :: l)) : Canon B l := by
  refine ⟨fun y hy => h.1 y (by simp [hy]), fun hl => ?_⟩
  have := h.2 (by simp)
  rwa [List.getLast_cons hl] at this

/-- Canonical limbs that are not empty have a positive value. -/
theorem Canon.pos {B : Nat} {l : List Nat} (hB : 0 < B) (h : Canon B l) (hl : l ≠ []) : 0 < val B l := by
  induction l with
  | nil => exact absurd rfl hl
  | cons x l ih =>
    by_cases hl' : l = []
    · subst hl'
      have := h.2 (by simp)
      simp at this
      simp; omega
    · have := ih h.tail hl'
      have : 0 < B * val B l := Nat.mul_pos hB this
      simp; omega

/-- Canonical limbs of more limbs have the greater value. -/
theorem Canon.pow_le {B : Nat} {l : List Nat} (hB : 0 < B) (h : Canon B l) (hl : l ≠ []) :
    B ^ (l.length - 1) ≤ val B l := by
  induction l with
  | nil => exact absurd rfl hl
  | cons x l ih =>
    by_cases hl' : l = []
    · subst hl'
      have := h.pos hB hl
      simp at this ⊢
      omega
    · have h1 := ih h.tail hl'
      have h2 : 0 < l.length := List.length_pos_iff.2 hl'
      simp only [val_cons, List.length_cons, Nat.add_sub_cancel]
      calc B ^ l.length = B * B ^ (l.length - 1) := by
            conv => lhs; rw [show l.length = (l.length - 1) + 1 by omega]
            rw [Nat.pow_succ, Nat.mul_comm]
        _ ≤ B * val B l := Nat.mul_le_mul_left _ h1
        _ ≤ x + B * val B l := by omega

theorem Canon.lt_of_length {B : Nat} {l m : List Nat} (hB : 0 < B) (hl : ∀ x ∈ l, x < B) (hm : Canon B m)
    (h : l.length < m.length) : val B l < val B m := by
  have h1 := val_lt B l hl
  have hm0 : m ≠ [] := by rintro rfl; simp at h
  have h2 := hm.pow_le hB hm0
  have h3 : B ^ l.length ≤ B ^ (m.length - 1) := Nat.pow_le_pow_right hB (by omega)
  omega

/-- Two lists that agree above a place, where the first has the less limb. -/
theorem val_lt_of_place (B : Nat) (l m : List Nat) (i : Nat) (hi : i < l.length) (hm : i < m.length)
    (hl : ∀ x ∈ l, x < B) (hd : l.drop (i + 1) = m.drop (i + 1)) (h : l[i] < m[i]) : val B l < val B m := by
  rw [val_take_drop B l (i + 1) (by omega), val_take_drop B m (i + 1) (by omega), hd,
    val_take_succ B l i hi, val_take_succ B m i hm]
  have h1 := val_lt B (l.take i) (fun x hx => hl x (List.mem_of_mem_take hx))
  rw [List.length_take, Nat.min_eq_left (Nat.le_of_lt hi)] at h1
  have h2 : B ^ i * (l[i] + 1) ≤ B ^ i * m[i] := Nat.mul_le_mul_left _ h
  rw [Nat.mul_add, Nat.mul_one] at h2
  omega

/-- Limbs without the zeros at the end. -/
def trimZ (l : List Nat) : List Nat := (l.reverse.dropWhile (· == 0)).reverse

theorem trimZ_snoc_zero (l : List Nat) : trimZ (l ++ [0]) = trimZ l := by
  simp [trimZ]

theorem trimZ_snoc (l : List Nat) (x : Nat) (h : x ≠ 0) : trimZ (l ++ [x]) = l ++ [x] := by
  simp [trimZ, h]

/-- A rule for the limbs from the end. -/
theorem list_snoc_ind {α : Type} {P : List α → Prop} (h0 : P []) (h1 : ∀ l x, P l → P (l ++ [x])) : ∀ l, P l := by
  intro l
  have : ∀ m : List α, P m.reverse := by
    intro m
    induction m with
    | nil => exact h0
    | cons x m ih => rw [List.reverse_cons]; exact h1 _ _ ih
  simpa using this l.reverse

theorem val_trimZ (B : Nat) (l : List Nat) : val B (trimZ l) = val B l := by
  refine list_snoc_ind (P := fun l => val B (trimZ l) = val B l) rfl (fun l x ih => ?_) l
  by_cases hx : x = 0
  · subst hx
    rw [trimZ_snoc_zero, ih, val_snoc]; simp
  · rw [trimZ_snoc l x hx]

theorem canon_trimZ (B : Nat) (l : List Nat) (h : ∀ x ∈ l, x < B) : Canon B (trimZ l) := by
  refine list_snoc_ind (P := fun l => (∀ x ∈ l, x < B) → Canon B (trimZ l)) (fun _ => canon_nil B)
    (fun l x ih h => ?_) l h
  by_cases hx : x = 0
  · subst hx
    rw [trimZ_snoc_zero]
    exact ih (fun y hy => h y (by simp [hy]))
  · rw [trimZ_snoc l x hx]
    exact ⟨h, by simp [hx]⟩

end Tally

/- Plain steps of limb arithmetic: what one round of each loop does to the values. -/

namespace Tally

/-- A limb is changed: the value changes by the difference at its place. -/
theorem val_set (B : Nat) (l : List Nat) (i : Nat) (x : Nat) (h : i < l.length) :
    val B (l.set i x) + B ^ i * l[i] = val B l + B ^ i * x := by
  induction l generalizing i with
  | nil => simp at h
  | cons y l ih =>
    cases i with
    | zero => simp; omega
    | succ i =>
      have := ih i (by simpa using h)
      simp only [List.set_cons_succ, val_cons, List.getElem_cons_succ, Nat.pow_succ]
      have e1 : B ^ i * B * l[i]'(by simpa using h) = B * (B ^ i * l[i]'(by simpa using h)) := by
        rw [Nat.mul_comm (B ^ i) B, Nat.mul_assoc]
      have e2 : B ^ i * B * x = B * (B ^ i * x) := by rw [Nat.mul_comm (B ^ i) B, Nat.mul_assoc]
      rw [e1, e2]
      have e3 : B * val B (l.set i x) + B * (B ^ i * l[i]'(by simpa using h)) = B * val B l + B * (B ^ i * x) := by
        rw [← Nat.mul_add, ← Nat.mul_add, this]
      omega

/-- A product's limb never overflows 64 bits. -/
theorem mul_fits (x y o c : Nat) (hx : x < 1000000000) (hy : y < 1000000000) (ho : o < 1000000000) (hc : c < 1000000000) :
    x * y + o + c < 1000000000 * 1000000000 := by
  have : x * y ≤ 999999999 * 999999999 := Nat.mul_le_mul (by omega) (by omega)
  omega

theorem mul_carry (x y o c : Nat) (hx : x < 1000000000) (hy : y < 1000000000) (ho : o < 1000000000) (hc : c < 1000000000) :
    (x * y + o + c) / 1000000000 < 1000000000 :=
  Nat.div_lt_of_lt_mul (mul_fits x y o c hx hy ho hc)

/-- Knuth's theorem, part one: a guess from the first two limbs is not too small. -/
theorem guess_ge (B u1 u0 v1 : Nat) (lowU lowV D q : Nat) (hv : 0 < v1)
    (hq : q * (v1 * D + lowV) ≤ (u1 * B + u0) * D + lowU) (hU : lowU < D) : q ≤ (u1 * B + u0) / v1 := by
  rw [Nat.le_div_iff_mul_le hv]
  have h1 : q * v1 * D ≤ (u1 * B + u0) * D + lowU := by
    refine Nat.le_trans ?_ hq
    rw [Nat.mul_add, ← Nat.mul_assoc]; omega
  have h2 : q * v1 * D < (u1 * B + u0 + 1) * D := by
    rw [Nat.add_mul (u1 * B + u0) 1 D, Nat.one_mul]; omega
  have := Nat.lt_of_mul_lt_mul_right h2
  omega

end Tally

/- Plain steps of limb arithmetic, in lists: what one round of each loop does. -/

namespace Tally

theorem getD_eq {l : List Nat} {k : Nat} (h : k < l.length) : l.getD k 0 = l[k] := by
  simp [List.getD, List.getElem?_eq_getElem h]

theorem getD_out {l : List Nat} {k : Nat} (h : l.length ≤ k) : l.getD k 0 = 0 := by
  simp [List.getD, List.getElem?_eq_none h]

/-- limbs under a bound -/
def Lim (B : Nat) (l : List Nat) : Prop := ∀ x ∈ l, x < B

theorem Lim.getD {B : Nat} {l : List Nat} (h : Lim B l) (hB : 0 < B) (k : Nat) : l.getD k 0 < B := by
  by_cases hk : k < l.length
  · rw [getD_eq hk]; exact h _ (List.getElem_mem hk)
  · rw [getD_out (by omega)]; exact hB

theorem Lim.set {B : Nat} {l : List Nat} (h : Lim B l) {x : Nat} (hx : x < B) (k : Nat) : Lim B (l.set k x) := by
  intro y hy
  rcases List.mem_or_eq_of_mem_set hy with q | q
  · exact h y q
  · rw [q]; exact hx

theorem Lim.take {B : Nat} {l : List Nat} (h : Lim B l) (k : Nat) : Lim B (l.take k) := fun x hx => h x (List.mem_of_mem_take hx)
theorem Lim.drop {B : Nat} {l : List Nat} (h : Lim B l) (k : Nat) : Lim B (l.drop k) := fun x hx => h x (List.mem_of_mem_drop hx)
theorem Lim.zeros {B : Nat} (hB : 0 < B) (n : Nat) : Lim B (List.replicate n 0) := fun x hx => by
  rw [List.eq_of_mem_replicate hx]; exact hB
theorem Lim.append {B : Nat} {l m : List Nat} (h : Lim B l) (k : Lim B m) : Lim B (l ++ m) := fun x hx => by
  rcases List.mem_append.1 hx with q | q
  · exact h x q
  · exact k x q
theorem Lim.single {B x : Nat} (h : x < B) : Lim B [x] := fun y hy => by simp at hy; omega
theorem Lim.trimZ {B : Nat} {l : List Nat} (h : Lim B l) : Lim B (trimZ l) := (canon_trimZ B l h).1

theorem val_take_getD (B : Nat) (l : List Nat) (k : Nat) : val B (l.take (k + 1)) = val B (l.take k) + B ^ k * l.getD k 0 := by
  by_cases hk : k < l.length
  · rw [val_take_succ B l k hk, getD_eq hk]
  · rw [List.take_of_length_le (by omega), List.take_of_length_le (by omega), getD_out (by omega)]; simp

theorem val_set_getD (B : Nat) (l : List Nat) (k x : Nat) (h : k < l.length) : val B (l.set k x) + B ^ k * l.getD k 0 = val B l + B ^ k * x := by
  rw [getD_eq h]; exact val_set B l k x h

theorem val_drop_getD (B : Nat) (l : List Nat) (k : Nat) (h : k < l.length) : val B (l.drop k) = l.getD k 0 + B * val B (l.drop (k + 1)) := by
  rw [getD_eq h, List.drop_eq_getElem_cons h]; rfl

theorem getD_of_drop {l m : List Nat} {k : Nat} (h : l.drop k = m.drop k) (i : Nat) (hi : k ≤ i) : l.getD i 0 = m.getD i 0 := by
  have e := congrArg (fun q => q[i - k]?) h
  simp only [List.getElem?_drop, show k + (i - k) = i by omega] at e
  simp [List.getD, e]

theorem drop_set {l : List Nat} {k x : Nat} : (l.set k x).drop (k + 1) = l.drop (k + 1) := by
  rw [List.drop_set]; simp

theorem take_set {l : List Nat} {k x : Nat} : (l.set k x).take k = l.take k := by
  rw [List.take_set]; exact List.set_eq_of_length_le (by simp; omega)

/-- one limb's quotient and remainder at a place -/
theorem place_div (B P n : Nat) : P * n = P * (n % B) + P * B * (n / B) := by
  conv => lhs; rw [← Nat.mod_add_div n B]
  rw [Nat.mul_add, Nat.mul_assoc]

theorem pow_succ' (B k : Nat) : B ^ (k + 1) = B ^ k * B := Nat.pow_succ B k

/-! ### the sum -/

theorem plus_step {B : Nat} {L a b : List Nat} {k c : Nat} (hk : k < L.length) (hd : L.drop k = a.drop k)
    (h : val B L + B ^ k * c = val B a + val B (b.take k)) :
    val B (L.set k ((a.getD k 0 + c + b.getD k 0) % B)) + B ^ (k + 1) * ((a.getD k 0 + c + b.getD k 0) / B) = val B a + val B (b.take (k + 1)) := by
  have e := val_set_getD B L k ((a.getD k 0 + c + b.getD k 0) % B) hk
  rw [getD_of_drop hd k (Nat.le_refl _)] at e
  have p := place_div B (B ^ k) (a.getD k 0 + c + b.getD k 0)
  rw [val_take_getD, pow_succ']
  generalize (a.getD k 0 + c + b.getD k 0) % B = x at *
  generalize (a.getD k 0 + c + b.getD k 0) / B = y at *
  grind

/-! ### the difference -/

/-- the limb n is taken from x, with the base lent where it must be -/
theorem minus_step {B : Nat} {L a b : List Nat} {k c x c' : Nat} (hk : k < L.length) (hd : L.drop k = a.drop k)
    (h : val B L + val B (b.take k) = val B a + B ^ k * c) (hx : x + (b.getD k 0 + c) = a.getD k 0 + B * c') :
    val B (L.set k x) + val B (b.take (k + 1)) = val B a + B ^ (k + 1) * c' := by
  have e := val_set_getD B L k x hk
  rw [getD_of_drop hd k (Nat.le_refl _)] at e
  rw [val_take_getD, pow_succ']
  grind

/-! ### the product -/

theorem times_step {B : Nat} {L b : List Nat} {i k c x T : Nat} (hk : i + k < L.length)
    (h : val B L + B ^ (i + k) * c = T + B ^ i * (x * val B (b.take k))) :
    val B (L.set (i + k) ((x * b.getD k 0 + L.getD (i + k) 0 + c) % B)) + B ^ (i + (k + 1)) * ((x * b.getD k 0 + L.getD (i + k) 0 + c) / B) = T + B ^ i * (x * val B (b.take (k + 1))) := by
  have e := val_set_getD B L (i + k) ((x * b.getD k 0 + L.getD (i + k) 0 + c) % B) hk
  have p := place_div B (B ^ (i + k)) (x * b.getD k 0 + L.getD (i + k) 0 + c)
  rw [val_take_getD, show i + (k + 1) = (i + k) + 1 by omega, pow_succ']
  generalize (x * b.getD k 0 + L.getD (i + k) 0 + c) % B = m at *
  generalize (x * b.getD k 0 + L.getD (i + k) 0 + c) / B = d at *
  rw [Nat.pow_add] at *
  grind

theorem carry_step {B : Nat} {L : List Nat} {k c T : Nat} (hk : k < L.length) (h : val B L + B ^ k * c = T) :
    val B (L.set k ((L.getD k 0 + c) % B)) + B ^ (k + 1) * ((L.getD k 0 + c) / B) = T := by
  have e := val_set_getD B L k ((L.getD k 0 + c) % B) hk
  have p := place_div B (B ^ k) (L.getD k 0 + c)
  rw [pow_succ']
  generalize (L.getD k 0 + c) % B = m at *
  generalize (L.getD k 0 + c) / B = d at *
  grind

/-- a carry never stands behind the last limb -/
theorem carry_in {B n k c v T : Nat} (hc : 0 < c) (h : v + B ^ k * c = T) (hT : T < B ^ n) (hB : 0 < B) : k < n := by
  rcases Nat.lt_or_ge k n with q | q
  · exact q
  · have h1 : B ^ n ≤ B ^ k := Nat.pow_le_pow_right hB q
    have h2 : B ^ k * 1 ≤ B ^ k * c := Nat.mul_le_mul_left _ hc
    omega

theorem prod_lt {B : Nat} {a b : List Nat} (ha : Lim B a) (hb : Lim B b) (i : Nat) (hi : i ≤ a.length) : val B (a.take i) * val B b < B ^ (i + b.length) := by
  have h1 := val_lt B (a.take i) (ha.take i)
  rw [List.length_take, Nat.min_eq_left hi] at h1
  have h2 := val_lt B b hb
  rw [Nat.pow_add]
  exact Nat.mul_lt_mul'' h1 h2

/-- the product's rows so far, and one more -/
theorem rows_step {B : Nat} {a b : List Nat} {i : Nat} : val B (a.take i) * val B b + B ^ i * (a.getD i 0 * val B b) = val B (a.take (i + 1)) * val B b := by
  rw [val_take_getD, Nat.add_mul, Nat.mul_assoc]

/-! ### division by one limb -/

/-- Q holds the quotients of the places from k + 1 on; r is what is left of them -/
theorem short_step {B : Nat} {Q a : List Nat} {k r d T : Nat} (hk : k < Q.length) (h0 : Q.getD k 0 = 0)
    (h : val B Q * d + B ^ (k + 1) * r + val B (a.take (k + 1)) = T) :
    val B (Q.set k ((r * B + a.getD k 0) / d)) * d + B ^ k * ((r * B + a.getD k 0) % d) + val B (a.take k) = T := by
  have e := val_set_getD B Q k ((r * B + a.getD k 0) / d) hk
  rw [h0, Nat.mul_zero, Nat.add_zero] at e
  have p := Nat.div_add_mod (r * B + a.getD k 0) d
  rw [val_take_getD, pow_succ'] at h
  generalize (r * B + a.getD k 0) / d = x at *
  generalize (r * B + a.getD k 0) % d = y at *
  grind

end Tally

/- Plain laws of the division by digits. -/

namespace Tally

/-- one limb of the product is taken away -/
theorem digit_step {B : Nat} {L u v : List Nat} {k g p x borrow carry b' : Nat} (hk : k < L.length)
    (hp : p = carry + g * v.getD k 0) (hx : x + p % B + borrow = u.getD k 0 + B * b')
    (h : val B (L.take k) + g * val B (v.take k) = val B (u.take k) + B ^ k * (borrow + carry)) :
    val B ((L.set k x).take (k + 1)) + g * val B (v.take (k + 1)) = val B (u.take (k + 1)) + B ^ (k + 1) * (b' + p / B) := by
  have e : (L.set k x).getD k 0 = x := by simp [List.getD, hk]
  rw [val_take_getD, val_take_getD, val_take_getD, take_set, e, pow_succ']
  have q := Nat.div_add_mod p B
  generalize p / B = c' at *
  generalize p % B = m at *
  generalize v.getD k 0 = y at *
  generalize u.getD k 0 = z at *
  subst hp
  grind

/-- one limb of the divisor is added back -/
theorem back_step {B : Nat} {L M v : List Nat} {k x c : Nat} (hk : k < L.length) (hx : x = M.getD k 0 + c + v.getD k 0)
    (h : val B (L.take k) + B ^ k * c = val B (M.take k) + val B (v.take k)) :
    val B ((L.set k (x % B)).take (k + 1)) + B ^ (k + 1) * (x / B) = val B (M.take (k + 1)) + val B (v.take (k + 1)) := by
  have e : (L.set k (x % B)).getD k 0 = x % B := by simp [List.getD, hk]
  rw [val_take_getD, val_take_getD, val_take_getD, take_set, e, pow_succ']
  have q := Nat.div_add_mod x B
  generalize x / B = c' at *
  generalize x % B = m at *
  generalize v.getD k 0 = y at *
  generalize M.getD k 0 = z at *
  grind

/-- the guess that the test lets stand is at most one too large -/
theorem guess_le {B g v1 v2 lowV h3 lowU D : Nat} (hg : g < B) (hv : 0 < v1) (hl : lowV < D) (h : g * (v1 * B + v2) ≤ h3) :
    (g - 1) * ((v1 * B + v2) * D + lowV) ≤ h3 * D + lowU := by
  rcases g with _ | g
  · simp
  · have hB : B ≤ v1 * B + v2 := by
      have : 1 * B ≤ v1 * B := Nat.mul_le_mul_right B hv
      omega
    generalize v1 * B + v2 = V at *
    have h1 : g * (V * D + lowV) ≤ g * (V * D + D) := Nat.mul_le_mul_left _ (by omega)
    have h2 : g * (V * D + D) = (g * V + g) * D := by grind
    have h3' : (g * V + g) * D ≤ h3 * D := Nat.mul_le_mul_right _ (by
      have : (g + 1) * V = g * V + V := by grind
      omega)
    simp only [Nat.add_sub_cancel]
    omega

/-- a guess that the test rejects is too large -/
theorem guess_gt {B g v1 v2 lowV h3 lowU D : Nat} (hl : lowU < D) (h : h3 < g * (v1 * B + v2)) :
    h3 * D + lowU < g * ((v1 * B + v2) * D + lowV) := by
  have h1 : (h3 + 1) * D ≤ (g * (v1 * B + v2)) * D := Nat.mul_le_mul_right _ h
  have h2 : g * ((v1 * B + v2) * D + lowV) = g * (v1 * B + v2) * D + g * lowV := by grind
  rw [h2]
  have h3' : (h3 + 1) * D = h3 * D + D := by grind
  omega

/-- the test in the program's words -/
theorem guess_test {B g v1 v2 rest head u0 : Nat} (h : g * v1 + rest = head) : (g * v2 ≤ rest * B + u0 ↔ g * (v1 * B + v2) ≤ head * B + u0) := by
  subst h
  have e1 : g * (v1 * B + v2) = g * v1 * B + g * v2 := by grind
  have e2 : (g * v1 + rest) * B + u0 = g * v1 * B + (rest * B + u0) := by grind
  rw [e1, e2]
  omega

theorem digit_back {U V q M val' val2 c : Nat} (h : val' + (q + 1) * V = U + M) (h2 : val2 + M * c = val' + V) (hq : q * V ≤ U) (hU : U < (q + 1) * V) (hV : V ≤ M) (h2M : val2 < M) : val2 + q * V = U := by
  have e : (q + 1) * V = q * V + V := by grind
  rw [e] at h hU
  have h3 : val2 + M * c + q * V = U + M := by omega
  rcases c with _ | c
  · simp at h3; omega
  · rcases c with _ | c
    · simp at h3; omega
    · have : M * (c + 1 + 1) = M * c + M + M := by grind
      omega

end Tally

/- Plain laws of the division by digits: the first guess. -/

namespace Tally

theorem val_top {B : Nat} {l : List Nat} {k : Nat} (h : l.length = k + 1) : val B l = val B (l.take k) + B ^ k * l.getD k 0 := by
  have := val_take_getD B l k
  rwa [List.take_of_length_le (by omega)] at this

theorem val_low {B : Nat} {l : List Nat} {k : Nat} (h : k ≤ l.length) (hl : Lim B l) : val B (l.take k) < B ^ k := by
  have := val_lt B (l.take k) (hl.take k)
  rwa [List.length_take, Nat.min_eq_left h] at this

/-- the first two limbs -/
theorem top2 {B : Nat} {v : List Nat} {k : Nat} (h : v.length = k + 2) : val B v = (v.getD (k + 1) 0 * B + v.getD k 0) * B ^ k + val B (v.take k) := by
  rw [val_top (k := k + 1) (by omega), val_take_getD, pow_succ']
  grind

/-- the first three limbs -/
theorem top3 {B : Nat} {u : List Nat} {k : Nat} (h : u.length = k + 3) :
    val B u = ((u.getD (k + 2) 0 * B + u.getD (k + 1) 0) * B + u.getD k 0) * B ^ k + val B (u.take k) := by
  rw [val_top (k := k + 2) (by omega), val_take_getD, val_take_getD, pow_succ', pow_succ']
  grind

/-- the first guess is small -/
theorem guess_small {B head u0 v1 v2 D lowU lowV : Nat} (hlt : (head * B + u0) * D + lowU < B * ((v1 * B + v2) * D + lowV)) (hV : lowV < D) (h2 : v2 < B) (hn : B ≤ 2 * v1) (h1 : 0 < v1) :
    head / v1 ≤ B + 1 := by
  have a1 : B * ((v1 * B + v2) * D + lowV) ≤ B * ((v1 * B + v2) * D + D) := Nat.mul_le_mul_left _ (by omega)
  have a2 : B * ((v1 * B + v2) * D + D) = (B * (v1 * B + v2 + 1)) * D := by grind
  have a3 : (head * B + u0) * D < (B * (v1 * B + v2 + 1)) * D := by omega
  have a4 := Nat.lt_of_mul_lt_mul_right a3
  have a5 : head * B < (v1 * B + v2 + 1) * B := by rw [Nat.mul_comm (v1 * B + v2 + 1) B]; omega
  have a6 := Nat.lt_of_mul_lt_mul_right a5
  have a7 : head < (B + 2) * v1 := by
    have : (B + 2) * v1 = v1 * B + 2 * v1 := by grind
    omega
  have := (Nat.div_lt_iff_lt_mul h1).2 a7
  omega

end Tally

/- Plain laws of the division: the scale, the digits one by one, and the end. -/

namespace Tally

/-- the scale makes the first limb large -/
theorem norm_top {B h t : Nat} (hB : B = 2 * h) (h1 : 1 ≤ t) (ht : t < B) : h ≤ B / (t + 1) * t := by
  have p := Nat.div_add_mod B (t + 1)
  have m := Nat.mod_lt B (show 0 < t + 1 by omega)
  generalize B % (t + 1) = r at *
  generalize hs : B / (t + 1) = s at *
  rcases Nat.lt_or_ge (s * t) h with q | q
  · exfalso
    by_cases hth : t < h
    · have e1 : (t + 1) * (s * t) + r * t = B * t := by grind
      have e2 : (t + 1) * (s * t) ≤ (t + 1) * (h - 1) := Nat.mul_le_mul_left _ (by omega)
      have e3 : r * t ≤ t * t := Nat.mul_le_mul_right _ (by omega)
      obtain ⟨d, rfl⟩ : ∃ d, h = t + 1 + d := ⟨h - t - 1, by omega⟩
      subst hB
      have e4 : (t + 1) * (t + 1 + d - 1) = (t + 1) * t + (t + 1) * d := by
        rw [show t + 1 + d - 1 = t + d by omega]; grind
      rw [e4] at e2
      have e5 : 2 * (t + 1 + d) * t = 2 * (t * t) + 2 * t + 2 * (d * t) := by grind
      have e6 : (t + 1) * t = t * t + t := by grind
      have e7 : (t + 1) * d = d * t + d := by grind
      have e8 : d ≤ d * t := Nat.le_mul_of_pos_right d h1
      omega
    · have : 1 ≤ s := by
        rw [← hs]
        exact (Nat.le_div_iff_mul_le (by omega)).2 (by omega)
      have : 1 * t ≤ s * t := Nat.mul_le_mul_right _ this
      omega
  · exact q

theorem scale_pos {B t : Nat} (ht : t < B) : 1 ≤ B / (t + 1) := (Nat.le_div_iff_mul_le (by omega)).2 (by omega)
theorem scale_lt {B t : Nat} (h1 : 1 ≤ t) (ht : t < B) : B / (t + 1) < B := Nat.div_lt_self (by omega) (by omega)

/-- the scaled divisor: as long as the divisor, with a large first limb -/
theorem scaled {B h n : Nat} {b v : List Nat} (hB : B = 2 * h) (hb : Canon B b) (hn : b.length = n + 1)
    (hv : Canon B v) (e : val B v = val B b * (B / (b.getD n 0 + 1))) (hh : 0 < h) :
    1 ≤ b.getD n 0 ∧ v.length = n + 1 ∧ h ≤ v.getD n 0 := by
  have hB0 : 0 < B := by omega
  have hbl : Lim B b := hb.1
  have ht := hbl.getD hB0 n
  have ne : b ≠ [] := by rintro rfl; simp at hn
  have h1 : 1 ≤ b.getD n 0 := by
    have := hb.2 ne
    rw [List.getLast_eq_getElem] at this
    rw [getD_eq (by omega)]
    simp only [hn, Nat.add_sub_cancel] at this
    omega
  refine ⟨h1, ?_⟩
  have eb := val_top (B := B) hn
  have lb := val_low (B := B) (k := n) (l := b) (by omega) hbl
  have nt := norm_top hB h1 ht
  have sp := scale_pos ht
  generalize b.getD n 0 = t at *
  have st := Nat.div_mul_le_self B (t + 1)
  generalize B / (t + 1) = s at *
  have hP : 0 < B ^ n := Nat.pow_pos hB0
  have up : val B v < B ^ (n + 1) := by
    rw [e, eb, pow_succ']
    have a1 : (val B (b.take n) + B ^ n * t) * s < (B ^ n + B ^ n * t) * s := Nat.mul_lt_mul_of_pos_right (by omega) (by omega)
    have a2 : (B ^ n + B ^ n * t) * s = B ^ n * (s * (t + 1)) := by grind
    have a3 : B ^ n * (s * (t + 1)) ≤ B ^ n * B := Nat.mul_le_mul_left _ st
    omega
  have lo : B ^ n * h ≤ val B v := by
    rw [e, eb]
    have a2 : (val B (b.take n) + B ^ n * t) * s = val B (b.take n) * s + B ^ n * (s * t) := by grind
    have a3 : B ^ n * h ≤ B ^ n * (s * t) := Nat.mul_le_mul_left _ nt
    omega
  have lo1 : B ^ n ≤ val B v := by
    have : B ^ n * 1 ≤ B ^ n * h := Nat.mul_le_mul_left _ hh
    omega
  have vne : v ≠ [] := by
    rintro rfl
    simp at lo1
    omega
  have len1 : v.length ≤ n + 1 := by
    have := hv.pow_le hB0 vne
    have : B ^ (v.length - 1) < B ^ (n + 1) := by omega
    have := (Nat.pow_lt_pow_iff_right (by omega : 1 < B)).1 this
    omega
  have len2 : n < v.length := by
    have := val_lt B v hv.1
    exact (Nat.pow_lt_pow_iff_right (by omega : 1 < B)).1 (by omega)
  have len : v.length = n + 1 := by omega
  refine ⟨len, ?_⟩
  have ev := val_top (B := B) len
  have lv := val_low (B := B) (k := n) (l := v) (by omega) hv.1
  have : B ^ n * h < B ^ n * (v.getD n 0 + 1) := by rw [Nat.mul_add]; omega
  have := Nat.lt_of_mul_lt_mul_left this
  omega

/-- at the beginning the upper limbs of the dividend are less than the divisor -/
theorem divide_start {B la n s A V : Nat} {U b : List Nat} (hB : 1 < B) (hA : A < B ^ la) (hU : val B U = A * s) (hb : Canon B b) (hn : b.length = n + 1) (hV : V = val B b * s) (hs : 1 ≤ s)
    (hl : n ≤ la) (hlen : U.length = la + 1) : val B (U.drop (la - n)) < V := by
  have e := val_take_drop B U (la - n) (by omega)
  have ne : b ≠ [] := by rintro rfl; simp at hn
  have pb := hb.pow_le (by omega) ne
  rw [hn] at pb
  simp only [Nat.add_sub_cancel] at pb
  have hP : B ^ la = B ^ (la - n) * B ^ n := by rw [← Nat.pow_add]; congr 1; omega
  have h1 : A * s < B ^ (la - n) * B ^ n * s := by
    rw [← hP]
    exact Nat.mul_lt_mul_of_pos_right hA (by omega)
  have h2 : B ^ (la - n) * val B (U.drop (la - n)) < B ^ (la - n) * (B ^ n * s) := by
    rw [← Nat.mul_assoc]; omega
  have h3 := Nat.lt_of_mul_lt_mul_left h2
  have h4 : B ^ n * s ≤ val B b * s := Nat.mul_le_mul_right _ pb
  omega

/-- one digit of the quotient: the part R of the row P ++ R ++ S -/
theorem divide_part {B n V : Nat} {P R S : List Nat} (lim : Lim B (P ++ R ++ S)) (hR : R.length = n + 2) (hV : V < B ^ (n + 1))
    (hd : val B ((P ++ R ++ S).drop (P.length + 1)) < V) : val B S = 0 ∧ val B R < B * V := by
  obtain ⟨x, R, rfl⟩ : ∃ x R', R = x :: R' := by
    rcases R with _ | ⟨x, R⟩
    · simp at hR
    · exact ⟨x, R, rfl⟩
  have e : (P ++ x :: R ++ S).drop (P.length + 1) = R ++ S := by
    rw [List.append_assoc, ← List.drop_drop, List.drop_left]; rfl
  rw [e, val_append] at hd
  simp at hR
  rw [hR] at hd
  have hx : x < B := lim x (by simp)
  have z : val B S = 0 := by
    rcases Nat.eq_zero_or_pos (val B S) with q | q
    · exact q
    · have : B ^ (n + 1) * 1 ≤ B ^ (n + 1) * val B S := Nat.mul_le_mul_left _ q
      omega
  refine ⟨z, ?_⟩
  rw [z] at hd
  simp only [Nat.mul_zero, Nat.add_zero] at hd
  have : B * (val B R + 1) ≤ B * V := Nat.mul_le_mul_left _ hd
  rw [val_cons]
  rw [Nat.mul_add] at this
  omega

theorem divide_step {B V T x : Nat} {P R R' S Q : List Nat} (hs : val B S = 0) (hx : x = val B R / V) (hr : val B R' = val B R % V) (hV : 0 < V)
    (hQ : P.length < Q.length) (h0 : Q.getD P.length 0 = 0) (hT : val B (P ++ R ++ S) + V * val B Q = T) :
    val B ((P ++ R' ++ S).drop P.length) < V ∧ val B (P ++ R' ++ S) + V * val B (Q.set P.length x) = T := by
  have e : (P ++ R' ++ S).drop P.length = R' ++ S := by rw [List.append_assoc, List.drop_left]
  have d := Nat.div_add_mod (val B R) V
  have m := Nat.mod_lt (val B R) hV
  have q := val_set_getD B Q P.length x hQ
  rw [h0] at q
  rw [e, val_append, hs, Nat.mul_zero, Nat.add_zero, hr]
  refine ⟨m, ?_⟩
  rw [List.append_assoc, val_append, val_append, hs] at hT ⊢
  rw [hr]
  rw [← hx] at d
  generalize val B R % V = y at *
  generalize val B R = z at *
  grind

/-- what the division leaves -/
theorem divide_end {A b s r q V : Nat} (hs : 1 ≤ s) (hV : V = b * s) (h : r + V * q = A * s) (hr : r < V) : q = A / b ∧ r / s = A % b := by
  subst hV
  have hb : 0 < b := by
    rcases b with _ | b
    · simp at hr
    · omega
  have h1 : r + b * q * s = A * s := by rw [← h]; grind
  have h2 : b * q ≤ A := by
    rcases Nat.lt_or_ge A (b * q) with k | k
    · have : (A + 1) * s ≤ b * q * s := Nat.mul_le_mul_right _ k
      rw [Nat.add_mul] at this
      omega
    · exact k
  obtain ⟨t, rfl⟩ : ∃ t, A = b * q + t := ⟨A - b * q, by omega⟩
  have h3 : r = t * s := by rw [Nat.add_mul] at h1; omega
  subst h3
  have h4 : t < b := Nat.lt_of_mul_lt_mul_right hr
  refine ⟨?_, ?_⟩
  · rw [Nat.mul_add_div hb, Nat.div_eq_of_lt h4]; omega
  · rw [Nat.mul_div_cancel _ (by omega), Nat.mul_add_mod, Nat.mod_eq_of_lt h4]

end Tally

/- Plain laws of the guess of a digit. -/

namespace Tally

/-- the first limbs of a dividend U and a divisor V -/
structure Tops (B U V v1 v2 u0 head D lowU lowV : Nat) : Prop where
  eU : U = (head * B + u0) * D + lowU
  eV : V = (v1 * B + v2) * D + lowV
  lU : lowU < D
  lV : lowV < D
  lt : U < B * V
  pv1 : 0 < v1
  hv1 : v1 < B
  hv2 : v2 < B
  hu0 : u0 < B

section
variable {B U V v1 v2 u0 head D lowU lowV g rr : Nat}

theorem Tops.pos (h : Tops B U V v1 v2 u0 head D lowU lowV) : 0 < V := by
  rcases Nat.eq_zero_or_pos V with q | q
  · have := h.lt; rw [q] at this; simp at this
  · exact q

theorem Tops.head_le (h : Tops B U V v1 v2 u0 head D lowU lowV) : head ≤ v1 * B + v2 := by
  have a := h.lt
  rw [h.eU, h.eV] at a
  have a1 : B * ((v1 * B + v2) * D + lowV) ≤ B * ((v1 * B + v2) * D + D) := Nat.mul_le_mul_left _ (by have := h.lV; omega)
  have a2 : B * ((v1 * B + v2) * D + D) = (B * (v1 * B + v2 + 1)) * D := by grind
  have a3 : (head * B + u0) * D < (B * (v1 * B + v2 + 1)) * D := by omega
  have a4 := Nat.lt_of_mul_lt_mul_right a3
  have a5 : head * B < (v1 * B + v2 + 1) * B := by rw [Nat.mul_comm (v1 * B + v2 + 1) B]; omega
  have a6 := Nat.lt_of_mul_lt_mul_right a5
  omega

theorem Tops.quo_lt (h : Tops B U V v1 v2 u0 head D lowU lowV) : U / V < B := Nat.div_lt_of_lt_mul (by rw [Nat.mul_comm]; exact h.lt)

/-- a rejected guess -/
theorem Tops.reject (h : Tops B U V v1 v2 u0 head D lowU lowV) (e : (g + 1) * v1 + rr = head) (hr : B ≤ g + 1 ∨ rr * B + u0 < (g + 1) * v2) : U / V ≤ g := by
  rcases hr with hr | hr
  · have := h.quo_lt; omega
  · have t := (guess_test (B := B) (v2 := v2) (u0 := u0) e)
    have t2 := guess_gt (B := B) (g := g + 1) (v1 := v1) (v2 := v2) (lowV := lowV) (h3 := head * B + u0) (D := D) h.lU (by omega)
    rw [← h.eU, ← h.eV] at t2
    have := (Nat.div_lt_iff_lt_mul h.pos).2 t2
    omega

/-- a guess that stands -/
theorem Tops.stand (h : Tops B U V v1 v2 u0 head D lowU lowV) (e : g * v1 + rr = head) (hg : g < B) (hr : g * v2 ≤ rr * B + u0) : g ≤ U / V + 1 := by
  have t := (guess_test (B := B) (v2 := v2) (u0 := u0) e).1 hr
  have t2 := guess_le (lowU := lowU) hg h.pv1 h.lV t
  rw [← h.eU, ← h.eV] at t2
  have := (Nat.le_div_iff_mul_le h.pos).2 t2
  omega

/-- a guess that is left because its rest has grown large -/
theorem Tops.leave (h : Tops B U V v1 v2 u0 head D lowU lowV) (e : g * v1 + rr = head) (hg : g ≤ B) (hr : B ≤ rr) : g < B ∧ g ≤ U / V + 1 := by
  have hl := h.head_le
  have hlt : g < B := by
    rcases Nat.lt_or_ge g B with q | q
    · exact q
    · obtain rfl : g = B := by omega
      rw [Nat.mul_comm v1] at hl
      have := h.hv2
      omega
  refine ⟨hlt, h.stand e hlt ?_⟩
  have h1 : g * v2 ≤ B * B := Nat.mul_le_mul hg (Nat.le_of_lt h.hv2)
  have h2 : B * B ≤ rr * B := Nat.mul_le_mul_right _ hr
  omega
end
end Tally

/- Plain laws of the schoolbook division and of truncated quotients. -/

namespace Tally
theorem canon_drop {B : Nat} {a : List Nat} (ha : Canon B a) (k : Nat) : Canon B (a.drop k) := by
  refine ⟨fun x hx => ha.1 x (List.mem_of_mem_drop hx), fun h => ?_⟩
  rw [List.getLast_drop]
  exact ha.2 _

/-- sign and size of the truncated quotient and remainder -/
theorem tdiv_signs {n1 n2 : Bool} {A B : Nat} : (if (n1 != n2) = true then -((A / B : Nat) : Int) else ((A / B : Nat) : Int)) = (if n1 = true then -(A : Int) else A).tdiv (if n2 = true then -(B : Int) else B) := by
  cases n1 <;> cases n2 <;> simp [Int.neg_tdiv, Int.tdiv_neg]
theorem tmod_signs {n1 n2 : Bool} {A B : Nat} : (if n1 = true then -((A % B : Nat) : Int) else ((A % B : Nat) : Int)) = (if n1 = true then -(A : Int) else A).tmod (if n2 = true then -(B : Int) else B) := by
  cases n1 <;> cases n2 <;> simp [Int.neg_tmod, Int.tmod_neg, Int.tmod_eq_emod_of_nonneg (Int.natCast_nonneg A)]

end Tally

/- Plain laws of divisors. -/

namespace Tally
theorem gcd_zero {x y : Int} : ((x.gcd y : Nat) : Int) = 0 ↔ x = 0 ∧ y = 0 := by
  rw [Int.natCast_eq_zero, Int.gcd_eq_zero_iff]

end Tally

/- Plain laws of numbers in lowest terms. -/

namespace Tally

theorem tdiv_exact {a k g : Int} (hg : g ≠ 0) (h : a = k * g) : a.tdiv g = k := by
  rw [h]; exact Int.mul_tdiv_cancel _ hg

/-- the numerator and the denominator in lowest terms -/
theorem low_num {n d g : Int} (hd : d ≠ 0) (hg : g = if d < 0 then -((n.gcd d : Nat) : Int) else ((n.gcd d : Nat) : Int)) : n.tdiv g = (Rat.divInt n d).num := by
  have h0 : (n.gcd d : Int) ≠ 0 := by
    intro e; have := (gcd_zero).1 e; exact hd this.2
  obtain ⟨k, hk⟩ := Int.gcd_dvd_left (a := n) (b := d)
  rw [Rat.num_divInt, Int.gcd_comm d n]
  by_cases h : d < 0
  · rw [if_pos h] at hg
    subst hg
    rw [Int.sign_eq_neg_one_of_neg h]
    generalize (n.gcd d : Int) = g at *
    subst hk
    rw [tdiv_exact (k := -k) (by omega) (by grind)]
    rw [show -1 * (g * k) = g * (-k) by grind, Int.mul_ediv_cancel_left _ h0]
  · rw [if_neg h] at hg
    subst hg
    rw [Int.sign_eq_one_of_pos (by omega)]
    generalize (n.gcd d : Int) = g at *
    subst hk
    rw [tdiv_exact (k := k) (by omega) (by grind)]
    rw [show 1 * (g * k) = g * k by grind, Int.mul_ediv_cancel_left _ h0]

theorem low_den {n d g : Int} (hd : d ≠ 0) (hg : g = if d < 0 then -((n.gcd d : Nat) : Int) else ((n.gcd d : Nat) : Int)) : d.tdiv g = ((Rat.divInt n d).den : Int) := by
  have h0 : (n.gcd d : Int) ≠ 0 := by
    intro e; have := (gcd_zero).1 e; exact hd this.2
  obtain ⟨k, hk⟩ := Int.gcd_dvd_right (a := n) (b := d)
  rw [Rat.den_divInt, if_neg hd, Int.gcd_comm d n, Int.natCast_ediv]
  have hp : (0 : Int) < n.gcd d := by omega
  by_cases h : d < 0
  · rw [if_pos h] at hg
    subst hg
    have : (d.natAbs : Int) = -d := by omega
    rw [this]
    generalize (n.gcd d : Int) = g at *
    subst hk
    rw [tdiv_exact (k := -k) (by omega) (by grind)]
    rw [show -(g * k) = g * (-k) by grind, Int.mul_ediv_cancel_left _ h0]
  · rw [if_neg h] at hg
    subst hg
    have : (d.natAbs : Int) = d := by omega
    rw [this]
    generalize (n.gcd d : Int) = g at *
    subst hk
    rw [tdiv_exact (k := k) (by omega) (by grind)]
    rw [Int.mul_ediv_cancel_left _ h0]

theorem num_le (n d : Int) : (Rat.divInt n d).num.natAbs ≤ n.natAbs := by
  rw [Rat.num_divInt, ← Int.natAbs_natCast (d.gcd n)]
  refine Nat.le_trans (Int.natAbs_ediv_le_natAbs _ _) ?_
  rw [Int.natAbs_mul]
  have : d.sign.natAbs ≤ 1 := by
    rcases Int.lt_trichotomy d 0 with h | h | h
    · rw [Int.sign_eq_neg_one_of_neg h]; decide
    · subst h; decide
    · rw [Int.sign_eq_one_of_pos h]; decide
  exact Nat.le_trans (Nat.mul_le_mul_right _ this) (by simp)

theorem den_le {n d : Int} (hd : d ≠ 0) : (Rat.divInt n d).den ≤ d.natAbs := by
  rw [Rat.den_divInt, if_neg hd]
  exact Nat.div_le_self _ _

/-- the sums and products that the program forms -/
theorem rat_add (p q : Rat) : p + q = Rat.divInt (p.num * q.den + q.num * p.den) (p.den * q.den) := by
  conv => lhs; rw [← Rat.num_divInt_den p, ← Rat.num_divInt_den q]
  exact Rat.divInt_add_divInt _ _ (by have := p.den_nz; omega) (by have := q.den_nz; omega)
theorem rat_mul (p q : Rat) : p * q = Rat.divInt (p.num * q.num) (p.den * q.den) := by
  conv => lhs; rw [← Rat.num_divInt_den p, ← Rat.num_divInt_den q]
  exact Rat.divInt_mul_divInt _ _
theorem rat_div (p q : Rat) : p / q = Rat.divInt (p.num * q.den) (p.den * q.num) := by
  rw [Rat.div_def, Rat.inv_def]
  conv => lhs; rw [← Rat.num_divInt_den p]
  exact Rat.divInt_mul_divInt _ _
theorem rat_sub (p q : Rat) : p - q = p + -q := Rat.sub_eq_add_neg p q

theorem sign_num (q : Rat) : (q.num = 0 ↔ q = 0) := by
  constructor
  · intro h
    exact Rat.num_eq_zero.1 h
  · rintro rfl; rfl

end Tally
