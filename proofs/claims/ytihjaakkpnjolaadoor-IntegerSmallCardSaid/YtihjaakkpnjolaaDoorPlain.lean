/- Plain laws of limb lists: the value of a list of limbs in a base, and the uniqueness of its digits. -/

namespace Tally

/-- The value of limbs in a base, the least significant one first. -/
def val (B : Nat) : List Nat → Nat
  | [] => 0
  | x :: l => x + B * val B l

@[simp] theorem val_nil (B : Nat) : val B [] = 0 := rfl

@[simp] theorem val_cons (B x : Nat) (l : List Nat) : val B (x :: l) = x + B * val B l := rfl

theorem val_append (B : Nat) (l m : List Nat) :
    val B (l ++ m) = val B l + B ^ l.length * val B m := by
  induction l with
  | nil => simp
  | cons x l ih =>
    simp only [List.cons_append, val_cons, ih, List.length_cons, Nat.pow_succ]
    rw [Nat.mul_add, Nat.add_assoc]
    congr 2
    rw [← Nat.mul_assoc, Nat.mul_comm B]

theorem val_zeros (B n : Nat) : val B (List.replicate n 0) = 0 := by
  induction n with
  | zero => rfl
  | succ n ih => simp [List.replicate_succ, ih]

theorem val_snoc (B : Nat) (l : List Nat) (x : Nat) :
    val B (l ++ [x]) = val B l + B ^ l.length * x := by
  rw [val_append]; simp

/-- The value of one limb more. -/
theorem val_take_succ (B : Nat) (l : List Nat) (i : Nat) (h : i < l.length) :
    val B (l.take (i + 1)) = val B (l.take i) + B ^ i * l[i] := by
  rw [List.take_succ_eq_append_getElem h, val_snoc, List.length_take, Nat.min_eq_left (Nat.le_of_lt h)]

theorem val_take_drop (B : Nat) (l : List Nat) (i : Nat) (h : i ≤ l.length) :
    val B l = val B (l.take i) + B ^ i * val B (l.drop i) := by
  conv => lhs; rw [← List.take_append_drop i l]
  rw [val_append, List.length_take, Nat.min_eq_left h]

/-- Limbs under the base have a value under the power. -/
theorem val_lt (B : Nat) (l : List Nat) (h : ∀ x ∈ l, x < B) : val B l < B ^ l.length := by
  induction l with
  | nil => simp
  | cons x l ih =>
    have hx := h x (by simp)
    have hl := ih (fun y hy => h y (by simp [hy]))
    simp only [val_cons, List.length_cons, Nat.pow_succ]
    calc x + B * val B l < B + B * val B l := by omega
      _ = B * (val B l + 1) := by rw [Nat.mul_add]; omega
      _ ≤ B * B ^ l.length := Nat.mul_le_mul_left _ hl
      _ = B ^ l.length * B := Nat.mul_comm _ _

/-- Limbs in canonical form: under the base, and the last one is not zero. -/
def Canon (B : Nat) (l : List Nat) : Prop :=
  (∀ x ∈ l, x < B) ∧ (∀ h : l ≠ [], l.getLast h ≠ 0)

theorem canon_nil (B : Nat) : Canon B [] := ⟨by simp, by simp⟩

theorem Canon.tail {B x : Nat} {l : List Nat} (h : Canon B (x :: l)) : Canon B l := by
  refine ⟨fun y hy => h.1 y (by simp [hy]), fun hl => ?_⟩
  have := h.2 (by simp)
  rwa [List.getLast_cons hl] at this

/-- Canonical limbs that are not empty have a positive value. -/
theorem Canon.pos {B : Nat} {l : List Nat} (hB : 0 < B) (h : Canon B l) (hl : l ≠ []) : 0 < val B l := by
  induction l with
  | nil => exact absurd rfl hl
  | cons x l ih =>
    by_cases hl' : l = []
    · subst hl'
      have := h.2 (by simp)
      simp at this
      simp; omega
    · have := ih h.tail hl'
      have : 0 < B * val B l := Nat.mul_pos hB this
      simp; omega

theorem Canon.zero_iff {B : Nat} {l : List Nat} (hB : 0 < B) (h : Canon B l) : val B l = 0 ↔ l = [] := by
  constructor
  · intro h0
    by_cases hl : l = []
    · exact hl
    · have := h.pos hB hl; omega
  · rintro rfl; rfl

/-- Canonical limbs are told apart by their value. -/
theorem Canon.unique {B : Nat} {l m : List Nat} (hB : 0 < B) (hl : Canon B l) (hm : Canon B m)
    (h : val B l = val B m) : l = m := by
  induction l generalizing m with
  | nil =>
    have := (hm.zero_iff hB).1 (by simpa using h.symm)
    exact this.symm
  | cons x l ih =>
    cases m with
    | nil =>
      have := (hl.zero_iff hB).1 (by simpa using h)
      exact this
    | cons y m =>
      have hx := hl.1 x (by simp)
      have hy := hm.1 y (by simp)
      simp only [val_cons] at h
      have h1 : (x + B * val B l) % B = (y + B * val B m) % B := by rw [h]
      rw [Nat.add_mul_mod_self_left, Nat.add_mul_mod_self_left, Nat.mod_eq_of_lt hx, Nat.mod_eq_of_lt hy] at h1
      subst h1
      have h2 : B * val B l = B * val B m := by omega
      have h3 := Nat.eq_of_mul_eq_mul_left hB h2
      rw [ih hl.tail hm.tail h3]

/-- Canonical limbs of more limbs have the greater value. -/
theorem Canon.pow_le {B : Nat} {l : List Nat} (hB : 0 < B) (h : Canon B l) (hl : l ≠ []) :
    B ^ (l.length - 1) ≤ val B l := by
  induction l with
  | nil => exact absurd rfl hl
  | cons x l ih =>
    by_cases hl' : l = []
    · subst hl'
      have := h.pos hB hl
      simp at this ⊢
      omega
    · have h1 := ih h.tail hl'
      have h2 : 0 < l.length := List.length_pos_iff.2 hl'
      simp only [val_cons, List.length_cons, Nat.add_sub_cancel]
      calc B ^ l.length = B * B ^ (l.length - 1) := by
            conv => lhs; rw [show l.length = (l.length - 1) + 1 by omega]
            rw [Nat.pow_succ, Nat.mul_comm]
        _ ≤ B * val B l := Nat.mul_le_mul_left _ h1
        _ ≤ x + B * val B l := by omega

theorem Canon.lt_of_length {B : Nat} {l m : List Nat} (hB : 0 < B) (hl : ∀ x ∈ l, x < B) (hm : Canon B m)
    (h : l.length < m.length) : val B l < val B m := by
  have h1 := val_lt B l hl
  have hm0 : m ≠ [] := by rintro rfl; simp at h
  have h2 := hm.pow_le hB hm0
  have h3 : B ^ l.length ≤ B ^ (m.length - 1) := Nat.pow_le_pow_right hB (by omega)
  omega

/-- Two lists that agree above a place, where the first has the less limb. -/
theorem val_lt_of_place (B : Nat) (l m : List Nat) (i : Nat) (hi : i < l.length) (hm : i < m.length)
    (hl : ∀ x ∈ l, x < B) (hd : l.drop (i + 1) = m.drop (i + 1)) (h : l[i] < m[i]) : val B l < val B m := by
  rw [val_take_drop B l (i + 1) (by omega), val_take_drop B m (i + 1) (by omega), hd,
    val_take_succ B l i hi, val_take_succ B m i hm]
  have h1 := val_lt B (l.take i) (fun x hx => hl x (List.mem_of_mem_take hx))
  rw [List.length_take, Nat.min_eq_left (Nat.le_of_lt hi)] at h1
  have h2 : B ^ i * (l[i] + 1) ≤ B ^ i * m[i] := Nat.mul_le_mul_left _ h
  rw [Nat.mul_add, Nat.mul_one] at h2
  omega

/-- Limbs without the zeros at the end. -/
def trimZ (l : List Nat) : List Nat := (l.reverse.dropWhile (· == 0)).reverse

theorem trimZ_snoc_zero (l : List Nat) : trimZ (l ++ [0]) = trimZ l := by
  simp [trimZ]

theorem trimZ_snoc (l : List Nat) (x : Nat) (h : x ≠ 0) : trimZ (l ++ [x]) = l ++ [x] := by
  simp [trimZ, h]

theorem trimZ_nil : trimZ [] = [] := rfl

/-- A rule for the limbs from the end. -/
theorem list_snoc_ind {α : Type} {P : List α → Prop} (h0 : P []) (h1 : ∀ l x, P l → P (l ++ [x])) : ∀ l, P l := by
  intro l
  have : ∀ m : List α, P m.reverse := by
    intro m
    induction m with
    | nil => exact h0
    | cons x m ih => rw [List.reverse_cons]; exact h1 _ _ ih
  simpa using this l.reverse

theorem val_trimZ (B : Nat) (l : List Nat) : val B (trimZ l) = val B l := by
  refine list_snoc_ind (P := fun l => val B (trimZ l) = val B l) rfl (fun l x ih => ?_) l
  by_cases hx : x = 0
  · subst hx
    rw [trimZ_snoc_zero, ih, val_snoc]; simp
  · rw [trimZ_snoc l x hx]

theorem canon_trimZ (B : Nat) (l : List Nat) (h : ∀ x ∈ l, x < B) : Canon B (trimZ l) := by
  refine list_snoc_ind (P := fun l => (∀ x ∈ l, x < B) → Canon B (trimZ l)) (fun _ => canon_nil B)
    (fun l x ih h => ?_) l h
  by_cases hx : x = 0
  · subst hx
    rw [trimZ_snoc_zero]
    exact ih (fun y hy => h y (by simp [hy]))
  · rw [trimZ_snoc l x hx]
    exact ⟨h, by simp [hx]⟩

/-- Decimal digits, the most significant one first, as bytes. -/
def IsDec (bs : List Nat) (n : Nat) : Prop :=
  (∀ b ∈ bs, 48 ≤ b ∧ b < 58) ∧ val 10 (bs.reverse.map (· - 48)) = n ∧ bs ≠ [] ∧ (bs.head? = some 48 → bs = [48])

end Tally
