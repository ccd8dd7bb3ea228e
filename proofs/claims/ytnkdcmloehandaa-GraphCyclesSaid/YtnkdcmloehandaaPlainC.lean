/- Plain mathematics of layer 21: components. -/
import Derived.Test.YtnkdcmloehandaaCyclic
namespace Go.Proofs.Ytnkdcmloehandaa
open Plain

/-- are two entities connected? -/
noncomputable def kB (n : Nat) (Z : Nat → Nat → Int) (i j : Nat) : Bool := rB n Z i j && rB n Z j i
theorem kB_iff {n : Nat} {Z : Nat → Nat → Int} {i j : Nat} : kB n Z i j = true ↔ R n Z i j ∧ R n Z j i := by unfold kB; rw [Bool.and_eq_true, rB_iff, rB_iff]
theorem kB_refl (n : Nat) (Z : Nat → Nat → Int) (i : Nat) : kB n Z i i = true := kB_iff.2 ⟨R.refl _ _ _, R.refl _ _ _⟩
theorem kB_symm {n : Nat} {Z : Nat → Nat → Int} {i j : Nat} (h : kB n Z i j = true) : kB n Z j i = true := kB_iff.2 ⟨(kB_iff.1 h).2, (kB_iff.1 h).1⟩
theorem kB_trans {n : Nat} {Z : Nat → Nat → Int} {i j k : Nat} (h : kB n Z i j = true) (g : kB n Z j k = true) : kB n Z i k = true :=
  kB_iff.2 ⟨(kB_iff.1 h).1.trans (kB_iff.1 g).1, (kB_iff.1 g).2.trans (kB_iff.1 h).2⟩

/-- is i the least of its component? -/
noncomputable def isL (n : Nat) (Z : Nat → Nat → Int) (i : Nat) : Bool := (List.range i).all fun j => !kB n Z j i
theorem isL_iff {n : Nat} {Z : Nat → Nat → Int} {i : Nat} : isL n Z i = true ↔ ∀ j, j < i → kB n Z j i = false := by
  unfold isL
  rw [List.all_eq_true]
  constructor
  · intro h j hj
    simpa using h j (List.mem_range.2 hj)
  · intro h j hj
    simp [h j (List.mem_range.1 hj)]

/-- the members of i's component below k; the leaders below k; the components -/
noncomputable def mem (n : Nat) (Z : Nat → Nat → Int) (i k : Nat) : List Nat := (List.range k).filter fun j => kB n Z i j
noncomputable def lds (n : Nat) (Z : Nat → Nat → Int) (k : Nat) : List Nat := (List.range k).filter fun j => isL n Z j
noncomputable def comps (n : Nat) (Z : Nat → Nat → Int) : List (List Nat) := (lds n Z n).map fun i => mem n Z i n

theorem mem_succ_yes {n : Nat} {Z : Nat → Nat → Int} {i k : Nat} (h : kB n Z i k = true) : mem n Z i (k + 1) = mem n Z i k ++ [k] := by simp [mem, List.range_succ, h]
theorem mem_succ_no {n : Nat} {Z : Nat → Nat → Int} {i k : Nat} (h : kB n Z i k = false) : mem n Z i (k + 1) = mem n Z i k := by simp [mem, List.range_succ, h]
theorem lds_succ_yes {n : Nat} {Z : Nat → Nat → Int} {k : Nat} (h : isL n Z k = true) : lds n Z (k + 1) = lds n Z k ++ [k] := by simp [lds, List.range_succ, h]
theorem lds_succ_no {n : Nat} {Z : Nat → Nat → Int} {k : Nat} (h : isL n Z k = false) : lds n Z (k + 1) = lds n Z k := by simp [lds, List.range_succ, h]
theorem mem_len (n : Nat) (Z : Nat → Nat → Int) (i k : Nat) : (mem n Z i k).length ≤ k := by have := List.length_filter_le (fun j => kB n Z i j) (List.range k); simpa [mem] using this
theorem lds_len (n : Nat) (Z : Nat → Nat → Int) (k : Nat) : (lds n Z k).length ≤ k := by have := List.length_filter_le (fun j => isL n Z j) (List.range k); simpa [lds] using this
theorem mem_mem {n : Nat} {Z : Nat → Nat → Int} {i j k : Nat} : j ∈ mem n Z i k ↔ j < k ∧ kB n Z i j = true := by simp [mem]
theorem lds_mem {n : Nat} {Z : Nat → Nat → Int} {j k : Nat} : j ∈ lds n Z k ↔ j < k ∧ isL n Z j = true := by simp [lds]

/-- every entity has a leader -/
theorem leader (n : Nat) (Z : Nat → Nat → Int) (e : Nat) : ∃ l, l ≤ e ∧ kB n Z l e = true ∧ isL n Z l = true ∧ ∀ j, j < l → kB n Z j e = false := by
  have key : ∀ m, (∀ j, j < m → kB n Z j e = false) ∨ ∃ l, l < m ∧ kB n Z l e = true ∧ ∀ j, j < l → kB n Z j e = false := by
    intro m
    induction m with
    | zero => exact .inl fun j hj => absurd hj (Nat.not_lt_zero _)
    | succ m ih =>
      rcases ih with h | ⟨l, h1, h2⟩
      · cases hm : kB n Z m e
        · left
          intro j hj
          by_cases e1 : j = m
          · subst e1; exact hm
          · exact h j (by omega)
        · exact .inr ⟨m, by omega, hm, h⟩
      · exact .inr ⟨l, by omega, h2⟩
  rcases key (e + 1) with h | ⟨l, h1, h2, h3⟩
  · have := h e (by omega)
    rw [kB_refl] at this
    cases this
  · refine ⟨l, by omega, h2, isL_iff.2 fun j hj => ?_, h3⟩
    cases hk : kB n Z j l
    · rfl
    · have := h3 j hj
      rw [kB_trans hk h2] at this
      cases this

/-- what the reference's 'seen' holds ahead of i -/
def Seen (n : Nat) (Z : Nat → Nat → Int) (i : Nat) (s : Nat → Bool) : Prop := ∀ j, j < n → (s j = true ↔ ∃ l, l < i ∧ kB n Z l j = true)
/-- .. inside the round of the leader i, ahead of k -/
def SeenIn (n : Nat) (Z : Nat → Nat → Int) (i k : Nat) (s : Nat → Bool) : Prop := ∀ j, j < n → (s j = true ↔ (∃ l, l < i ∧ kB n Z l j = true) ∨ (j < k ∧ kB n Z i j = true))

theorem Seen.leader {n : Nat} {Z : Nat → Nat → Int} {i : Nat} {s : Nat → Bool} (h : Seen n Z i s) (hi : i < n) : isL n Z i = !s i := by
  rw [Bool.eq_iff_iff, isL_iff]
  constructor
  · intro h1
    cases hs : s i
    · rfl
    · obtain ⟨l, h2, h3⟩ := (h i hi).1 hs
      rw [h1 l h2] at h3
      cases h3
  · intro h1 j hj
    cases hk : kB n Z j i
    · rfl
    · have := (h i hi).2 ⟨j, hj, hk⟩
      rw [this] at h1
      cases h1
theorem Seen.skip {n : Nat} {Z : Nat → Nat → Int} {i : Nat} {s : Nat → Bool} (h : Seen n Z i s) (hi : i < n) (hs : s i = true) : Seen n Z (i + 1) s := by
  intro j hj
  rw [h j hj]
  constructor
  · rintro ⟨l, h1, h2⟩
    exact ⟨l, by omega, h2⟩
  · rintro ⟨l, h1, h2⟩
    by_cases e : l = i
    · subst e
      obtain ⟨m, h3, h4⟩ := (h l hi).1 hs
      exact ⟨m, h3, kB_trans h4 h2⟩
    · exact ⟨l, by omega, h2⟩
theorem Seen.enter {n : Nat} {Z : Nat → Nat → Int} {i : Nat} {s : Nat → Bool} (h : Seen n Z i s) : SeenIn n Z i 0 s := by
  intro j hj
  rw [h j hj]
  constructor
  · exact .inl
  · rintro (h1 | ⟨h1, _⟩)
    · exact h1
    · exact absurd h1 (Nat.not_lt_zero _)
theorem SeenIn.no {n : Nat} {Z : Nat → Nat → Int} {i k : Nat} {s : Nat → Bool} (h : SeenIn n Z i k s) (hk : kB n Z i k = false) : SeenIn n Z i (k + 1) s := by
  intro j hj
  rw [h j hj]
  constructor
  · rintro (h1 | ⟨h1, h2⟩)
    · exact .inl h1
    · exact .inr ⟨by omega, h2⟩
  · rintro (h1 | ⟨h1, h2⟩)
    · exact .inl h1
    · by_cases e : j = k
      · subst e; rw [hk] at h2; cases h2
      · exact .inr ⟨by omega, h2⟩
theorem SeenIn.yes {n : Nat} {Z : Nat → Nat → Int} {i k : Nat} {s : Nat → Bool} (h : SeenIn n Z i k s) (hk : kB n Z i k = true) : SeenIn n Z i (k + 1) (fun j => if j = k then true else s j) := by
  intro j hj
  by_cases e : j = k
  · subst e
    simp only [if_true]
    exact ⟨fun _ => .inr ⟨by omega, hk⟩, fun _ => trivial⟩
  · simp only [e, if_false]
    rw [h j hj]
    constructor
    · rintro (h1 | ⟨h1, h2⟩)
      · exact .inl h1
      · exact .inr ⟨by omega, h2⟩
    · rintro (h1 | ⟨h1, h2⟩)
      · exact .inl h1
      · exact .inr ⟨by omega, h2⟩
theorem SeenIn.leave {n : Nat} {Z : Nat → Nat → Int} {i : Nat} {s : Nat → Bool} (h : SeenIn n Z i n s) : Seen n Z (i + 1) s := by
  intro j hj
  rw [h j hj]
  constructor
  · rintro (⟨l, h1, h2⟩ | ⟨_, h2⟩)
    · exact ⟨l, by omega, h2⟩
    · exact ⟨i, by omega, h2⟩
  · rintro ⟨l, h1, h2⟩
    by_cases e : l = i
    · subst e; exact .inr ⟨hj, h2⟩
    · exact .inl ⟨l, by omega, h2⟩

end Go.Proofs.Ytnkdcmloehandaa
