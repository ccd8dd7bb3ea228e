/- Plain mathematics of layer 21: closed sets, components, cycles, orders. No program in sight. -/
import Derived.Test.YtnkdcmloehandaaPlain
namespace Go.Proofs.Ytnkdcmloehandaa.Plain

/-! ### closed sets -/
def hold (Z : Nat → Nat → Int) (o : Nat → Bool) (e : Nat) (n : Nat) : Int := sumTo (fun h => if o h = true then Z h e else 0) n

def IsClosed (n : Nat) (Z : Nat → Nat → Int) (o : Nat → Bool) : Prop := ∀ e, e < n → o e = true → hold Z o e n = 10000

/-- o is the greatest closed set -/
structure Great (n : Nat) (Z : Nat → Nat → Int) (o : Nat → Bool) : Prop where
  closed : IsClosed n Z o
  all : ∀ p : Nat → Bool, IsClosed n Z p → ∀ i, i < n → p i = true → o i = true

theorem Great.unique {n : Nat} {Z : Nat → Nat → Int} {o p : Nat → Bool} (h : Great n Z o) (k : Great n Z p) : ∀ i, i < n → o i = p i := by
  intro i hi
  rw [Bool.eq_iff_iff]
  exact ⟨k.all o h.closed i hi, h.all p k.closed i hi⟩

def clr (o : Nat → Bool) (e : Nat) : Nat → Bool := fun i => if i = e then false else o i

theorem hold_mono {n : Nat} {Z : Nat → Nat → Int} {o p : Nat → Bool} {e : Nat} (hz : ∀ r, r < n → 0 ≤ Z r e) (h : ∀ i, i < n → p i = true → o i = true) : hold Z p e n ≤ hold Z o e n := by
  refine sumTo_mono n fun i hi => ?_
  have h1 := hz i hi
  have h2 := h i hi
  cases hp : p i
  · cases o i <;> simp [h1]
  · rw [h2 hp]; simp

theorem hold_le {n : Nat} {Z : Nat → Nat → Int} {o : Nat → Bool} {e : Nat} (hz : ∀ r, r < n → 0 ≤ Z r e) (hc : sumTo (fun r => Z r e) n ≤ 10000) : hold Z o e n ≤ 10000 := by
  refine Int.le_trans (sumTo_mono n fun i hi => ?_) hc
  have := hz i hi
  cases o i <;> simp [this]

/-- one step of both programs: e goes if less than all of it is held by the set -/
def stepC (n : Nat) (Z : Nat → Nat → Int) (e : Nat) (o : Nat → Bool) : Nat → Bool := if hold Z o e n < 10000 then clr o e else o
def sweepC (n : Nat) (Z : Nat → Nat → Int) (o : Nat → Bool) : Nat → Nat → Bool
  | 0 => o
  | e + 1 => stepC n Z e (sweepC n Z o e)
def sweepsC (n : Nat) (Z : Nat → Nat → Int) (o : Nat → Bool) : Nat → Nat → Bool
  | 0 => o
  | s + 1 => sweepC n Z (sweepsC n Z o s) n

theorem stepC_le {n : Nat} {Z : Nat → Nat → Int} {e i : Nat} {o : Nat → Bool} (h : stepC n Z e o i = true) : o i = true := by
  unfold stepC at h
  split at h
  · unfold clr at h
    split at h
    · cases h
    · exact h
  · exact h
theorem sweepC_le {n : Nat} {Z : Nat → Nat → Int} {i : Nat} {o : Nat → Bool} : ∀ e, sweepC n Z o e i = true → o i = true
  | 0, h => h
  | e + 1, h => sweepC_le e (stepC_le h)

/-- every closed set stays inside -/
def Above (n : Nat) (Z : Nat → Nat → Int) (o : Nat → Bool) : Prop := ∀ p : Nat → Bool, IsClosed n Z p → ∀ i, i < n → p i = true → o i = true

theorem Above.step {n : Nat} {Z : Nat → Nat → Int} {e : Nat} {o : Nat → Bool} (he : e < n) (hz : ∀ r, r < n → 0 ≤ Z r e) (h : Above n Z o) : Above n Z (stepC n Z e o) := by
  intro p hp i hi hpi
  unfold stepC
  split
  · rename_i hlt
    unfold clr
    split
    · rename_i e1
      subst e1
      have h1 := hp i hi hpi
      have h2 := hold_mono hz (h p hp)
      omega
    · exact h p hp i hi hpi
  · exact h p hp i hi hpi
theorem Above.sweep {n : Nat} {Z : Nat → Nat → Int} {o : Nat → Bool} (hz : ∀ r c, r < n → c < n → 0 ≤ Z r c) (h : Above n Z o) : ∀ e, e ≤ n → Above n Z (sweepC n Z o e)
  | 0, _ => h
  | e + 1, he => (Above.sweep hz h e (by omega)).step (by omega) fun r hr => hz r e hr (by omega)
theorem Above.sweeps {n : Nat} {Z : Nat → Nat → Int} {o : Nat → Bool} (hz : ∀ r c, r < n → c < n → 0 ≤ Z r c) (h : Above n Z o) : ∀ s, Above n Z (sweepsC n Z o s)
  | 0 => h
  | s + 1 => (Above.sweeps hz h s).sweep hz n (Nat.le_refl _)
theorem Above.start (n : Nat) (Z : Nat → Nat → Int) : Above n Z (fun _ => true) := fun _ _ _ _ _ => rfl

/-- a sweep that takes nothing away: the set is closed -/
theorem sweepC_same {n : Nat} {Z : Nat → Nat → Int} {o : Nat → Bool} (h : ∀ i, i < n → o i = true → sweepC n Z o n i = true) : ∀ e, e ≤ n → ∀ i, i < n → sweepC n Z o e i = o i := by
  have down : ∀ k e i, sweepC n Z o (e + k) i = true → sweepC n Z o e i = true := by
    intro k
    induction k with
    | zero => intro e i hh; exact hh
    | succ k ih => intro e i hh; exact ih e i (stepC_le hh)
  intro e he i hi
  rw [Bool.eq_iff_iff]
  refine ⟨sweepC_le e, fun ho => ?_⟩
  refine down (n - e) e i ?_
  rw [show e + (n - e) = n by omega]
  exact h i hi ho

theorem hold_congr {n : Nat} {Z : Nat → Nat → Int} {o p : Nat → Bool} (e : Nat) (h : ∀ i, i < n → o i = p i) : hold Z o e n = hold Z p e n := sumTo_congr n fun i hi => by rw [h i hi]

theorem closed_of_same {n : Nat} {Z : Nat → Nat → Int} {o : Nat → Bool} (hz : ∀ r c, r < n → c < n → 0 ≤ Z r c) (hc : ∀ c, c < n → sumTo (fun r => Z r c) n ≤ 10000)
    (h : ∀ i, i < n → o i = true → sweepC n Z o n i = true) : IsClosed n Z o := by
  intro e he ho
  have same := sweepC_same h
  have h1 := same e (by omega)
  have h2 := same (e + 1) (by omega) e he
  have hle := hold_le (o := o) (fun r hr => hz r e hr he) (hc e he)
  refine Classical.byContradiction fun hne => ?_
  have hlt : hold Z (sweepC n Z o e) e n < 10000 := by rw [hold_congr e h1]; omega
  simp only [sweepC, stepC] at h2
  rw [if_pos hlt] at h2
  simp [clr, ho] at h2

theorem sweepsC_count {n : Nat} {Z : Nat → Nat → Int} {o : Nat → Bool} (hz : ∀ r c, r < n → c < n → 0 ≤ Z r c) (hc : ∀ c, c < n → sumTo (fun r => Z r c) n ≤ 10000) :
    ∀ s, IsClosed n Z (sweepsC n Z o s) ∨ cnt (sweepsC n Z o s) n + s ≤ n
  | 0 => Or.inr (cnt_le _ _)
  | s + 1 => by
    have keep : IsClosed n Z (sweepsC n Z o s) → IsClosed n Z (sweepsC n Z o (s + 1)) := by
      intro hcl
      have hsw : ∀ e, e ≤ n → ∀ i, i < n → sweepC n Z (sweepsC n Z o s) e i = sweepsC n Z o s i := by
        intro e
        induction e with
        | zero => intro _ i _; rfl
        | succ e ih =>
          intro he i hi
          have ih := ih (by omega)
          simp only [sweepC, stepC]
          split
          · rename_i hlt
            rw [hold_congr e ih] at hlt
            unfold clr
            split
            · rename_i e1
              subst e1
              cases ho : sweepsC n Z o s i
              · rfl
              · have := hcl i hi ho; omega
            · exact ih i hi
          · exact ih i hi
      have hs := hsw n (Nat.le_refl _)
      intro e he ho
      simp only [sweepsC] at ho ⊢
      rw [hold_congr e hs]
      rw [hs e he] at ho
      exact hcl e he ho
    rcases sweepsC_count (o := o) hz hc s with h | h
    · exact Or.inl (keep h)
    · by_cases hcl : IsClosed n Z (sweepsC n Z o s)
      · exact Or.inl (keep hcl)
      · right
        have hlt : cnt (sweepsC n Z o (s + 1)) n < cnt (sweepsC n Z o s) n := by
          refine cnt_lt n (fun i _ hp => sweepC_le n hp) ?_
          refine Classical.byContradiction fun hno => hcl (closed_of_same hz hc fun i hi ho => ?_)
          cases hs : sweepC n Z (sweepsC n Z o s) n i
          · exact absurd ⟨i, hi, hs, ho⟩ hno
          · rfl
        omega

theorem sweepsC_great {n : Nat} {Z : Nat → Nat → Int} (hz : ∀ r c, r < n → c < n → 0 ≤ Z r c) (hc : ∀ c, c < n → sumTo (fun r => Z r c) n ≤ 10000) : Great n Z (sweepsC n Z (fun _ => true) n) := by
  refine ⟨?_, (Above.start n Z).sweeps hz n⟩
  rcases sweepsC_count (o := fun _ => true) hz hc n with h | h
  · exact h
  · intro e he ho
    have := cnt_zero (p := sweepsC n Z (fun _ => true) n) n (by omega) e he
    rw [this] at ho
    cases ho

/-- P21.7: no entity of a closed set is reached from outside -/
theorem closed_outside {n : Nat} {Z : Nat → Nat → Int} {o : Nat → Bool} (hz : ∀ r c, r < n → c < n → 0 ≤ Z r c) (hc : ∀ c, c < n → sumTo (fun r => Z r c) n ≤ 10000) (ho : IsClosed n Z o)
    {i e : Nat} (hi : i < n) (he : e < n) (hr : R n Z i e) (hoe : o e = true) : o i = true := by
  cases hoi : o i
  · exfalso
    have key := hr (fun x => x < n → o x = false) (fun a ha _ => by subst ha; exact hoi) (fun a b ha hb hS hzab _ => by
      have hoa := hS ha
      cases hob : o b
      · rfl
      · exfalso
        have h1 := ho b hb hob
        have h2 : hold Z o b n < sumTo (fun r => Z r b) n := sumTo_lt n (fun r hr => by have := hz r b hr hb; cases o r <;> simp [this]) ⟨a, ha, by simp [hoa, hzab]⟩
        have := hc b hb
        omega) he
    rw [key] at hoe
    cases hoe
  · rfl

/-! ### orders -/
def Free (n : Nat) (Z : Nat → Nat → Int) (done : Nat → Bool) (e : Nat) : Prop := ∀ h, h < n → Z h e = 0 ∨ done h = true

/-- what the least entity to be placed next is; none if there is none -/
structure Pick (n : Nat) (Z : Nat → Nat → Int) (done : Nat → Bool) (e : Nat) : Prop where
  lt : e < n
  new : done e = false
  free : Free n Z done e
  least : ∀ i, i < e → done i = true ∨ ¬ Free n Z done i

def NoPick (n : Nat) (Z : Nat → Nat → Int) (done : Nat → Bool) : Prop := ∀ i, i < n → done i = true ∨ ¬ Free n Z done i

theorem Pick.unique {n : Nat} {Z : Nat → Nat → Int} {done : Nat → Bool} {a b : Nat} (h : Pick n Z done a) (k : Pick n Z done b) : a = b := by
  rcases Nat.lt_trichotomy a b with h1 | h1 | h1
  · rcases k.least a h1 with q | q
    · rw [h.new] at q; cases q
    · exact absurd h.free q
  · exact h1
  · rcases h.least b h1 with q | q
    · rw [k.new] at q; cases q
    · exact absurd k.free q
theorem Pick.not_none {n : Nat} {Z : Nat → Nat → Int} {done : Nat → Bool} {a : Nat} (h : Pick n Z done a) (k : NoPick n Z done) : False := by
  rcases k a h.lt with q | q
  · rw [h.new] at q; cases q
  · exact q h.free

def has (l : List Nat) : Nat → Bool := fun i => l.contains i

/-- l is a beginning of the order -/
def Ord (n : Nat) (Z : Nat → Nat → Int) : List Nat → Prop
  | [] => True
  | e :: r => Ord n Z r ∧ Pick n Z (has r) e

theorem Ord.unique {n : Nat} {Z : Nat → Nat → Int} : ∀ l k : List Nat, Ord n Z l → Ord n Z k → l.length = k.length → l = k
  | [], [], _, _, _ => rfl
  | [], _ :: _, _, _, h => by simp at h
  | _ :: _, [], _, _, h => by simp at h
  | a :: l, b :: k, h1, h2, h => by
    have e := Ord.unique l k h1.1 h2.1 (by simpa using h)
    subst e
    rw [h1.2.unique h2.2]
theorem Ord.stuck {n : Nat} {Z : Nat → Nat → Int} {l k : List Nat} (h1 : Ord n Z l) (h2 : Ord n Z k) (hs : NoPick n Z (has l)) : k.length ≤ l.length := by
  refine Classical.byContradiction fun hlt => ?_
  have drop : ∀ (m : Nat) (k : List Nat), Ord n Z k → Ord n Z (k.drop m) := by
    intro m
    induction m with
    | zero => intro k hk; exact hk
    | succ m ih =>
      intro k hk
      cases k with
      | nil => exact hk
      | cons a k => exact ih k hk.1
  have hd := drop (k.length - l.length - 1) k h2
  have hlen : (k.drop (k.length - l.length - 1)).length = l.length + 1 := by simp; omega
  cases hk : k.drop (k.length - l.length - 1) with
  | nil => rw [hk] at hlen; simp at hlen
  | cons a r =>
    rw [hk] at hd hlen
    have := Ord.unique r l hd.1 h1 (by simpa using hlen)
    subst this
    exact hd.2.not_none hs

theorem Ord.nodup {n : Nat} {Z : Nat → Nat → Int} : ∀ l : List Nat, Ord n Z l → l.Nodup ∧ ∀ x, x ∈ l → x < n
  | [], _ => by simp
  | a :: l, h => by
    have ih := Ord.nodup l h.1
    refine ⟨List.nodup_cons.2 ⟨fun hm => ?_, ih.1⟩, fun x hx => ?_⟩
    · have := h.2.new
      simp [has, hm] at this
    · rcases List.mem_cons.1 hx with q | q
      · subst q; exact h.2.lt
      · exact ih.2 x q

end Go.Proofs.Ytnkdcmloehandaa.Plain
