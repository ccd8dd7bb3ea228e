/- Plain mathematics of layer 21 (graphs of holdings): sums, reached sets, closed sets, orders. No program in sight. -/
namespace Go.Proofs.Ytnkdcmloehandaa.Plain

/-! ### sums and counts -/
def sumTo (f : Nat → Int) : Nat → Int
  | 0 => 0
  | n + 1 => sumTo f n + f n

def cnt (p : Nat → Bool) : Nat → Nat
  | 0 => 0
  | n + 1 => cnt p n + (if p n then 1 else 0)

theorem cnt_le (p : Nat → Bool) : ∀ n, cnt p n ≤ n
  | 0 => Nat.le_refl _
  | n + 1 => by have := cnt_le p n; unfold cnt; split <;> omega

theorem cnt_mono {p q : Nat → Bool} : ∀ n, (∀ i, i < n → p i = true → q i = true) → cnt p n ≤ cnt q n
  | 0, _ => Nat.le_refl _
  | n + 1, h => by
    have ih := cnt_mono n (fun i hi => h i (by omega))
    have := h n (by omega)
    unfold cnt
    split <;> split <;> first | omega | (rename_i a b; exact absurd (this a) b)

theorem cnt_lt {p q : Nat → Bool} : ∀ n, (∀ i, i < n → p i = true → q i = true) → (∃ i, i < n ∧ p i = false ∧ q i = true) → cnt p n < cnt q n
  | 0, _, h => by obtain ⟨i, hi, _⟩ := h; omega
  | n + 1, h, ⟨i, hi, h1, h2⟩ => by
    by_cases e : i = n
    · subst e
      have ih := cnt_mono i (fun j hj => h j (by omega))
      simp only [cnt, h1, h2]
      simp
      omega
    · have ih := cnt_lt n (fun j hj => h j (by omega)) ⟨i, by omega, h1, h2⟩
      have hn := h n (by omega)
      simp only [cnt]
      split <;> split <;> first | omega | (rename_i a b; exact absurd (hn a) b)

theorem cnt_congr {p q : Nat → Bool} (n : Nat) (h : ∀ i, i < n → p i = q i) : cnt p n = cnt q n :=
  Nat.le_antisymm (cnt_mono n fun i hi hp => by rw [← h i hi]; exact hp) (cnt_mono n fun i hi hp => by rw [h i hi]; exact hp)

theorem cnt_zero {p : Nat → Bool} : ∀ n, cnt p n = 0 → ∀ i, i < n → p i = false
  | 0, _, i, hi => by omega
  | n + 1, h, i, hi => by
    simp only [cnt] at h
    by_cases e : i = n
    · subst e
      cases hp : p i
      · rfl
      · rw [hp] at h; simp at h
    · exact cnt_zero n (by omega) i (by omega)

theorem cnt_pos {p : Nat → Bool} (n : Nat) {i : Nat} (hi : i < n) (h : p i = true) : 0 < cnt p n := by
  rcases Nat.eq_zero_or_pos (cnt p n) with h0 | h0
  · have := cnt_zero n h0 i hi; simp [h] at this
  · exact h0

theorem sumTo_congr {f g : Nat → Int} : ∀ n, (∀ i, i < n → f i = g i) → sumTo f n = sumTo g n
  | 0, _ => rfl
  | n + 1, h => by simp only [sumTo]; rw [sumTo_congr n (fun i hi => h i (by omega)), h n (by omega)]

theorem sumTo_mono {f g : Nat → Int} : ∀ n, (∀ i, i < n → f i ≤ g i) → sumTo f n ≤ sumTo g n
  | 0, _ => Int.le_refl _
  | n + 1, h => by
    have := sumTo_mono n (fun i hi => h i (by omega))
    have := h n (by omega)
    simp only [sumTo]
    omega

theorem sumTo_lt {f g : Nat → Int} : ∀ n, (∀ i, i < n → f i ≤ g i) → (∃ i, i < n ∧ f i < g i) → sumTo f n < sumTo g n
  | 0, _, ⟨i, hi, _⟩ => by omega
  | n + 1, h, ⟨i, hi, hlt⟩ => by
    have hn := h n (by omega)
    simp only [sumTo]
    by_cases e : i = n
    · subst e
      have := sumTo_mono i (fun j hj => h j (by omega))
      omega
    · have := sumTo_lt n (fun j hj => h j (by omega)) ⟨i, by omega, hlt⟩
      omega

theorem sumTo_bound {f : Nat → Int} {c : Int} (hc : 0 ≤ c) : ∀ n, (∀ i, i < n → 0 ≤ f i ∧ f i ≤ c) → 0 ≤ sumTo f n ∧ sumTo f n ≤ c * n
  | 0, _ => by simp [sumTo]
  | n + 1, h => by
    have ⟨h1, h2⟩ := sumTo_bound hc n (fun i hi => h i (by omega))
    have := h n (by omega)
    simp only [sumTo]
    have e : c * ((n + 1 : Nat) : Int) = c * n + c := by rw [Int.natCast_add, Int.mul_add]; simp
    omega

theorem sumTo_le_of_le {f : Nat → Int} (hf : ∀ i, 0 ≤ f i) {m : Nat} : ∀ n, m ≤ n → sumTo f m ≤ sumTo f n
  | 0, h => by obtain rfl : m = 0 := by omega
               exact Int.le_refl _
  | n + 1, h => by
    by_cases e : m = n + 1
    · subst e; exact Int.le_refl _
    · have := sumTo_le_of_le hf n (show m ≤ n by omega)
      have := hf n
      simp only [sumTo]
      omega

/-! ### valid matrices: G rows, row r of length L r, element c of row r is Z r c -/
def Vld (G : Nat) (L : Nat → Nat) (Z : Nat → Nat → Int) : Prop :=
  1 ≤ G ∧ G ≤ 12 ∧ (∀ r, r < G → L r = G) ∧ (∀ r c, r < G → c < G → 0 ≤ Z r c ∧ Z r c ≤ 10000) ∧ ∀ c, c < G → sumTo (fun r => Z r c) G ≤ 10000

/-! ### reached sets -/
def ReachF (n : Nat) (Z : Nat → Nat → Int) (I : Nat → Prop) (e : Nat) : Prop :=
  ∀ S : Nat → Prop, (∀ a, I a → S a) → (∀ a b, a < n → b < n → S a → 0 < Z a b → S b) → S e

theorem ReachF.init {n : Nat} {Z : Nat → Nat → Int} {I : Nat → Prop} {a : Nat} (h : I a) : ReachF n Z I a := fun _ h1 _ => h1 a h
theorem ReachF.step {n : Nat} {Z : Nat → Nat → Int} {I : Nat → Prop} {a b : Nat} (h : ReachF n Z I a) (ha : a < n) (hb : b < n) (hz : 0 < Z a b) : ReachF n Z I b :=
  fun S h1 h2 => h2 a b ha hb (h S h1 h2) hz
theorem ReachF.mono {n : Nat} {Z : Nat → Nat → Int} {I J : Nat → Prop} {e : Nat} (h : ReachF n Z I e) (hIJ : ∀ a, I a → ReachF n Z J a) : ReachF n Z J e :=
  h (ReachF n Z J) hIJ fun _ _ ha hb hS hz => hS.step ha hb hz

/-- reached from one entity -/
def R (n : Nat) (Z : Nat → Nat → Int) (h e : Nat) : Prop := ReachF n Z (fun x => x = h) e
theorem R.refl (n : Nat) (Z : Nat → Nat → Int) (h : Nat) : R n Z h h := ReachF.init rfl
theorem R.trans {n : Nat} {Z : Nat → Nat → Int} {a b c : Nat} (h : R n Z a b) (k : R n Z b c) : R n Z a c :=
  ReachF.mono k fun x hx => by subst hx; exact h
theorem R.edge {n : Nat} {Z : Nat → Nat → Int} {a b : Nat} (ha : a < n) (hb : b < n) (hz : 0 < Z a b) : R n Z a b := (R.refl n Z a).step ha hb hz

structure IsReach (n : Nat) (Z : Nat → Nat → Int) (I : Nat → Prop) (o : Nat → Bool) : Prop where
  init : ∀ a, a < n → I a → o a = true
  closed : ∀ a b, a < n → b < n → o a = true → 0 < Z a b → o b = true
  sound : ∀ e, e < n → o e = true → ReachF n Z I e

theorem IsReach.iff {n : Nat} {Z : Nat → Nat → Int} {I : Nat → Prop} {o : Nat → Bool} (h : IsReach n Z I o) {e : Nat} (he : e < n) : o e = true ↔ ReachF n Z I e :=
  ⟨h.sound e he, fun k => k (fun x => x < n → o x = true) (fun a ha hn => h.init a hn ha) (fun a b ha hb hS hz _ => h.closed a b ha hb (hS ha) hz) he⟩

theorem IsReach.unique {n : Nat} {Z : Nat → Nat → Int} {I : Nat → Prop} {o p : Nat → Bool} (h : IsReach n Z I o) (k : IsReach n Z I p) : ∀ e, e < n → o e = p e := by
  intro e he
  rw [Bool.eq_iff_iff, h.iff he, k.iff he]

/-- the state of the worklist's loop: marks o, worklist xs -/
structure Mk (n : Nat) (Z : Nat → Nat → Int) (I : Nat → Prop) (o : Nat → Bool) (xs : List Nat) : Prop where
  sound : ∀ e, e < n → o e = true → ReachF n Z I e
  work : ∀ x, x ∈ xs → x < n ∧ ReachF n Z I x
  init : ∀ a, a < n → I a → o a = true ∨ a ∈ xs
  closed : ∀ a b, a < n → b < n → o a = true → 0 < Z a b → o b = true ∨ b ∈ xs

/-- .. inside the round of h: h's successors below e are on the list -/
structure MkIn (n : Nat) (Z : Nat → Nat → Int) (I : Nat → Prop) (o : Nat → Bool) (xs : List Nat) (h e : Nat) : Prop where
  hn : h < n
  mark : o h = true
  sound : ∀ e, e < n → o e = true → ReachF n Z I e
  work : ∀ x, x ∈ xs → x < n ∧ ReachF n Z I x
  init : ∀ a, a < n → I a → o a = true ∨ a ∈ xs
  closed : ∀ a b, a < n → b < n → o a = true → 0 < Z a b → (a = h → b < e) → o b = true ∨ b ∈ xs

def setB (o : Nat → Bool) (h : Nat) : Nat → Bool := fun i => if i = h then true else o i

theorem Mk.start {n : Nat} {Z : Nat → Nat → Int} {I : Nat → Prop} {xs : List Nat} (h1 : ∀ x, x ∈ xs → x < n) (h2 : ∀ x, x ∈ xs → I x) (h3 : ∀ a, a < n → I a → a ∈ xs) : Mk n Z I (fun _ => false) xs :=
  ⟨fun _ _ h => by simp at h, fun x hx => ⟨h1 x hx, ReachF.init (h2 x hx)⟩, fun a ha hI => Or.inr (h3 a ha hI), fun _ _ _ _ h => by simp at h⟩

theorem Mk.skip {n : Nat} {Z : Nat → Nat → Int} {I : Nat → Prop} {o : Nat → Bool} {xs : List Nat} {h : Nat} (k : Mk n Z I o (xs ++ [h])) (ho : o h = true) : Mk n Z I o xs := by
  have drop : ∀ {b : Nat}, o b = true ∨ b ∈ xs ++ [h] → o b = true ∨ b ∈ xs := by
    intro b hb
    rcases hb with hb | hb
    · exact Or.inl hb
    · rcases List.mem_append.1 hb with hb | hb
      · exact Or.inr hb
      · simp at hb; subst hb; exact Or.inl ho
  exact ⟨k.sound, fun x hx => k.work x (by simp [hx]), fun a ha hI => drop (k.init a ha hI), fun a b ha hb hoa hz => drop (k.closed a b ha hb hoa hz)⟩

theorem Mk.enter {n : Nat} {Z : Nat → Nat → Int} {I : Nat → Prop} {o : Nat → Bool} {xs : List Nat} {h : Nat} (k : Mk n Z I o (xs ++ [h])) : MkIn n Z I (setB o h) xs h 0 := by
  have hw := k.work h (by simp)
  have up : ∀ {b : Nat}, o b = true ∨ b ∈ xs ++ [h] → setB o h b = true ∨ b ∈ xs := by
    intro b hb
    rcases hb with hb | hb
    · left; unfold setB; split
      · rfl
      · exact hb
    · rcases List.mem_append.1 hb with hb | hb
      · exact Or.inr hb
      · simp at hb; subst hb; left; simp [setB]
  refine ⟨hw.1, by simp [setB], fun e he ho => ?_, fun x hx => k.work x (by simp [hx]), fun a ha hI => up (k.init a ha hI), fun a b ha hb ho hz hlt => ?_⟩
  · unfold setB at ho
    split at ho
    · rename_i e1; subst e1; exact hw.2
    · exact k.sound e he ho
  · unfold setB at ho
    split at ho
    · rename_i e1; exact absurd (hlt e1) (Nat.not_lt_zero _)
    · exact up (k.closed a b ha hb ho hz)

theorem MkIn.push {n : Nat} {Z : Nat → Nat → Int} {I : Nat → Prop} {o : Nat → Bool} {xs : List Nat} {h e : Nat} (k : MkIn n Z I o xs h e) (he : e < n) (hz : 0 < Z h e) : MkIn n Z I o (xs ++ [e]) h (e + 1) := by
  refine ⟨k.hn, k.mark, k.sound, fun x hx => ?_, fun a ha hI => (k.init a ha hI).imp id (fun q => by simp [q]), fun a b ha hb ho hz' hlt => ?_⟩
  · rcases List.mem_append.1 hx with hx | hx
    · exact k.work x hx
    · simp at hx; subst hx; exact ⟨he, (k.sound h k.hn k.mark).step k.hn he hz⟩
  · by_cases e1 : b = e
    · right; simp [e1]
    · exact (k.closed a b ha hb ho hz' (fun q => by have := hlt q; omega)).imp id (fun q => by simp [q])

theorem MkIn.pass {n : Nat} {Z : Nat → Nat → Int} {I : Nat → Prop} {o : Nat → Bool} {xs : List Nat} {h e : Nat} (k : MkIn n Z I o xs h e) (hz : ¬ 0 < Z h e) : MkIn n Z I o xs h (e + 1) := by
  refine ⟨k.hn, k.mark, k.sound, k.work, k.init, fun a b ha hb ho hz' hlt => k.closed a b ha hb ho hz' (fun q => ?_)⟩
  have := hlt q
  by_cases e1 : b = e
  · subst e1; subst q; exact absurd hz' hz
  · omega

theorem MkIn.leave {n : Nat} {Z : Nat → Nat → Int} {I : Nat → Prop} {o : Nat → Bool} {xs : List Nat} {h : Nat} (k : MkIn n Z I o xs h n) : Mk n Z I o xs :=
  ⟨k.sound, k.work, k.init, fun a b ha hb ho hz => k.closed a b ha hb ho hz (fun _ => hb)⟩

theorem Mk.done {n : Nat} {Z : Nat → Nat → Int} {I : Nat → Prop} {o : Nat → Bool} (k : Mk n Z I o []) : IsReach n Z I o :=
  ⟨fun a ha hI => (k.init a ha hI).elim id (fun q => by cases q), fun a b ha hb ho hz => (k.closed a b ha hb ho hz).elim id (fun q => by cases q), k.sound⟩

/-- the measure of the worklist's loop -/
def mz (n : Nat) (o : Nat → Bool) (len : Nat) : Nat := cnt (fun i => !o i) n * (n + 1) + len

theorem cnt_setB {n : Nat} {o : Nat → Bool} {h : Nat} (hn : h < n) (ho : o h = false) : cnt (fun i => !setB o h i) n + 1 ≤ cnt (fun i => !o i) n :=
  cnt_lt n (fun i _ hp => by unfold setB at hp; split at hp <;> simp_all) ⟨h, hn, by simp [setB], by simp [ho]⟩

theorem mz_setB {n : Nat} {o : Nat → Bool} {h len : Nat} (hn : h < n) (ho : o h = false) : mz n (setB o h) len + n + 1 ≤ mz n o len := by
  have := cnt_setB hn ho
  unfold mz
  have e : (cnt (fun i => !setB o h i) n + 1) * (n + 1) ≤ cnt (fun i => !o i) n * (n + 1) := Nat.mul_le_mul_right _ this
  rw [Nat.add_mul] at e
  omega

theorem mz_le {n : Nat} {o : Nat → Bool} {len : Nat} : mz n o len ≤ n * (n + 1) + len := by
  have := Nat.mul_le_mul_right (n + 1) (cnt_le (fun i => !o i) n)
  unfold mz
  omega

/-! ### the reference's sweeps -/
/-- one assignment of the reference's innermost loop -/
def stepE (Z : Nat → Nat → Int) (h e : Nat) (o : Nat → Bool) : Nat → Bool := if o h = true ∧ 0 < Z h e then setB o e else o
def sweepE (Z : Nat → Nat → Int) (h : Nat) (o : Nat → Bool) : Nat → Nat → Bool
  | 0 => o
  | e + 1 => stepE Z h e (sweepE Z h o e)
def sweepH (n : Nat) (Z : Nat → Nat → Int) (o : Nat → Bool) : Nat → Nat → Bool
  | 0 => o
  | h + 1 => sweepE Z h (sweepH n Z o h) n
def sweeps (n : Nat) (Z : Nat → Nat → Int) (o : Nat → Bool) : Nat → Nat → Bool
  | 0 => o
  | s + 1 => sweepH n Z (sweeps n Z o s) n

theorem stepE_grow {Z : Nat → Nat → Int} {h e i : Nat} {o : Nat → Bool} (ho : o i = true) : stepE Z h e o i = true := by
  unfold stepE; split
  · unfold setB; split
    · rfl
    · exact ho
  · exact ho
theorem sweepE_grow {Z : Nat → Nat → Int} {h i : Nat} {o : Nat → Bool} (ho : o i = true) : ∀ e, sweepE Z h o e i = true
  | 0 => ho
  | e + 1 => stepE_grow (sweepE_grow ho e)
theorem sweepH_grow {n : Nat} {Z : Nat → Nat → Int} {i : Nat} {o : Nat → Bool} (ho : o i = true) : ∀ h, sweepH n Z o h i = true
  | 0 => ho
  | h + 1 => sweepE_grow (sweepH_grow ho h) n

theorem sweepE_sound {n : Nat} {Z : Nat → Nat → Int} {I : Nat → Prop} {h : Nat} {o : Nat → Bool} (hn : h < n) (ho : ∀ e, e < n → o e = true → ReachF n Z I e) : ∀ k, k ≤ n → ∀ e, e < n → sweepE Z h o k e = true → ReachF n Z I e
  | 0, _ => ho
  | k + 1, hk => by
    intro e he hs
    have ih := sweepE_sound hn ho k (by omega)
    simp only [sweepE, stepE] at hs
    split at hs
    · rename_i hc
      unfold setB at hs
      split at hs
      · rename_i e1; subst e1; exact (ih h hn hc.1).step hn he hc.2
      · exact ih e he hs
    · exact ih e he hs
theorem sweepH_sound {n : Nat} {Z : Nat → Nat → Int} {I : Nat → Prop} {o : Nat → Bool} (ho : ∀ e, e < n → o e = true → ReachF n Z I e) : ∀ h, h ≤ n → ∀ e, e < n → sweepH n Z o h e = true → ReachF n Z I e
  | 0, _ => ho
  | h + 1, hh => sweepE_sound (by omega) (sweepH_sound ho h (by omega)) n (Nat.le_refl _)
theorem sweeps_sound {n : Nat} {Z : Nat → Nat → Int} {I : Nat → Prop} {o : Nat → Bool} (ho : ∀ e, e < n → o e = true → ReachF n Z I e) : ∀ s, ∀ e, e < n → sweeps n Z o s e = true → ReachF n Z I e
  | 0 => ho
  | s + 1 => sweepH_sound (sweeps_sound ho s) n (Nat.le_refl _)

/-- a sweep that marks nothing new proves the set closed; else one more is marked -/
theorem sweepE_hit {n : Nat} {Z : Nat → Nat → Int} {h b : Nat} {o : Nat → Bool} (ho : o h = true) (hz : 0 < Z h b) : ∀ e, b < e → sweepE Z h o e b = true
  | 0, hb => by omega
  | e + 1, hb => by
    simp only [sweepE]
    by_cases e1 : b = e
    · subst e1
      unfold stepE
      rw [if_pos ⟨sweepE_grow ho b, hz⟩]
      simp [setB]
    · exact stepE_grow (sweepE_hit (n := n) ho hz e (by omega))
theorem sweepH_hit {n : Nat} {Z : Nat → Nat → Int} {a b : Nat} {o : Nat → Bool} (ho : o a = true) (hb : b < n) (hz : 0 < Z a b) : ∀ h, a < h → sweepH n Z o h b = true
  | 0, ha => by omega
  | h + 1, ha => by
    simp only [sweepH]
    by_cases e1 : a = h
    · subst e1; exact sweepE_hit (n := n) (sweepH_grow ho a) hz n hb
    · exact sweepE_grow (sweepH_hit ho hb hz h (by omega)) n

def ClosedU (n : Nat) (Z : Nat → Nat → Int) (o : Nat → Bool) : Prop := ∀ a b, a < n → b < n → o a = true → 0 < Z a b → o b = true

theorem sweepH_closed {n : Nat} {Z : Nat → Nat → Int} {o : Nat → Bool} (hc : ClosedU n Z o) : ∀ i, i < n → sweepH n Z o n i = o i := by
  have hE : ∀ h, h < n → ∀ p : Nat → Bool, (∀ i, i < n → p i = o i) → ∀ k, k ≤ n → ∀ i, i < n → sweepE Z h p k i = o i := by
    intro h hh p hp k
    induction k with
    | zero => intro _; exact hp
    | succ k ih =>
      intro hk i hi
      have ih := ih (by omega)
      simp only [sweepE, stepE]
      split
      · rename_i hcc
        unfold setB
        split
        · rename_i e1; subst e1
          rw [ih h hh] at hcc
          exact (hc h i hh hi hcc.1 hcc.2).symm
        · exact ih i hi
      · exact ih i hi
  have hH : ∀ h, h ≤ n → ∀ i, i < n → sweepH n Z o h i = o i := by
    intro h
    induction h with
    | zero => intro _ i _; rfl
    | succ h ih => intro hh; exact hE h (by omega) _ (ih (by omega)) n (Nat.le_refl _)
  exact hH n (Nat.le_refl _)

theorem sweeps_grow {n : Nat} {Z : Nat → Nat → Int} {i : Nat} {o : Nat → Bool} (ho : o i = true) : ∀ s, sweeps n Z o s i = true
  | 0 => ho
  | s + 1 => sweepH_grow (sweeps_grow ho s) n

theorem sweeps_count {n : Nat} {Z : Nat → Nat → Int} {o : Nat → Bool} (h0 : 0 < cnt o n) : ∀ s, ClosedU n Z (sweeps n Z o s) ∨ s + 1 ≤ cnt (sweeps n Z o s) n
  | 0 => Or.inr h0
  | s + 1 => by
    have keep : ClosedU n Z (sweeps n Z o s) → ClosedU n Z (sweeps n Z o (s + 1)) := by
      intro hc a b ha hb hoa hz
      have e1 := sweepH_closed hc
      simp only [sweeps] at hoa ⊢
      rw [e1 a ha] at hoa
      rw [e1 b hb]
      exact hc a b ha hb hoa hz
    rcases sweeps_count h0 s with hc | hs
    · exact Or.inl (keep hc)
    · by_cases hc : ClosedU n Z (sweeps n Z o s)
      · exact Or.inl (keep hc)
      · right
        have hlt : cnt (sweeps n Z o s) n < cnt (sweeps n Z o (s + 1)) n := by
          refine cnt_lt n (fun i _ hp => sweepH_grow hp n) ?_
          refine Classical.byContradiction fun hno => hc fun a b ha hb hoa hz => ?_
          cases hob : sweeps n Z o s b
          · exact absurd ⟨b, hb, hob, sweepH_hit hoa hb hz n ha⟩ hno
          · rfl
        omega

theorem sweeps_isReach {n : Nat} {Z : Nat → Nat → Int} {from' : Nat} (hf : from' < n) : IsReach n Z (fun x => x = from') (sweeps n Z (fun i => i == from') n) := by
  have h0 : 0 < cnt (fun i => i == from') n := cnt_pos n hf (by simp)
  refine ⟨fun a _ ha => sweeps_grow (by simp [ha]) n, ?_, sweeps_sound (fun e _ he => by simp at he; subst he; exact ReachF.init rfl) n⟩
  rcases sweeps_count (Z := Z) h0 n with hc | hs
  · exact hc
  · have := cnt_le (sweeps n Z (fun i => i == from') n) n
    omega

end Go.Proofs.Ytnkdcmloehandaa.Plain
