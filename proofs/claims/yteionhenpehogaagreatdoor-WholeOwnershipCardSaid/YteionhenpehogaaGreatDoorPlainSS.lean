import Derived.Test.YteionhenpehogaaGreatDoorPlainZ
namespace Tally
theorem sum_le {n : Nat} {f g : Nat → Rat} (h : ∀ k, k < n → f k ≤ g k) : sumTo n f ≤ sumTo n g := by
 induction n with
 | zero => exact Rat.le_refl
 | succ n ih =>
  simp only [sumTo]
  have h1 := ih (fun k hk => h k (by omega))
  have h2 := h n (by omega)
  grind
theorem sum_lt {n k : Nat} {f g : Nat → Rat} (h : ∀ j, j < n → f j ≤ g j) (hk : k < n) (hlt : f k < g k) : sumTo n f < sumTo n g := by
 induction n with
 | zero => omega
 | succ n ih =>
  simp only [sumTo]
  by_cases e : k = n
  ·subst e
   have h1 := sum_le (fun j hj => h j (by omega) : ∀ j, j < k → f j ≤ g j)
   grind
  ·have h1 := ih (fun j hj => h j (by omega)) (by omega)
   have h2 := h n (by omega)
   grind
theorem mul_up {b x y : Rat} (hb : 0 ≤ b) (h : x ≤ y) : b * x ≤ b * y := Rat.mul_le_mul_of_nonneg_left h hb
theorem mul_up_lt {b x y : Rat} (hb : 0 < b) (h : x < y) : b * x < b * y := by
 have := Rat.mul_lt_mul_of_pos_left h hb
 exact this
theorem top_of (n : Nat) (x : Nat → Rat) : ∃ M : Rat, 0 ≤ M ∧ (∀ k, k < n → -M ≤ x k ∧ x k ≤ M) ∧ (M = 0 ∨ ∃ k, k < n ∧ (x k = M ∨ x k = -M)) := by
 induction n with
 | zero => exact ⟨0, Rat.le_refl, fun k hk => absurd hk (Nat.not_lt_zero _), .inl rfl⟩
 | succ n ih =>
  obtain ⟨M, h0, h1, h2⟩ := ih
  by_cases hp : M < x n
  ·refine ⟨x n, by grind, fun k hk => ?_, .inr ⟨n, by omega, .inl rfl⟩⟩
   by_cases e : k = n
   ·subst e; grind
   ·have := h1 k (by omega); grind
  ·by_cases hm : x n < -M
   ·refine ⟨-x n, by grind, fun k hk => ?_, .inr ⟨n, by omega, .inr (by grind)⟩⟩
    by_cases e : k = n
    ·subst e; grind
    ·have := h1 k (by omega); grind
   ·refine ⟨M, h0, fun k hk => ?_, ?_⟩
    ·by_cases e : k = n
     ·subst e; grind
     ·exact h1 k (by omega)
    ·rcases h2 with h2 | ⟨k, hk, h2⟩
     ·exact .inl h2
     ·exact .inr ⟨k, by omega, h2⟩
inductive Fed (n : Nat) (B : Mx) (d : Nat → Rat) : Nat → Prop
 | start (i : Nat) : i < n → 0 < d i → Fed n B d i
 | step (i k : Nat) : i < n → k < n → Fed n B d k → 0 < B i k → Fed n B d i
section
variable {n : Nat} {B : Mx} {d x : Nat → Rat}
theorem fed_less {M : Rat} (hB : ∀ i k, i < n → k < n → 0 ≤ B i k) (hd : ∀ i, i < n → 0 ≤ d i) (hs : ∀ i, i < n → sumTo n (B i) + d i ≤ 1) (hx : ∀ i, i < n → x i = sumTo n (fun k => B i k * x k)) (hM : 0 < M) (hb : ∀ k, k < n → -M ≤ x k ∧ x k ≤ M) {i : Nat} (hf : Fed n B d i) : -M < x i ∧ x i < M := by
 induction hf with
 | start i hi hdi =>
  have e := hx i hi
  have u1 : sumTo n (fun k => B i k * x k) ≤ sumTo n (fun k => M * B i k) := sum_le fun k hk => by have := mul_up (hB i k hi hk) (hb k hk).2; grind
  have u2 : sumTo n (fun k => (-M) * B i k) ≤ sumTo n (fun k => B i k * x k) := sum_le fun k hk => by have := mul_up (hB i k hi hk) (hb k hk).1; grind
  rw [sumTo_mul] at u1 u2
  have h1 := hs i hi
  have h2 : sumTo n (B i) < 1 := by grind
  have h3 := mul_up_lt hM h2
  grind
 | step i k hi hk _ hp ih =>
  have e := hx i hi
  have u1 : sumTo n (fun k => B i k * x k) < sumTo n (fun k => M * B i k) := sum_lt (fun j hj => by have := mul_up (hB i j hi hj) (hb j hj).2; grind) hk (by have := mul_up_lt hp ih.2; grind)
  have u2 : sumTo n (fun k => (-M) * B i k) < sumTo n (fun k => B i k * x k) := sum_lt (fun j hj => by have := mul_up (hB i j hi hj) (hb j hj).1; grind) hk (by have := mul_up_lt hp ih.1; grind)
  rw [sumTo_mul] at u1 u2
  have h1 := hs i hi
  have h0 := hd i hi
  have h2 : sumTo n (B i) ≤ 1 := by grind
  have h3 := mul_up (Rat.le_of_lt hM) h2
  grind
theorem fed_zero (hB : ∀ i k, i < n → k < n → 0 ≤ B i k) (hd : ∀ i, i < n → 0 ≤ d i) (hs : ∀ i, i < n → sumTo n (B i) + d i ≤ 1) (hf : ∀ i, i < n → Fed n B d i) (hx : ∀ i, i < n → x i = sumTo n (fun k => B i k * x k)) : ∀ i, i < n → x i = 0 := by
 obtain ⟨M, h0, hb, ht⟩ := top_of n x
 have hz : M = 0 := by
  rcases ht with h | ⟨k, hk, h⟩
  ·exact h
  ·by_cases hM : 0 < M
   ·have := fed_less hB hd hs hx hM hb (hf k hk)
    grind
   ·grind
 intro i hi
 have := hb i hi
 grind
def eqM (B : Mx) : Mx := fun i k => (if k = i then 1 else 0) - B i k
theorem eq_sum {i : Nat} (hi : i < n) (z : Nat → Rat) : sumTo n (fun k => eqM B i k * z k) = z i - sumTo n (fun k => B i k * z k) := by
 have h1 : sumTo n (fun k => (if k = i then 1 else 0) * z k) = z i := by
  rw [sumTo_one (j := i) hi (fun k hk hn => by rw [if_neg hn]; exact Rat.zero_mul _), if_pos rfl]
  exact Rat.one_mul _
 have h2 : sumTo n (fun k => eqM B i k * z k) = sumTo n (fun k => (if k = i then 1 else 0) * z k + (-1) * (B i k * z k)) := sumTo_congr fun k _ => by simp only [eqM]; grind
 rw [h2, sumTo_add, sumTo_mul, h1]
 grind
theorem fed_rank {y : Nat → Rat} {s : St} (hB : ∀ i k, i < n → k < n → 0 ≤ B i k) (hd : ∀ i, i < n → 0 ≤ d i) (hs : ∀ i, i < n → sumTo n (B i) + d i ≤ 1) (hf : ∀ i, i < n → Fed n B d i) (h : Run upR n (wideM n (eqM B) y) n s) : s.rank = n := by
 rcases run_kernel h (Nat.le_refl n) with h1 | ⟨z, ⟨k, hk, hz⟩, hn⟩
 ·exact h1
 ·exfalso
  refine hz (fed_zero hB hd hs hf (fun i hi => ?_) k hk)
  have h2 := hn i hi
  rw [sumTo_congr (g := fun k => eqM B i k * z k) (fun k hk => by rw [wide_at hk]), eq_sum hi] at h2
  grind
end
end Tally
namespace Tally
structure Hds where
 ho : Nat → Int
 en : Nat → Int
 sh : Nat → Int
 da : Nat → Int
def isum : Nat → (Nat → Int) → Int
 | 0, _ => 0
 | n + 1, f => isum n f + f n
theorem isum_congr {n : Nat} {f g : Nat → Int} (h : ∀ k, k < n → f k = g k) : isum n f = isum n g := by
 induction n with
 | zero => rfl
 | succ n ih => simp only [isum]; rw [ih (fun k hk => h k (by omega)), h n (by omega)]
theorem isum_zero {n : Nat} {f : Nat → Int} (h : ∀ k, k < n → f k = 0) : isum n f = 0 := by
 induction n with
 | zero => rfl
 | succ n ih => simp only [isum]; rw [ih (fun k hk => h k (by omega)), h n (by omega)]; rfl
theorem isum_set {n j : Nat} {f : Nat → Int} {d : Int} (hj : j < n) : isum n (fun k => if k = j then f k + d else f k) = isum n f + d := by
 induction n with
 | zero => omega
 | succ n ih =>
  simp only [isum]
  by_cases e : j = n
  ·subst e
   rw [if_pos rfl, isum_congr (g := f) (fun k hk => if_neg (by omega))]; omega
  ·rw [ih (by omega), if_neg (show ¬ n = j by omega)]; omega
theorem isum_le {n : Nat} {f g : Nat → Int} (h : ∀ k, k < n → f k ≤ g k) : isum n f ≤ isum n g := by
 induction n with
 | zero => exact Int.le_refl _
 | succ n ih =>
  simp only [isum]
  have := ih (fun k hk => h k (by omega))
  have := h n (by omega)
  omega
section
variable (H : Hds)
def Hds.hits (h e day : Int) (i : Nat) : Prop := H.ho i = h ∧ H.en i = e ∧ H.da i ≤ day
instance (h e day : Int) (i : Nat) : Decidable (H.hits h e day i) := by unfold Hds.hits; exact inferInstance
def Hds.best (h e day : Int) : Nat → Option Nat
 | 0 => none
 | k + 1 => if H.hits h e day k then (match Hds.best h e day k with
  | none => some k
  | some i => if H.da i < H.da k then some k else some i) else Hds.best h e day k
def Hds.at (h e day : Int) (k : Nat) : Int := match H.best h e day k with
 | none => 0
 | some i => H.sh i
variable {H}
theorem best_some {h e day : Int} {k i : Nat} (hb : H.best h e day k = some i) : i < k ∧ H.hits h e day i := by
 induction k generalizing i with
 | zero => simp [Hds.best] at hb
 | succ k ih =>
  unfold Hds.best at hb
  by_cases hk : H.hits h e day k
  ·rw [if_pos hk] at hb
   cases hc : H.best h e day k with
   | none => rw [hc] at hb; obtain rfl := Option.some.inj hb; exact ⟨by omega, hk⟩
   | some j =>
    rw [hc] at hb
    dsimp only at hb
    by_cases hd : H.da j < H.da k
    ·rw [if_pos hd] at hb; obtain rfl := Option.some.inj hb; exact ⟨by omega, hk⟩
    ·rw [if_neg hd] at hb; obtain rfl := Option.some.inj hb; have := ih hc; exact ⟨by omega, this.2⟩
  ·rw [if_neg hk] at hb
   have := ih hb
   exact ⟨by omega, this.2⟩
theorem best_none {h e day : Int} {k : Nat} (hn : ∀ i, i < k → ¬ H.hits h e day i) : H.best h e day k = none := by
 induction k with
 | zero => rfl
 | succ k ih =>
  unfold Hds.best
  rw [if_neg (hn k (by omega))]
  exact ih (fun i hi => hn i (by omega))
theorem best_congr {h e day day2 : Int} {k : Nat} (hc : ∀ i, i < k → H.en i = e → (H.da i ≤ day ↔ H.da i ≤ day2)) : H.best h e day k = H.best h e day2 k := by
 induction k with
 | zero => rfl
 | succ k ih =>
  have h1 := ih (fun i hi => hc i (by omega))
  unfold Hds.best
  rw [h1]
  have h2 : H.hits h e day k ↔ H.hits h e day2 k := by
   unfold Hds.hits
   constructor
   ·rintro ⟨a, b, c⟩; exact ⟨a, b, (hc k (by omega) b).1 c⟩
   ·rintro ⟨a, b, c⟩; exact ⟨a, b, (hc k (by omega) b).2 c⟩
  by_cases q : H.hits h e day k
  ·rw [if_pos q, if_pos (h2.1 q)]
  ·rw [if_neg q, if_neg (fun z => q (h2.2 z))]
theorem at_congr {h e day day2 : Int} {k : Nat} (hc : ∀ i, i < k → H.en i = e → (H.da i ≤ day ↔ H.da i ≤ day2)) : H.at h e day k = H.at h e day2 k := by unfold Hds.at; rw [best_congr hc]
theorem at_none {h e day : Int} {k : Nat} (hn : ∀ i, i < k → ¬ H.hits h e day i) : H.at h e day k = 0 := by unfold Hds.at; rw [best_none hn]
theorem at_range {h e day : Int} {k : Nat} (hs : ∀ i, i < k → 0 ≤ H.sh i ∧ H.sh i ≤ 10000) : 0 ≤ H.at h e day k ∧ H.at h e day k ≤ 10000 := by
 unfold Hds.at
 cases hb : H.best h e day k with
 | none => exact ⟨Int.le_refl _, show (0 : Int) ≤ 10000 by decide⟩
 | some i => exact hs i (best_some hb).1
def Hds.tot (H : Hds) (n : Nat) (e day : Int) (k : Nat) : Int := isum n fun h => H.at (h : Nat) e day k
theorem tot_congr {n k : Nat} {e day day2 : Int} (hc : ∀ i, i < k → H.en i = e → (H.da i ≤ day ↔ H.da i ≤ day2)) : H.tot n e day k = H.tot n e day2 k := isum_congr fun _ _ => at_congr hc
theorem tot_none {n k : Nat} {e day : Int} (hn : ∀ i, i < k → H.en i = e → ¬ H.da i ≤ day) : H.tot n e day k = 0 := isum_zero fun _ _ => at_none fun i hi q => hn i hi q.2.1 q.2.2
theorem last_date {k : Nat} {e day : Int} : (∀ i, i < k → H.en i = e → ¬ H.da i ≤ day) ∨ ∃ j, j < k ∧ H.en j = e ∧ H.da j ≤ day ∧ ∀ i, i < k → H.en i = e → H.da i ≤ day → H.da i ≤ H.da j := by
 induction k with
 | zero => exact .inl fun i hi => absurd hi (Nat.not_lt_zero _)
 | succ k ih =>
  by_cases hk : H.en k = e ∧ H.da k ≤ day
  ·rcases ih with h | ⟨j, h1, h2, h3, h4⟩
   ·refine .inr ⟨k, by omega, hk.1, hk.2, fun i hi a b => ?_⟩
    by_cases q : i = k
    ·subst q; exact Int.le_refl _
    ·exact absurd b (h i (by omega) a)
   ·by_cases hd : H.da j < H.da k
    ·refine .inr ⟨k, by omega, hk.1, hk.2, fun i hi a b => ?_⟩
     by_cases q : i = k
     ·subst q; exact Int.le_refl _
     ·have := h4 i (by omega) a b; omega
    ·refine .inr ⟨j, by omega, h2, h3, fun i hi a b => ?_⟩
     by_cases q : i = k
     ·subst q; omega
     ·exact h4 i (by omega) a b
  ·rcases ih with h | ⟨j, h1, h2, h3, h4⟩
   ·refine .inl fun i hi a b => ?_
    by_cases q : i = k
    ·subst q; exact hk ⟨a, b⟩
    ·exact h i (by omega) a b
   ·refine .inr ⟨j, by omega, h2, h3, fun i hi a b => ?_⟩
    by_cases q : i = k
    ·subst q; exact absurd ⟨a, b⟩ hk
    ·exact h4 i (by omega) a b
theorem tot_all {n k : Nat} (hv : ∀ i, i < k → H.tot n (H.en i) (H.da i) k ≤ 10000) (e day : Int) : H.tot n e day k ≤ 10000 := by
 rcases last_date (H := H) (k := k) (e := e) (day := day) with h | ⟨j, h1, h2, h3, h4⟩
 ·rw [tot_none h]; decide
 ·have := hv j h1
  rw [h2] at this
  rwa [tot_congr (day := day) (day2 := H.da j) fun i hi a => ⟨fun b => h4 i hi a b, fun b => Int.le_trans b h3⟩]
theorem tot_occur {n k : Nat} {e day : Int} [∀ h : Nat, Decidable (∃ i, i < k ∧ H.ho i = (h : Nat))] : isum n (fun h => if (∃ i, i < k ∧ H.ho i = (h : Nat)) then H.at (h : Nat) e day k else 0) = H.tot n e day k := by
 refine isum_congr fun h _ => ?_
 by_cases z : ∃ i, i < k ∧ H.ho i = (h : Nat)
 ·rw [if_pos z]
 ·rw [if_neg z, at_none]
  intro i hi q
  exact z ⟨i, hi, q.1⟩
end
end Tally
namespace Tally
section
variable {H : Hds} {n k : Nat}
def goodDate (d : Int) : Prop := -25567 ≤ d ∧ d ≤ 84005
instance (d : Int) : Decidable (goodDate d) := by unfold goodDate; exact inferInstance
def Hds.proper (H : Hds) (n : Int) (i : Nat) : Prop := 0 ≤ H.ho i ∧ H.ho i < n ∧ 0 ≤ H.en i ∧ H.en i < n ∧ H.ho i ≠ H.en i ∧ goodDate (H.da i) ∧ 0 ≤ H.sh i ∧ H.sh i ≤ 10000
instance (H : Hds) (n : Int) (i : Nat) : Decidable (H.proper n i) := by unfold Hds.proper; exact inferInstance
def Hds.same (H : Hds) (i j : Nat) : Prop := H.ho i = H.ho j ∧ H.en i = H.en j ∧ H.da i = H.da j
instance (H : Hds) (i j : Nat) : Decidable (H.same i j) := by unfold Hds.same; exact inferInstance
def Hds.fine (H : Hds) (n : Int) (q : Nat) : Prop := ∀ i, i < q → H.proper n i ∧ ∀ j, j < i → ¬ H.same j i
def Hds.valid (H : Hds) (n : Int) (k : Nat) : Prop := 1 ≤ n ∧ n ≤ 12 ∧ k ≤ 200 ∧ H.fine n k ∧ ∀ e day, H.tot n.toNat e day k ≤ 10000
theorem Hds.fine.succ {n : Int} {q : Nat} (h : H.fine n q) (hp : H.proper n q) (hs : ∀ j, j < q → ¬ H.same j q) : H.fine n (q + 1) := fun i hi => by
 by_cases e : i = q
 ·subst e; exact ⟨hp, hs⟩
 ·exact h i (by omega)
theorem Hds.fine.start {n : Int} : H.fine n 0 := fun _ hi => absurd hi (Nat.not_lt_zero _)
theorem not_valid_proper {n : Int} {q : Nat} (hq : q < k) (h : ¬ H.proper n q) : ¬ H.valid n k := fun v => h (v.2.2.2.1 q hq).1
theorem not_valid_same {n : Int} {q j : Nat} (hq : q < k) (hj : j < q) (h : H.same j q) : ¬ H.valid n k := fun v => (v.2.2.2.1 q hq).2 j hj h
theorem not_valid_tot {n : Int} {e day : Int} (h : 10000 < H.tot n.toNat e day k) : ¬ H.valid n k := fun v => by have := v.2.2.2.2 e day; omega
theorem valid_own {n : Int} (h1 : 1 ≤ n) (h2 : n ≤ 12) (h3 : k ≤ 200) (hf : H.fine n k) (ht : ∀ i, i < k → H.tot n.toNat (H.en i) (H.da i) k ≤ 10000) : H.valid n k := ⟨h1, h2, h3, hf, tot_all ht⟩
theorem Hds.fine.sh {n : Int} (h : H.fine n k) : ∀ i, i < k → 0 ≤ H.sh i ∧ H.sh i ≤ 10000 := fun i hi => (h i hi).1.2.2.2.2.2.2
theorem Hds.fine.ho {n : Int} (h : H.fine n k) : ∀ i, i < k → 0 ≤ H.ho i ∧ H.ho i < n := fun i hi => ⟨(h i hi).1.1, (h i hi).1.2.1⟩
theorem isum_range {f : Nat → Int} {c : Int} (hf : ∀ i, i < n → 0 ≤ f i ∧ f i ≤ c) : 0 ≤ isum n f ∧ isum n f ≤ n * c := by
 induction n with
 | zero => exact ⟨Int.le_refl _, by simp [isum]⟩
 | succ n ih =>
  obtain ⟨a, b⟩ := ih fun i hi => hf i (by omega)
  obtain ⟨c1, c2⟩ := hf n (by omega)
  have e : ((n + 1 : Nat) : Int) * c = n * c + c := by grind
  simp only [isum]
  omega
theorem isum_more {p q : Nat → Bool} {f : Nat → Int} {j : Nat} (hj : j < n) (hp : p j = false) (hq : q j = true) (ho : ∀ i, i < n → i ≠ j → q i = p i) :
  isum n (fun i => if q i = true then f i else 0) = isum n (fun i => if p i = true then f i else 0) + f j := by
 rw [← isum_set (f := fun i => if p i = true then f i else 0) (d := f j) hj]
 refine isum_congr fun i hi => ?_
 by_cases e : i = j
 ·subst e
  rw [if_pos rfl, if_pos hq, if_neg (by rw [hp]; decide)]; omega
 ·rw [if_neg e, ho i hi e]
end
end Tally
namespace Graph.Plain
def sumTo (f : Nat → Int) : Nat → Int
 | 0 => 0
 | n + 1 => sumTo f n + f n
def cnt (p : Nat → Bool) : Nat → Nat
 | 0 => 0
 | n + 1 => cnt p n + (if p n then 1 else 0)
theorem cnt_le (p : Nat → Bool) : ∀ n, cnt p n ≤ n
 | 0 => Nat.le_refl _
 | n + 1 => by have := cnt_le p n; unfold cnt; split <;> omega
theorem cnt_mono {p q : Nat → Bool} : ∀ n, (∀ i, i < n → p i = true → q i = true) → cnt p n ≤ cnt q n
 | 0, _ => Nat.le_refl _
 | n + 1, h => by
  have ih := cnt_mono n (fun i hi => h i (by omega))
  have := h n (by omega)
  unfold cnt
  split <;> split <;> first | omega | (rename_i a b; exact absurd (this a) b)
theorem cnt_lt {p q : Nat → Bool} : ∀ n, (∀ i, i < n → p i = true → q i = true) → (∃ i, i < n ∧ p i = false ∧ q i = true) → cnt p n < cnt q n
 | 0, _, h => by obtain ⟨i, hi, _⟩ := h; omega
 | n + 1, h, ⟨i, hi, h1, h2⟩ => by
  by_cases e : i = n
  ·subst e
   have ih := cnt_mono i (fun j hj => h j (by omega))
   simp only [cnt, h1, h2]
   simp
   omega
  ·have ih := cnt_lt n (fun j hj => h j (by omega)) ⟨i, by omega, h1, h2⟩
   have hn := h n (by omega)
   simp only [cnt]
   split <;> split <;> first | omega | (rename_i a b; exact absurd (hn a) b)
theorem sumTo_congr {f g : Nat → Int} : ∀ n, (∀ i, i < n → f i = g i) → sumTo f n = sumTo g n
 | 0, _ => rfl
 | n + 1, h => by simp only [sumTo]; rw [sumTo_congr n (fun i hi => h i (by omega)), h n (by omega)]
def ReachF (n : Nat) (Z : Nat → Nat → Int) (I : Nat → Prop) (e : Nat) : Prop :=
 ∀ S : Nat → Prop, (∀ a, I a → S a) → (∀ a b, a < n → b < n → S a → 0 < Z a b → S b) → S e
theorem ReachF.init {n : Nat} {Z : Nat → Nat → Int} {I : Nat → Prop} {a : Nat} (h : I a) : ReachF n Z I a := fun _ h1 _ => h1 a h
theorem ReachF.step {n : Nat} {Z : Nat → Nat → Int} {I : Nat → Prop} {a b : Nat} (h : ReachF n Z I a) (ha : a < n) (hb : b < n) (hz : 0 < Z a b) : ReachF n Z I b :=
 fun S h1 h2 => h2 a b ha hb (h S h1 h2) hz
theorem ReachF.mono {n : Nat} {Z : Nat → Nat → Int} {I J : Nat → Prop} {e : Nat} (h : ReachF n Z I e) (hIJ : ∀ a, I a → ReachF n Z J a) : ReachF n Z J e :=
 h (ReachF n Z J) hIJ fun _ _ ha hb hS hz => hS.step ha hb hz
def R (n : Nat) (Z : Nat → Nat → Int) (h e : Nat) : Prop := ReachF n Z (fun x => x = h) e
theorem R.trans {n : Nat} {Z : Nat → Nat → Int} {a b c : Nat} (h : R n Z a b) (k : R n Z b c) : R n Z a c :=
 ReachF.mono k fun x hx => by subst hx; exact h
structure IsReach (n : Nat) (Z : Nat → Nat → Int) (I : Nat → Prop) (o : Nat → Bool) : Prop where
 init : ∀ a, a < n → I a → o a = true
 closed : ∀ a b, a < n → b < n → o a = true → 0 < Z a b → o b = true
 sound : ∀ e, e < n → o e = true → ReachF n Z I e
theorem IsReach.iff {n : Nat} {Z : Nat → Nat → Int} {I : Nat → Prop} {o : Nat → Bool} (h : IsReach n Z I o) {e : Nat} (he : e < n) : o e = true ↔ ReachF n Z I e :=
 ⟨h.sound e he, fun k => k (fun x => x < n → o x = true) (fun a ha hn => h.init a hn ha) (fun a b ha hb hS hz _ => h.closed a b ha hb (hS ha) hz) he⟩
structure Mk (n : Nat) (Z : Nat → Nat → Int) (I : Nat → Prop) (o : Nat → Bool) (xs : List Nat) : Prop where
 sound : ∀ e, e < n → o e = true → ReachF n Z I e
 work : ∀ x, x ∈ xs → x < n ∧ ReachF n Z I x
 init : ∀ a, a < n → I a → o a = true ∨ a ∈ xs
 closed : ∀ a b, a < n → b < n → o a = true → 0 < Z a b → o b = true ∨ b ∈ xs
structure MkIn (n : Nat) (Z : Nat → Nat → Int) (I : Nat → Prop) (o : Nat → Bool) (xs : List Nat) (h e : Nat) : Prop where
 hn : h < n
 mark : o h = true
 sound : ∀ e, e < n → o e = true → ReachF n Z I e
 work : ∀ x, x ∈ xs → x < n ∧ ReachF n Z I x
 init : ∀ a, a < n → I a → o a = true ∨ a ∈ xs
 closed : ∀ a b, a < n → b < n → o a = true → 0 < Z a b → (a = h → b < e) → o b = true ∨ b ∈ xs
def setB (o : Nat → Bool) (h : Nat) : Nat → Bool := fun i => if i = h then true else o i
theorem Mk.start {n : Nat} {Z : Nat → Nat → Int} {I : Nat → Prop} {xs : List Nat} (h1 : ∀ x, x ∈ xs → x < n) (h2 : ∀ x, x ∈ xs → I x) (h3 : ∀ a, a < n → I a → a ∈ xs) : Mk n Z I (fun _ => false) xs :=
 ⟨fun _ _ h => by simp at h, fun x hx => ⟨h1 x hx, ReachF.init (h2 x hx)⟩, fun a ha hI => Or.inr (h3 a ha hI), fun _ _ _ _ h => by simp at h⟩
theorem Mk.skip {n : Nat} {Z : Nat → Nat → Int} {I : Nat → Prop} {o : Nat → Bool} {xs : List Nat} {h : Nat} (k : Mk n Z I o (xs ++ [h])) (ho : o h = true) : Mk n Z I o xs := by
 have drop : ∀ {b : Nat}, o b = true ∨ b ∈ xs ++ [h] → o b = true ∨ b ∈ xs := by
  intro b hb
  rcases hb with hb | hb
  ·exact Or.inl hb
  ·rcases List.mem_append.1 hb with hb | hb
   ·exact Or.inr hb
   ·simp at hb; subst hb; exact Or.inl ho
 exact ⟨k.sound, fun x hx => k.work x (by simp [hx]), fun a ha hI => drop (k.init a ha hI), fun a b ha hb hoa hz => drop (k.closed a b ha hb hoa hz)⟩
theorem Mk.enter {n : Nat} {Z : Nat → Nat → Int} {I : Nat → Prop} {o : Nat → Bool} {xs : List Nat} {h : Nat} (k : Mk n Z I o (xs ++ [h])) : MkIn n Z I (setB o h) xs h 0 := by
 have hw := k.work h (by simp)
 have up : ∀ {b : Nat}, o b = true ∨ b ∈ xs ++ [h] → setB o h b = true ∨ b ∈ xs := by
  intro b hb
  rcases hb with hb | hb
  ·left; unfold setB; split
   ·rfl
   ·exact hb
  ·rcases List.mem_append.1 hb with hb | hb
   ·exact Or.inr hb
   ·simp at hb; subst hb; left; simp [setB]
 refine ⟨hw.1, by simp [setB], fun e he ho => ?_, fun x hx => k.work x (by simp [hx]), fun a ha hI => up (k.init a ha hI), fun a b ha hb ho hz hlt => ?_⟩
 ·unfold setB at ho
  split at ho
  ·rename_i e1; subst e1; exact hw.2
  ·exact k.sound e he ho
 ·unfold setB at ho
  split at ho
  ·rename_i e1; exact absurd (hlt e1) (Nat.not_lt_zero _)
  ·exact up (k.closed a b ha hb ho hz)
theorem MkIn.push {n : Nat} {Z : Nat → Nat → Int} {I : Nat → Prop} {o : Nat → Bool} {xs : List Nat} {h e : Nat} (k : MkIn n Z I o xs h e) (he : e < n) (hz : 0 < Z h e) : MkIn n Z I o (xs ++ [e]) h (e + 1) := by
 refine ⟨k.hn, k.mark, k.sound, fun x hx => ?_, fun a ha hI => (k.init a ha hI).imp id (fun q => by simp [q]), fun a b ha hb ho hz' hlt => ?_⟩
 ·rcases List.mem_append.1 hx with hx | hx
  ·exact k.work x hx
  ·simp at hx; subst hx; exact ⟨he, (k.sound h k.hn k.mark).step k.hn he hz⟩
 ·by_cases e1 : b = e
  ·right; simp [e1]
  ·exact (k.closed a b ha hb ho hz' (fun q => by have := hlt q; omega)).imp id (fun q => by simp [q])
theorem MkIn.pass {n : Nat} {Z : Nat → Nat → Int} {I : Nat → Prop} {o : Nat → Bool} {xs : List Nat} {h e : Nat} (k : MkIn n Z I o xs h e) (hz : ¬ 0 < Z h e) : MkIn n Z I o xs h (e + 1) := by
 refine ⟨k.hn, k.mark, k.sound, k.work, k.init, fun a b ha hb ho hz' hlt => k.closed a b ha hb ho hz' (fun q => ?_)⟩
 have := hlt q
 by_cases e1 : b = e
 ·subst e1; subst q; exact absurd hz' hz
 ·omega
theorem MkIn.leave {n : Nat} {Z : Nat → Nat → Int} {I : Nat → Prop} {o : Nat → Bool} {xs : List Nat} {h : Nat} (k : MkIn n Z I o xs h n) : Mk n Z I o xs :=
 ⟨k.sound, k.work, k.init, fun a b ha hb ho hz => k.closed a b ha hb ho hz (fun _ => hb)⟩
theorem Mk.done {n : Nat} {Z : Nat → Nat → Int} {I : Nat → Prop} {o : Nat → Bool} (k : Mk n Z I o []) : IsReach n Z I o :=
 ⟨fun a ha hI => (k.init a ha hI).elim id (fun q => by cases q), fun a b ha hb ho hz => (k.closed a b ha hb ho hz).elim id (fun q => by cases q), k.sound⟩
def mz (n : Nat) (o : Nat → Bool) (len : Nat) : Nat := cnt (fun i => !o i) n * (n + 1) + len
theorem cnt_setB {n : Nat} {o : Nat → Bool} {h : Nat} (hn : h < n) (ho : o h = false) : cnt (fun i => !setB o h i) n + 1 ≤ cnt (fun i => !o i) n :=
 cnt_lt n (fun i _ hp => by unfold setB at hp; split at hp <;> simp_all) ⟨h, hn, by simp [setB], by simp [ho]⟩
theorem mz_setB {n : Nat} {o : Nat → Bool} {h len : Nat} (hn : h < n) (ho : o h = false) : mz n (setB o h) len + n + 1 ≤ mz n o len := by
 have := cnt_setB hn ho
 unfold mz
 have e : (cnt (fun i => !setB o h i) n + 1) * (n + 1) ≤ cnt (fun i => !o i) n * (n + 1) := Nat.mul_le_mul_right _ this
 rw [Nat.add_mul] at e
 omega
theorem mz_le {n : Nat} {o : Nat → Bool} {len : Nat} : mz n o len ≤ n * (n + 1) + len := by
 have := Nat.mul_le_mul_right (n + 1) (cnt_le (fun i => !o i) n)
 unfold mz
 omega
end Graph.Plain
namespace Graph.Plain
def hold (Z : Nat → Nat → Int) (o : Nat → Bool) (e : Nat) (n : Nat) : Int := sumTo (fun h => if o h = true then Z h e else 0) n
def IsClosed (n : Nat) (Z : Nat → Nat → Int) (o : Nat → Bool) : Prop := ∀ e, e < n → o e = true → hold Z o e n = 10000
structure Great (n : Nat) (Z : Nat → Nat → Int) (o : Nat → Bool) : Prop where
 closed : IsClosed n Z o
 all : ∀ p : Nat → Bool, IsClosed n Z p → ∀ i, i < n → p i = true → o i = true
def has (l : List Nat) : Nat → Bool := fun i => l.contains i
end Graph.Plain
namespace Graph.Plain
end Graph.Plain
namespace Tally
open Graph.Plain (ReachF)
theorem fed_of_reach {n m : Nat} {Z : Nat → Nat → Int} {I : Nat → Prop} {P : Nat → Nat} {B : Mx} {d : Nat → Rat} (hP : ∀ e, e < n → ReachF n Z I e → ∃ k, k < m ∧ P k = e) (hPn : ∀ i, i < m → P i < n ∧ ReachF n Z I (P i))
  (hd : ∀ i, i < m → I (P i) → 0 < d i) (hB : ∀ i k, i < m → k < m → 0 < Z (P k) (P i) → 0 < B i k) : ∀ i, i < m → Fed m B d i := by
 intro i hi
 have key := (hPn i hi).2 (fun x => ReachF n Z I x ∧ (x < n → ∀ i, i < m → P i = x → Fed m B d i))
  (fun a ha => ⟨ReachF.init ha, fun _ j hj e => Fed.start j hj (hd j hj (by rw [e]; exact ha))⟩)
  (fun a b ha hb hS hz => ⟨hS.1.step ha hb hz, fun _ j hj e => by
   obtain ⟨k, hk, hkp⟩ := hP a ha hS.1
   exact Fed.step j k hj hk (hS.2 ha k hk hkp) (hB j k hj hk (by rw [hkp, e]; exact hz))⟩)
 exact key.2 (hPn i hi).1 i hi rfl
def part (z : Int) : Rat := Rat.divInt z 10000
theorem part_eq (z : Int) : part z = (z : Rat) / 10000 := by
 unfold part
 rw [Rat.divInt_eq_div]
 rfl
theorem part_pos {z : Int} (h : 0 < z) : 0 < part z := by
 rw [part_eq]
 have : (0 : Rat) < (z : Rat) := by exact_mod_cast h
 grind
theorem part_nonneg {z : Int} (h : 0 ≤ z) : 0 ≤ part z := by
 rw [part_eq]
 have : (0 : Rat) ≤ (z : Rat) := by exact_mod_cast h
 grind
theorem part_add (x y : Int) : part (x + y) = part x + part y := by
 rw [part_eq, part_eq, part_eq, Rat.intCast_add]; grind
theorem part_le {x y : Int} (h : x ≤ y) : part x ≤ part y := by
 rw [part_eq, part_eq]
 have : (x : Rat) ≤ (y : Rat) := by exact_mod_cast h
 grind
theorem part_one : part 10000 = 1 := by decide +kernel
theorem part_zero : part 0 = 0 := by decide +kernel
end Tally
namespace Tally
def plc (o : Nat → Bool) : Nat → List Nat
 | 0 => []
 | n + 1 => plc o n ++ (if o n then [n] else [])
def plAt (o : Nat → Bool) (n k : Nat) : Nat := (plc o n).getD k 0
section
variable {o : Nat → Bool} {n : Nat}
theorem plc_succ : plc o (n + 1) = plc o n ++ (if o n = true then [n] else []) := rfl
theorem plAt_left {l : List Nat} {k : Nat} (hk : k < (plc o n).length) : (plc o n ++ l).getD k 0 = plAt o n k := by
 unfold plAt
 rw [List.getD_eq_getElem?_getD, List.getD_eq_getElem?_getD, List.getElem?_append_left hk]
theorem plAt_up {k : Nat} (hk : k < (plc o n).length) : plAt o (n + 1) k = plAt o n k := by
 show (plc o (n + 1)).getD k 0 = _
 rw [plc_succ, plAt_left hk]
theorem plc_no (h : ¬ o n = true) : plc o (n + 1) = plc o n := by rw [plc_succ, if_neg h, List.append_nil]
theorem plc_yes (h : o n = true) : plc o (n + 1) = plc o n ++ [n] := by rw [plc_succ, if_pos h]
theorem plAt_last (h : o n = true) : plAt o (n + 1) (plc o n).length = n := by
 show (plc o (n + 1)).getD _ 0 = _
 rw [plc_yes h]; simp
theorem plc_mem {e : Nat} : e ∈ plc o n ↔ e < n ∧ o e = true := by
 induction n with
 | zero => simp [plc]
 | succ n ih =>
  rw [plc_succ, List.mem_append, ih]
  by_cases h : o n = true
  ·rw [if_pos h]
   simp only [List.mem_singleton]
   constructor
   ·rintro (⟨a, b⟩ | a)
    ·exact ⟨by omega, b⟩
    ·subst a; exact ⟨by omega, h⟩
   ·rintro ⟨a, b⟩
    by_cases q : e = n
    ·exact .inr q
    ·exact .inl ⟨by omega, b⟩
  ·rw [if_neg h]
   simp only [List.not_mem_nil, or_false]
   constructor
   ·rintro ⟨a, b⟩; exact ⟨by omega, b⟩
   ·rintro ⟨a, b⟩
    refine ⟨?_, b⟩
    by_cases q : e = n
    ·subst q; exact absurd b h
    ·omega
theorem plAt_mem {k : Nat} (hk : k < (plc o n).length) : plAt o n k < n ∧ o (plAt o n k) = true := by
 have : plAt o n k ∈ plc o n := by
  unfold plAt
  rw [List.getD_eq_getElem?_getD, List.getElem?_eq_getElem hk]
  exact List.getElem_mem hk
 exact plc_mem.1 this
theorem plAt_of {e : Nat} (he : e < n) (ho : o e = true) : ∃ k, k < (plc o n).length ∧ plAt o n k = e := by
 obtain ⟨k, hk, e2⟩ := List.mem_iff_getElem.1 (plc_mem.2 ⟨he, ho⟩)
 exact ⟨k, hk, by unfold plAt; rw [List.getD_eq_getElem?_getD, List.getElem?_eq_getElem hk]; exact e2⟩
theorem plAt_lt {i j : Nat} (hij : i < j) (hj : j < (plc o n).length) : plAt o n i < plAt o n j := by
 induction n generalizing i j with
 | zero => simp [plc] at hj
 | succ n ih =>
  by_cases h : o n = true
  ·rw [plc_yes h, List.length_append, List.length_singleton] at hj
   by_cases hl : j < (plc o n).length
   ·rw [plAt_up (by omega), plAt_up hl]
    exact ih hij hl
   ·obtain rfl : j = (plc o n).length := by omega
    rw [plAt_up hij, plAt_last h]
    exact (plAt_mem hij).1
  ·rw [plc_no h] at hj
   rw [plAt_up (by omega), plAt_up hj]
   exact ih hij hj
theorem plAt_inj {i j : Nat} (hi : i < (plc o n).length) (hj : j < (plc o n).length) (e : plAt o n i = plAt o n j) : i = j := by
 rcases Nat.lt_trichotomy i j with h | h | h
 ·have := plAt_lt h hj; omega
 ·exact h
 ·have := plAt_lt h hi; omega
theorem plc_sum (F : Nat → Int) : isum (plc o n).length (fun k => F (plAt o n k)) = isum n (fun e => if o e = true then F e else 0) := by
 induction n with
 | zero => rfl
 | succ n ih =>
  have e1 : ∀ k, k < (plc o n).length → plAt o (n + 1) k = plAt o n k := fun k hk => plAt_up hk
  by_cases h : o n = true
  ·have hl : (plc o (n + 1)).length = (plc o n).length + 1 := by rw [plc_yes h]; simp
   rw [hl]
   simp only [isum]
   rw [plAt_last h, if_pos h, ← ih, isum_congr (g := fun k => F (plAt o n k)) (fun k hk => by rw [e1 k hk])]
  ·have hl : (plc o (n + 1)).length = (plc o n).length := by rw [plc_no h]
   rw [hl]
   simp only [isum]
   rw [if_neg h, Int.add_zero, ← ih]
   exact isum_congr fun k hk => by rw [e1 k hk]
theorem sum_part (m : Nat) (F : Nat → Int) : sumTo m (fun k => part (F k)) = part (isum m F) := by
 induction m with
 | zero => exact part_zero.symm
 | succ m ih => simp only [sumTo, isum]; rw [ih, part_add]
end
end Tally
namespace Tally
open Graph.Plain (ReachF IsReach)
theorem plc_sumQ {o : Nat → Bool} {n : Nat} (F : Nat → Rat) : sumTo (plc o n).length (fun k => F (plAt o n k)) = sumTo n (fun e => if o e = true then F e else 0) := by
 induction n with
 | zero => rfl
 | succ n ih =>
  by_cases h : o n = true
  ·have hl : (plc o (n + 1)).length = (plc o n).length + 1 := by rw [plc_yes h]; simp
   rw [hl]
   simp only [sumTo]
   rw [plAt_last h, if_pos h, ← ih, sumTo_congr (g := fun k => F (plAt o n k)) (fun k hk => by rw [plAt_up hk])]
  ·have hl : (plc o (n + 1)).length = (plc o n).length := by rw [plc_no h]
   rw [hl]
   simp only [sumTo]
   rw [if_neg h, Rat.add_zero, ← ih]
   exact sumTo_congr fun k hk => by rw [plAt_up hk]
def inner (Z : Nat → Nat → Int) : Nat → Nat → Int := fun h e => if h = 0 ∨ e = 0 then 0 else Z h e
def direct (n : Nat) (D : Nat → Int) : Nat → Prop := fun e => 1 ≤ e ∧ e < n ∧ 0 < D e
structure Shares (n : Nat) (Z : Nat → Nat → Int) (D : Nat → Int) : Prop where
 pos : ∀ h e, h < n → e < n → 0 ≤ Z h e
 dpos : ∀ e, 1 ≤ e → e < n → 0 ≤ D e
 sum : ∀ e, 1 ≤ e → e < n → isum n (fun h => if h = 0 then 0 else Z h e) + D e ≤ 10000
def Sol (n : Nat) (Z : Nat → Nat → Int) (D : Nat → Int) (o : Nat → Bool) (x : Nat → Rat) : Prop :=
 (∀ e, e < n → o e = false → x e = 0) ∧ ∀ e, e < n → o e = true → x e = part (D e) + sumTo n (fun h => part (Z h e) * x h)
section
variable {n : Nat} {Z : Nat → Nat → Int} {D : Nat → Int} {o : Nat → Bool} {x y : Nat → Rat}
theorem reach_inner {I : Nat → Prop} (hI : ∀ e, I e → 1 ≤ e ∧ e < n) {e : Nat} (h : ReachF n (inner Z) I e) : 1 ≤ e ∧ e < n :=
 h (fun e => 1 ≤ e ∧ e < n) hI (fun a b ha hb hS hz => by
  refine ⟨?_, hb⟩
  unfold inner at hz
  by_cases q : a = 0 ∨ b = 0
  ·rw [if_pos q] at hz; exact absurd hz (by decide)
  ·omega)
theorem reach_pos (ho : IsReach n (inner Z) (direct n D) o) {e : Nat} (he : e < n) (h : o e = true) : 1 ≤ e :=
 (reach_inner (n := n) (fun _ h => ⟨h.1, h.2.1⟩) ((ho.iff he).1 h)).1
theorem inner_pos {h e : Nat} (hh : 1 ≤ h) (he : 1 ≤ e) : inner Z h e = Z h e := by unfold inner; rw [if_neg (by omega)]
theorem unreached (hs : Shares n Z D) (ho : IsReach n (inner Z) (direct n D) o) {e : Nat} (h1 : 1 ≤ e) (he : e < n) (h : o e = false) : D e = 0 ∧ ∀ k, k < n → o k = true → Z k e = 0 := by
 have hno : ¬ ReachF n (inner Z) (direct n D) e := fun q => by rw [(ho.iff he).2 q] at h; exact absurd h (by decide)
 constructor
 ·by_cases q : 0 < D e
  ·exact absurd (ReachF.init ⟨h1, he, q⟩) hno
  ·have := hs.dpos e h1 he; omega
 ·intro k hk hok
  by_cases q : 0 < Z k e
  ·exact absurd (((ho.iff hk).1 hok).step hk he (by rw [inner_pos (reach_pos ho hk hok) h1]; exact q)) hno
  ·have := hs.pos k e hk he; omega
def plB (o : Nat → Bool) (n : Nat) (Z : Nat → Nat → Int) : Mx := fun i k => part (Z (plAt o n k) (plAt o n i))
def plD (o : Nat → Bool) (n : Nat) (D : Nat → Int) : Nat → Rat := fun i => part (D (plAt o n i))
theorem plB_pos (hs : Shares n Z D) : ∀ i k, i < (plc o n).length → k < (plc o n).length → 0 ≤ plB o n Z i k := fun _ _ hi hk => part_nonneg (hs.pos _ _ (plAt_mem hk).1 (plAt_mem hi).1)
theorem plD_pos (hs : Shares n Z D) (ho : IsReach n (inner Z) (direct n D) o) : ∀ i, i < (plc o n).length → 0 ≤ plD o n D i := fun _ hi => part_nonneg (hs.dpos _ (reach_pos ho (plAt_mem hi).1 (plAt_mem hi).2) (plAt_mem hi).1)
theorem pl_sum (hs : Shares n Z D) (ho : IsReach n (inner Z) (direct n D) o) : ∀ i, i < (plc o n).length → sumTo (plc o n).length (plB o n Z i) + plD o n D i ≤ 1 := by
 intro i hi
 obtain ⟨h1, h2⟩ := plAt_mem hi
 unfold plB plD
 rw [sum_part _ (fun k => Z (plAt o n k) (plAt o n i)), plc_sum (fun h => Z h (plAt o n i)), ← part_add, ← part_one]
 refine part_le (Int.le_trans (Int.add_le_add_right (isum_le fun k hk => ?_) _) (hs.sum _ (reach_pos ho h1 h2) h1))
 by_cases q : o k = true
 ·rw [if_pos q]
  by_cases z : k = 0
  ·have := reach_pos ho hk q; omega
  ·rw [if_neg z]; exact Int.le_refl _
 ·rw [if_neg q]
  by_cases z : k = 0
  ·rw [if_pos z]; exact Int.le_refl _
  ·rw [if_neg z]; exact hs.pos _ _ hk h1
theorem pl_fed (_hs : Shares n Z D) (ho : IsReach n (inner Z) (direct n D) o) : ∀ i, i < (plc o n).length → Fed (plc o n).length (plB o n Z) (plD o n D) i :=
 fed_of_reach (n := n) (Z := inner Z) (I := direct n D) (P := plAt o n)
  (fun e he hr => plAt_of he ((ho.iff he).2 hr))
  (fun i hi => ⟨(plAt_mem hi).1, (ho.iff (plAt_mem hi).1).1 (plAt_mem hi).2⟩)
  (fun i _ h => part_pos h.2.2)
  (fun i k hi hk h => by
   refine part_pos ?_
   rwa [inner_pos (reach_pos ho (plAt_mem hk).1 (plAt_mem hk).2) (reach_pos ho (plAt_mem hi).1 (plAt_mem hi).2)] at h)
theorem pl_rank (hs : Shares n Z D) (ho : IsReach n (inner Z) (direct n D) o) {s : St} {y : Nat → Rat} (h : Run upR (plc o n).length (wideM (plc o n).length (eqM (plB o n Z)) y) (plc o n).length s) : s.rank = (plc o n).length :=
 fed_rank (plB_pos hs) (plD_pos hs ho) (pl_sum hs ho) (pl_fed hs ho) h
def fillP (o : Nat → Bool) (n : Nat) (v : Nat → Rat) : Nat → Nat → Rat
 | 0, _ => 0
 | j + 1, e => if e = plAt o n j then v j else fillP o n v j e
theorem fillP_at {v : Nat → Rat} {j i : Nat} (hi : i < j) (hj : j ≤ (plc o n).length) : fillP o n v j (plAt o n i) = v i := by
 induction j with
 | zero => omega
 | succ j ih =>
  unfold fillP
  by_cases q : i = j
  ·subst q; rw [if_pos rfl]
  ·rw [if_neg (fun e => q (plAt_inj (by omega) (by omega) e)), ih (by omega) (by omega)]
theorem fillP_no {v : Nat → Rat} {j e : Nat} (hj : j ≤ (plc o n).length) (h : o e = false) : fillP o n v j e = 0 := by
 induction j with
 | zero => rfl
 | succ j ih =>
  unfold fillP
  rw [if_neg, ih (by omega)]
  intro q
  have := (plAt_mem (o := o) (n := n) (k := j) (by omega)).2
  rw [← q, h] at this
  exact absurd this (by decide)
theorem sol_of_run (hs : Shares n Z D) (ho : IsReach n (inner Z) (direct n D) o) {s : St} (h : Run upR (plc o n).length (wideM (plc o n).length (eqM (plB o n Z)) (plD o n D)) (plc o n).length s) :
  Sol n Z D o (fillP o n (fun i => s.A i (plc o n).length / s.A i i) (plc o n).length) := by
 refine ⟨fun e _ h => fillP_no (Nat.le_refl _) h, fun e he h1 => ?_⟩
 obtain ⟨i, hi, rfl⟩ := plAt_of he h1
 have h2 := solve_sum h (pl_rank hs ho h) i hi
 rw [eq_sum hi] at h2
 have h3 : sumTo (plc o n).length (fun k => plB o n Z i k * (s.A k (plc o n).length / s.A k k)) = sumTo n (fun h => part (Z h (plAt o n i)) * fillP o n (fun i => s.A i (plc o n).length / s.A i i) (plc o n).length h) := by
  rw [sumTo_congr (g := fun k => (fun h => part (Z h (plAt o n i)) * fillP o n (fun i => s.A i (plc o n).length / s.A i i) (plc o n).length h) (plAt o n k)) (fun k hk => by
   show _ = part (Z (plAt o n k) (plAt o n i)) * fillP o n _ _ (plAt o n k)
   rw [fillP_at hk (Nat.le_refl _)]; rfl),
   plc_sumQ (o := o) (n := n) (fun h => part (Z h (plAt o n i)) * fillP o n (fun i => s.A i (plc o n).length / s.A i i) (plc o n).length h)]
  refine sumTo_congr fun k hk => ?_
  by_cases q : o k = true
  ·rw [if_pos q]
  ·rw [if_neg q, fillP_no (Nat.le_refl _) (by simpa using q)]; exact (Rat.mul_zero _).symm
 rw [h3] at h2
 rw [fillP_at hi (Nat.le_refl _)]
 have h4 : plD o n D i = part (D (plAt o n i)) := rfl
 rw [h4] at h2
 rw [← h2]
 grind
theorem Sol.unique (hs : Shares n Z D) (ho : IsReach n (inner Z) (direct n D) o) (hx : Sol n Z D o x) (hy : Sol n Z D o y) : ∀ e, e < n → x e = y e := by
 have key := fed_zero (x := fun i => x (plAt o n i) - y (plAt o n i)) (plB_pos hs) (plD_pos hs ho) (pl_sum hs ho) (pl_fed hs ho) (fun i hi => by
  obtain ⟨h1, h2⟩ := plAt_mem hi
  show x (plAt o n i) - y (plAt o n i) = _
  rw [hx.2 _ h1 h2, hy.2 _ h1 h2]
  have e1 : sumTo (plc o n).length (fun k => plB o n Z i k * (x (plAt o n k) - y (plAt o n k))) = sumTo n (fun h => part (Z h (plAt o n i)) * x h + (-1) * (part (Z h (plAt o n i)) * y h)) := by
   refine (plc_sumQ (o := o) (n := n) (fun h => part (Z h (plAt o n i)) * (x h - y h))).trans ?_
   refine sumTo_congr fun k hk => ?_
   by_cases q : o k = true
   ·rw [if_pos q]; grind
   ·rw [if_neg q, hx.1 k hk (by simpa using q), hy.1 k hk (by simpa using q)]; grind
  rw [e1, sumTo_add, sumTo_mul]
  grind)
 intro e he
 by_cases q : o e = true
 ·obtain ⟨i, hi, rfl⟩ := plAt_of he q
  have := key i hi
  grind
 ·rw [hx.1 e he (by simpa using q), hy.1 e he (by simpa using q)]
theorem Sol.eq (hs : Shares n Z D) (ho : IsReach n (inner Z) (direct n D) o) (hx : Sol n Z D o x) {e : Nat} (h1 : 1 ≤ e) (he : e < n) : x e = part (D e) + sumTo n (fun h => part (Z h e) * x h) := by
 by_cases q : o e = true
 ·exact hx.2 e he q
 ·have q' : o e = false := by simpa using q
  obtain ⟨a, b⟩ := unreached hs ho h1 he q'
  rw [hx.1 e he q', a, part_zero, sumTo_congr (g := fun _ => 0 * (0 : Rat)) (fun k hk => by
   by_cases z : o k = true
   ·rw [b k hk z, part_zero]; grind
   ·rw [hx.1 k hk (by simpa using z)]; grind), sumTo_mul]
  grind
end
end Tally
namespace Tally
open Graph.Plain (ReachF IsReach Great IsClosed hold)
theorem low_of (n : Nat) (x : Nat → Rat) : ∃ M : Rat, 0 ≤ M ∧ (∀ k, k < n → -M ≤ x k) ∧ (M = 0 ∨ ∃ k, k < n ∧ x k = -M) := by
 induction n with
 | zero => exact ⟨0, Rat.le_refl, fun k hk => absurd hk (Nat.not_lt_zero _), .inl rfl⟩
 | succ n ih =>
  obtain ⟨M, h0, h1, h2⟩ := ih
  by_cases hm : x n < -M
  ·refine ⟨-x n, by grind, fun k hk => ?_, .inr ⟨n, by omega, by grind⟩⟩
   by_cases e : k = n
   ·subst e; grind
   ·have := h1 k (by omega); grind
  ·refine ⟨M, h0, fun k hk => ?_, ?_⟩
   ·by_cases e : k = n
    ·subst e; grind
    ·exact h1 k (by omega)
   ·rcases h2 with h2 | ⟨k, hk, h2⟩
    ·exact .inl h2
    ·exact .inr ⟨k, by omega, h2⟩
theorem sum_ge {n a : Nat} {f : Nat → Rat} (h : ∀ k, k < n → 0 ≤ f k) (ha : a < n) : f a ≤ sumTo n f := by
 have h1 : sumTo n (fun k => if k = a then f a else 0) = f a := by
  rw [sumTo_one (j := a) ha (fun k hk hn => by rw [if_neg hn]), if_pos rfl]
 rw [← h1]
 refine sum_le fun k hk => ?_
 by_cases e : k = a
 ·subst e; rw [if_pos rfl]; exact Rat.le_refl
 ·rw [if_neg e]; exact h k hk
theorem sum_nonneg {n : Nat} {f : Nat → Rat} (h : ∀ k, k < n → 0 ≤ f k) : 0 ≤ sumTo n f := by
 induction n with
 | zero => exact Rat.le_refl
 | succ n ih =>
  simp only [sumTo]
  have h1 := ih (fun k hk => h k (by omega))
  have h2 := h n (by omega)
  grind
section
variable {n : Nat} {B : Mx} {c d x : Nat → Rat}
theorem fed_more {M : Rat} (hB : ∀ i k, i < n → k < n → 0 ≤ B i k) (hd : ∀ i, i < n → 0 ≤ d i) (hs : ∀ i, i < n → sumTo n (B i) + d i ≤ 1) (hc : ∀ i, i < n → 0 ≤ c i) (hx : ∀ i, i < n → x i = c i + sumTo n (fun k => B i k * x k)) (hM : 0 < M) (hb : ∀ k, k < n → -M ≤ x k) {i : Nat} (hf : Fed n B d i) : -M < x i := by
 induction hf with
 | start i hi hdi =>
  have e := hx i hi
  have e0 := hc i hi
  have u2 : sumTo n (fun k => (-M) * B i k) ≤ sumTo n (fun k => B i k * x k) := sum_le fun k hk => by have := mul_up (hB i k hi hk) (hb k hk); grind
  rw [sumTo_mul] at u2
  have h1 := hs i hi
  have h2 : sumTo n (B i) < 1 := by grind
  have h3 := mul_up_lt hM h2
  grind
 | step i k hi hk _ hp ih =>
  have e := hx i hi
  have e0 := hc i hi
  have u2 : sumTo n (fun k => (-M) * B i k) < sumTo n (fun k => B i k * x k) := sum_lt (fun j hj => by have := mul_up (hB i j hi hj) (hb j hj); grind) hk (by have := mul_up_lt hp ih; grind)
  rw [sumTo_mul] at u2
  have h1 := hs i hi
  have h0 := hd i hi
  have h2 : sumTo n (B i) ≤ 1 := by grind
  have h3 := mul_up (Rat.le_of_lt hM) h2
  grind
theorem fed_nonneg (hB : ∀ i k, i < n → k < n → 0 ≤ B i k) (hd : ∀ i, i < n → 0 ≤ d i) (hs : ∀ i, i < n → sumTo n (B i) + d i ≤ 1) (hc : ∀ i, i < n → 0 ≤ c i) (hf : ∀ i, i < n → Fed n B d i) (hx : ∀ i, i < n → x i = c i + sumTo n (fun k => B i k * x k)) : ∀ i, i < n → 0 ≤ x i := by
 obtain ⟨M, h0, hb, ht⟩ := low_of n x
 have hz : M = 0 := by
  rcases ht with h | ⟨k, hk, h⟩
  ·exact h
  ·by_cases hM : 0 < M
   ·have := fed_more hB hd hs hc hx hM hb (hf k hk)
    grind
   ·grind
 intro i hi
 have := hb i hi
 grind
end
section
variable {n : Nat} {Z : Nat → Nat → Int} {D : Nat → Int} {o : Nat → Bool} {x y : Nat → Rat}
theorem inner_zero (h e : Nat) (hz : 0 < inner Z h e) : 1 ≤ h ∧ 1 ≤ e ∧ 0 < Z h e := by
 unfold inner at hz
 by_cases q : h = 0 ∨ e = 0
 ·rw [if_pos q] at hz; exact absurd hz (by decide)
 ·rw [if_neg q] at hz; exact ⟨by omega, by omega, hz⟩
theorem mul_nn {a b : Rat} (ha : 0 ≤ a) (hb : 0 ≤ b) : 0 ≤ a * b := by have := mul_up ha hb; grind
theorem mul_pp {a b : Rat} (ha : 0 < a) (hb : 0 < b) : 0 < a * b := by have := mul_up_lt ha hb; grind
theorem reach_zero (ho : IsReach n (inner Z) (direct n D) o) (hn : 0 < n) : o 0 = false := by
 cases q : o 0
 ·rfl
 ·have := reach_pos ho hn q; omega
theorem Sol.zero (ho : IsReach n (inner Z) (direct n D) o) (hx : Sol n Z D o x) (hn : 0 < n) : x 0 = 0 := hx.1 0 hn (reach_zero ho hn)
end
end Tally
namespace Tally
theorem part_sub (x y : Int) : part (x - y) = part x - part y := by
 have h := part_add (x - y) y
 rw [show x - y + y = x by omega] at h
 rw [h]; grind
theorem few_part {z : Int} (h1 : 0 ≤ z) (h2 : z ≤ 10000) : FewD 5 (part z) := by
 have e : (10 : Nat) ^ 5 = 100000 := by decide
 exact ⟨z, 10000, by decide, by omega, by decide, rfl⟩
theorem eq_row {m i : Nat} {Z : Nat → Nat → Int} (hz : ∀ k, k < m → 0 ≤ Z i k ∧ Z i k ≤ 10000) : RowD 5 m (eqM (fun i k => part (Z i k)) i) := by
 have e : (10 : Nat) ^ 5 = 100000 := by decide
 refine ⟨10000, by decide, by decide, fun k hk => ⟨(if k = i then 10000 else 0) - Z i k, ?_, ?_⟩⟩
 ·have := hz k hk
  by_cases q : k = i
  ·rw [if_pos q]; omega
  ·rw [if_neg q]; omega
 ·show eqM (fun i k => part (Z i k)) i k = part ((if k = i then 10000 else 0) - Z i k)
  rw [part_sub]
  show (if k = i then (1 : Rat) else 0) - part (Z i k) = _
  by_cases q : k = i
  ·rw [if_pos q, if_pos q, part_one]
  ·rw [if_neg q, if_neg q, part_zero]
end Tally
