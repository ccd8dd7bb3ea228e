/- What Apply, Check of both give for small matrices and vectors. -/
import Derived.Test.YtjphfdlpcakpeaaGreatDoorLawLinearInverts
import Derived.Test.YtjphfdlpcakpeaaGreatDoorRLinQ
import Derived.Test.YtjphfdlpcakpeaaGreatDoorRLinN
import Derived.Test.YtjphfdlpcakpeaaGreatDoorLSame
namespace Go.Proofs.YtjphfdlpcakpeaaGreatDoor
open Go.RowKit Tally

theorem heads_pair {w : World} {g n c n2 c2 : Nat} {a a2 : Option Addr} {T : TypeId} (h : w.heap[g]? = some (.cells #[.slice a n c, .slice a2 n2 c2] T (0, 0))) : HeadsR w (.slice (some ⟨g, 0, none⟩) 2 2) 2 (fun i => if i = 0 then n else n2) := by
  obtain ⟨h0, h1⟩ := two_cells h
  refine ⟨_, g, 0, 2, rfl, Nat.le_refl _, by decide, fun _ => rfl, fun i hi => ?_⟩
  match i, hi with
  | 0, _ => exact ⟨a, c, h0⟩
  | 1, _ => exact ⟨a2, c2, h1⟩
def AppOk (m n : Nat) (L : Nat → Nat) : Prop := IsMat m L ∧ n = colsN m L
noncomputable def appLen (m n : Nat) (L : Nat → Nat) : Nat := open Classical in if AppOk m n L then m else 0
noncomputable def appCode (m n : Nat) (L : Nat → Nat) : Int := open Classical in if AppOk m n L then 0 else 1
def appSum (n : Nat) (A : Mx) (x : Nat → Rat) : Nat → Rat := fun i => sumTo n (fun j => A i j * x j)
theorem appLen_le {m n : Nat} {L : Nat → Nat} {i : Nat} (h : i < appLen m n L) : AppOk m n L ∧ i < m := by
  unfold appLen at h
  split at h
  · rename_i q; exact ⟨q, h⟩
  · exact absurd h (Nat.not_lt_zero _)
def GivesApp (w : World) (k : Nat) (f : Nat → Rat) (cd : Int) (e : Ending) (w' : World) : Prop :=
  ∃ (a : Option Addr) (c : Nat), e = .returned (.tuple #[.slice a k c, .int .i64 cd]) ∧ RatsR w' (.slice a k c) k f ∧ Below w.heap.size w w'
def rGivesApp (w : World) (k : Nat) (f : Nat → Rat) (cd : Int) (e : Ending) (w' : World) : Prop :=
  ∃ (a : Option Addr) (c : Nat), e = .returned (.tuple #[.slice a k c, .int .i64 cd]) ∧ rRatsR w' (.slice a k c) k f ∧ Below w.heap.size w w'
theorem rats_none (w : World) (f : Nat → Rat) : RatsR w (.slice none 0 0) 0 f := ⟨[], rfl, ⟨none, 0, 0, 0, rfl, Nat.le_refl _, Nat.zero_le _, fun h => absurd h (by decide), fun k x h => by simp at h⟩, fun k x h => by simp at h⟩
theorem rrats_none (w : World) (f : Nat → Rat) : rRatsR w (.slice none 0 0) 0 f := ⟨[], rfl, ⟨none, 0, 0, 0, rfl, Nat.le_refl _, Nat.zero_le _, fun h => absurd h (by decide), fun k x h => by simp at h⟩, fun k x h => by simp at h⟩

section
variable {w : World} {v u t : Value} {m n q d e0 e1 : Nat} {L : Nat → Nat} {Z : Nat → Nat → Int} {x y : Nat → Int}

theorem app_sizes (hok : AppOk m n L) (hz : ∀ i, i < m → Small (L i) (Z i)) (hxs : Small n x) (hd : d ≤ 255) (he : e0 ≤ 255) :
    (∀ i, i < m → ∀ k, k < n → Rg 11 (ratM d Z i k)) ∧ (∀ k, k < n → Rg 11 (ratV e0 x k)) ∧ (∀ i, i < m → ∀ k, k ≤ n → Rg 11 (sumTo k (fun j => ratM d Z i j * ratV e0 x j))) := by
  have hn : n ≤ 24 := by have := hok.1.2.2; have := hok.2; omega
  have hl : ∀ i, i < m → Small n (Z i) := fun i hi k hk => hz i hi k (by have := hok.1.1 i hi; have := hok.2; omega)
  exact ⟨fun i hi k hk => Rg.mono (int16_fw (hl i hi k hk).1 (hl i hi k hk).2 hd : Rg 5 (ratM d Z i k)) (by decide), fun k hk => Rg.mono (int16_fw (hxs k hk).1 (hxs k hk).2 he : Rg 5 (ratV e0 x k)) (by decide),
    fun i hi k hk => Rg.of (FewD.fw (sum_few (d := d) (e := e0) (n := n) (by omega) hd he (hl i hi) hxs k hk))⟩

theorem apply_some (h : MatsR w v m L (ratM d Z)) (hz : ∀ i, i < m → Small (L i) (Z i)) (hd : d ≤ 255) (hx : RatsR w u n (ratV e0 x)) (hxs : Small n x) (he : e0 ≤ 255) :
    Calls Tryz.prog 18 #[v, u] w (GivesApp w (appLen m n L) (appSum n (ratM d Z) (ratV e0 x)) (appCode m n L)) := by
  by_cases hok : AppOk m n L
  · obtain ⟨s1, s2, s3⟩ := app_sizes hok hz hxs hd he
    rw [show appLen m n L = m by unfold appLen; rw [if_pos hok], show appCode m n L = 0 by unfold appCode; rw [if_pos hok]]
    exact apply_yes h hok.1 hok.2.symm hx s1 s2 s3 (by decide)
  · rw [show appLen m n L = 0 by unfold appLen; rw [if_neg hok], show appCode m n L = 1 by unfold appCode; rw [if_neg hok]]
    refine (apply_no h hx hok).mono ?_
    rintro e w' ⟨rfl, hb⟩
    exact ⟨none, 0, rfl, rats_none _ _, hb⟩
theorem rapply_some (h : rMatsR w v m L (ratM d Z)) (hz : ∀ i, i < m → Small (L i) (Z i)) (hd : d ≤ 255) (hx : rRatsR w u n (ratV e0 x)) (hxs : Small n x) (he : e0 ≤ 255) :
    Calls Tryz.prog 19 #[v, u] w (rGivesApp w (appLen m n L) (appSum n (ratM d Z) (ratV e0 x)) (appCode m n L)) := by
  by_cases hok : AppOk m n L
  · obtain ⟨s1, s2, s3⟩ := app_sizes hok hz hxs hd he
    rw [show appLen m n L = m by unfold appLen; rw [if_pos hok], show appCode m n L = 0 by unfold appCode; rw [if_pos hok]]
    exact rapply_yes h hok.1 hok.2.symm hx s1 s2 s3 (by decide)
  · rw [show appLen m n L = 0 by unfold appLen; rw [if_neg hok], show appCode m n L = 1 by unfold appCode; rw [if_neg hok]]
    refine (rapply_no h hx hok).mono ?_
    rintro e w' ⟨rfl, hb⟩
    exact ⟨none, 0, rfl, rrats_none _ _, hb⟩
theorem check_some (h : MatsR w v m L (ratM d Z)) (hz : ∀ i, i < m → Small (L i) (Z i)) (hd : d ≤ 255) (hx : RatsR w u n (ratV e0 x)) (hxs : Small n x) (he : e0 ≤ 255) (hy : RatsR w t q (ratV e1 y)) (hys : Small q y) (he1 : e1 ≤ 255) (X : Bool)
    (hX : X = true ↔ AppOk m n L ∧ m = q ∧ ∀ k, k < m → sumTo n (fun j => ratM d Z k j * ratV e0 x j) = ratV e1 y k) :
    Calls Tryz.prog 22 #[v, u, t] w fun e w' => e = .returned (.bool X) ∧ Below w.heap.size w w' := by
  by_cases hok : AppOk m n L
  · obtain ⟨s1, s2, s3⟩ := app_sizes hok hz hxs hd he
    exact check_yes h hok.1 hok.2.symm hx hy s1 s2 s3 (fun k hk => Rg.mono (int16_fw (hys k hk).1 (hys k hk).2 he1 : Rg 5 (ratV e1 y k)) (by decide)) (by decide) X (hX.trans ⟨fun a => a.2, fun a => ⟨hok, a⟩⟩)
  · obtain rfl : X = false := by
      rcases hx2 : X with _ | _
      · rfl
      · exact absurd (hX.1 hx2).1 hok
    exact check_no h hx hy hok
theorem rcheck_some (h : rMatsR w v m L (ratM d Z)) (hz : ∀ i, i < m → Small (L i) (Z i)) (hd : d ≤ 255) (hx : rRatsR w u n (ratV e0 x)) (hxs : Small n x) (he : e0 ≤ 255) (hy : rRatsR w t q (ratV e1 y)) (hys : Small q y) (he1 : e1 ≤ 255) (X : Bool)
    (hX : X = true ↔ AppOk m n L ∧ m = q ∧ ∀ k, k < m → sumTo n (fun j => ratM d Z k j * ratV e0 x j) = ratV e1 y k) :
    Calls Tryz.prog 23 #[v, u, t] w fun e w' => e = .returned (.bool X) ∧ Below w.heap.size w w' := by
  by_cases hok : AppOk m n L
  · obtain ⟨s1, s2, s3⟩ := app_sizes hok hz hxs hd he
    exact rcheck_yes h hok.1 hok.2.symm hx hy s1 s2 s3 (fun k hk => Rg.mono (int16_fw (hys k hk).1 (hys k hk).2 he1 : Rg 5 (ratV e1 y k)) (by decide)) (by decide) X (hX.trans ⟨fun a => a.2, fun a => ⟨hok, a⟩⟩)
  · obtain rfl : X = false := by
      rcases hx2 : X with _ | _
      · rfl
      · exact absurd (hX.1 hx2).1 hok
    exact rcheck_no h hx hy hok
end
end Go.Proofs.YtjphfdlpcakpeaaGreatDoor
